/- Put together by pack.py: TreeGood -/
import Derived.Test.YtidlldfghkaeeaaDoorZmTreeList
import Derived.Test.YtidlldfghkaeeaaDoorZmPthUp
namespace Go.Proofs.YtidlldfghkaeeaaDoor.P
open Go.RowKit
set_option linter.unusedVariables false
set_option linter.unusedSimpArgs false

theorem up_lt {p : ByteArray} (hg : Gd p.data.toList) : ltP (upB p) p := by
  unfold ltP
  rw [upB_data]
  rcases up_cases hg with ⟨h1, h2, h3⟩ | ⟨x, _, _, _, h2, _⟩
  · rw [h1, sp_none _ h2]
    have : c1 [] p.data.toList = -1 := by
      refine c1_lt.2 ?_
      cases e : p.data.toList with
      | nil => exact absurd e h3
      | cons a l => rfl
    simp [sp, cL, this]
  · rw [h2, cL_longer]
    decide
theorem up_ne {p : ByteArray} (hg : Gd p.data.toList) : upB p ≠ p := ltP_ne (up_lt hg)
section
variable {α : Type} (pth : α → ByteArray) (dir : α → Bool) (byt : α → List Int)
/-- All bytes. -/
def nB (l : List α) : Nat := (l.map fun e => (byt e).length).sum
/-- An entry that may be, among these. -/
def okE (l : List α) (e : α) : Prop := Gd (pth e).data.toList ∧ (dir e = true → byt e = []) ∧ (byt e).length ≤ 2048 ∧ (upL (pth e).data.toList = [] ∨ ∃ d ∈ l, pth d = upB (pth e) ∧ dir d = true)
/-- A tree. -/
def GT (l : List α) : Prop := l.length ≤ 40 ∧ nB byt l ≤ 16384 ∧ Srt pth l ∧ ∀ e ∈ l, okE pth dir byt l e
end
section
variable {α : Type} {pth : α → ByteArray} {dir : α → Bool} {byt : α → List Int}
theorem nB_append (a b : List α) : nB byt (a ++ b) = nB byt a + nB byt b := by simp [nB]
theorem nB_cons (x : α) (l : List α) : nB byt (x :: l) = (byt x).length + nB byt l := by simp [nB]
theorem nB_filter (f : α → Bool) (l : List α) : nB byt (l.filter f) ≤ nB byt l := by
  induction l with
  | nil => exact Nat.le_refl _
  | cons x l ih =>
    rw [List.filter_cons]
    split
    · rw [nB_cons, nB_cons]; omega
    · rw [nB_cons]; omega
theorem GT_nil : GT pth dir byt ([] : List α) := ⟨by simp, by simp [nB], List.Pairwise.nil, by simp⟩
/-- Whether something may stand in a path's Up. -/
def room (pth : α → ByteArray) (dir : α → Bool) (l : List α) (p : ByteArray) : Int :=
  if upL p.data.toList = [] then 0 else match l.find? (fun e => decide (pth e = upB p)) with
    | none => 1
    | some d => if dir d = true then 0 else 4
end
end Go.Proofs.YtidlldfghkaeeaaDoor.P
