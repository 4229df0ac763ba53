/- Put together by pack.py: PthSort -/
import Derived.Test.YtidlldfghkaeeaaDoorZmSrt
namespace Go.Proofs.YtidlldfghkaeeaaDoor.P
open Go.RowKit Go.Proofs.YtidlldfghkaeeaaDoorW.PrintWords Go.Proofs.YtidlldfghkaeeaaDoorW.PrintLast
set_option linter.unusedVariables false
set_option linter.unusedSimpArgs false

theorem dk_mem {α : Type} [DecidableEq α] {y : α} : ∀ {l : List α} {p : Option α}, y ∈ dk p l → y ∈ l
  | [], _, h => h
  | x :: xs, p, h => by
    unfold dk at h
    split at h
    · exact List.mem_cons_of_mem _ (dk_mem h)
    · rcases List.mem_cons.1 h with rfl | h
      · exact List.mem_cons_self
      · exact List.mem_cons_of_mem _ (dk_mem h)
theorem mem_dk {α : Type} [DecidableEq α] {y : α} : ∀ {l : List α} {p : Option α}, y ∈ l → y ∈ dk p l ∨ p = some y
  | x :: xs, p, h => by
    unfold dk
    split
    · rename_i hp
      rcases List.mem_cons.1 h with rfl | h
      · exact .inr hp
      · exact mem_dk h
    · rcases List.mem_cons.1 h with rfl | h
      · exact .inl List.mem_cons_self
      · rcases mem_dk (p := some x) h with h | h
        · exact .inl (List.mem_cons_of_mem _ h)
        · exact .inl (by rw [Option.some.inj h]; exact List.mem_cons_self)
theorem dk_ne {l : List ByteArray} {p : ByteArray} (h : l.Pairwise (fun a b => leP a b = true)) (hp : ∀ x ∈ l, leP p x = true) : ∀ y ∈ dk (some p) l, y ≠ p := by
  induction l with
  | nil => intro y hy; cases hy
  | cons x xs ih =>
    intro y hy
    have h1 := List.pairwise_cons.1 h
    unfold dk at hy
    split at hy
    · exact ih h1.2 (fun z hz => hp z (List.mem_cons_of_mem _ hz)) y hy
    · rename_i hx
      rintro rfl
      rcases List.mem_cons.1 hy with rfl | hy
      · exact hx rfl
      · exact hx (congrArg some (leP_anti (hp x List.mem_cons_self) (h1.1 _ (dk_mem hy))))
theorem dk_strict : ∀ {l : List ByteArray} {p : Option ByteArray}, l.Pairwise (fun a b => leP a b = true) → (dk p l).Pairwise (fun a b => leP a b = true ∧ a ≠ b)
  | [], _, _ => .nil
  | x :: xs, p, h => by
    have h1 := List.pairwise_cons.1 h
    unfold dk
    split
    · exact dk_strict h1.2
    · exact List.pairwise_cons.2 ⟨fun y hy => ⟨h1.1 y (dk_mem hy), fun e => dk_ne h1.2 h1.1 y hy e.symm⟩, dk_strict h1.2⟩
theorem dk_same : ∀ {l : List ByteArray} {p : Option ByteArray}, l.Pairwise (fun a b => leP a b = true ∧ a ≠ b) → (∀ y ∈ l, p ≠ some y) → dk p l = l
  | [], _, _, _ => rfl
  | x :: xs, p, h, hp => by
    have h1 := List.pairwise_cons.1 h
    rw [dk, if_neg (hp x List.mem_cons_self), dk_same h1.2 (fun y hy e => (h1.1 y hy).2 (Option.some.inj e))]
theorem isort_same {l : List ByteArray} (h : l.Pairwise (fun a b => leP a b = true)) : isort l = l := by rw [← isort_eq, List.mergeSort_of_pairwise h]
/-- What path.Sort makes. -/
def srt (l : List ByteArray) : List ByteArray := dk none (isort (l.filter gd))
theorem srt_strict (l : List ByteArray) : (srt l).Pairwise (fun a b => leP a b = true ∧ a ≠ b) := dk_strict (isort_sorted _)
theorem srt_mem {l : List ByteArray} {x : ByteArray} : x ∈ srt l ↔ x ∈ l ∧ gd x = true := by
  unfold srt
  rw [← List.mem_filter, ← (isort_perm (l.filter gd)).mem_iff]
  constructor
  · exact dk_mem
  · intro h
    rcases mem_dk (p := none) h with h | h
    · exact h
    · cases h
theorem srt_srt (l : List ByteArray) : srt (srt l) = srt l := by
  have h := srt_strict l
  have hf : (srt l).filter gd = srt l := List.filter_eq_self.2 fun x hx => (srt_mem.1 hx).2
  have hi : isort (srt l) = srt l := isort_same (h.imp fun h => h.1)
  show dk none (isort ((srt l).filter gd)) = srt l
  rw [hf, hi]
  exact dk_same h (fun _ _ h => by cases h)
theorem dk_len {α : Type} [DecidableEq α] : ∀ (l : List α) (p : Option α), (dk p l).length ≤ l.length
  | [], _ => Nat.le_refl _
  | x :: xs, p => by
    unfold dk
    split
    · exact Nat.le_succ_of_le (dk_len xs p)
    · exact Nat.succ_le_succ (dk_len xs _)
theorem srt_len (l : List ByteArray) : (srt l).length ≤ l.length := by
  refine Nat.le_trans (dk_len _ _) ?_
  rw [(isort_perm _).length_eq]
  exact List.length_filter_le _ _
theorem path_Sort_eq {l : List ByteArray} (h1 : l.length < 8796093022208) (h2 : ∀ x ∈ l, x.size < 4294967281) : path_Sort.f l = some (srt l) := by
  unfold path_Sort.f
  rw [if_pos h1, if_pos (List.all_eq_true.2 fun x hx => decide_eq_true (h2 x hx))]
  rfl
theorem cL_ext : ∀ (xs : List (List UInt8)) (y : List UInt8) (ys : List (List UInt8)), cL xs (xs ++ y :: ys) = -1
  | [], y, ys => rfl
  | x :: xs, y, ys => by
    rw [List.cons_append, cL, if_pos (c1_eq.2 rfl)]
    exact cL_ext xs y ys
/-- What is in something comes behind it. -/
theorem not_under {a b : ByteArray} (h : leP a b = true) (hp : (b.data.toList ++ [47]) <+: a.data.toList) : False := by
  obtain ⟨t, ht⟩ := hp
  have h := leP_iff.1 h
  rw [← ht, List.append_assoc, List.singleton_append, sp_app] at h
  obtain ⟨y, ys, e⟩ := List.exists_cons_of_ne_nil (sp_ne t)
  rw [e, cL_anti (sp b.data.toList), cL_ext] at h
  omega
theorem cL_lt {a b : ByteArray} (h : leP a b = true) (hn : a ≠ b) : cL (sp a.data.toList) (sp b.data.toList) = -1 := by
  rcases cL_vals (sp a.data.toList) (sp b.data.toList) with h1 | h1 | h1
  · exact h1
  · exact absurd (ByteArray.ext (Array.toList_inj.1 (sp_inj (cL_eq.1 h1)))) hn
  · have := leP_iff.1 h
    omega
end Go.Proofs.YtidlldfghkaeeaaDoor.P
