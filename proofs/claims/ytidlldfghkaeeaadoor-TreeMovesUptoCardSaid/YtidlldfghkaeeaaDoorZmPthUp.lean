/- Put together by pack.py: PthUp -/
import Derived.Test.YtidlldfghkaeeaaDoorZmOrd
namespace Go.Proofs.YtidlldfghkaeeaaDoor.P
open Go.RowKit
set_option linter.unusedVariables false
set_option linter.unusedSimpArgs false

theorem bext' {a b : ByteArray} (h : a.data.toList = b.data.toList) : a = b := ByteArray.ext (Array.toList_inj.1 h)
theorem jn_snoc : ∀ (xs : List (List UInt8)) (y : List UInt8), xs ≠ [] → jn (xs ++ [y]) = jn xs ++ 47 :: y
  | [], _, h => absurd rfl h
  | [x], y, _ => rfl
  | x :: z :: xs, y, _ => by
    have := jn_snoc (z :: xs) y (by simp)
    rw [List.cons_append] at this
    rw [List.cons_append, List.cons_append, jn, jn, this]
    simp
/-- What a path is in. -/
def upL (p : List UInt8) : List UInt8 := jn (sp p).dropLast
def upB (p : ByteArray) : ByteArray := ⟨(upL p.data.toList).toArray⟩
theorem upB_data (p : ByteArray) : (upB p).data.toList = upL p.data.toList := rfl
theorem sp_jn : ∀ (xs : List (List UInt8)), xs ≠ [] → (∀ x ∈ xs, 47 ∉ x) → sp (jn xs) = xs
  | [], h, _ => absurd rfl h
  | [x], _, h => sp_none x (h x List.mem_cons_self)
  | x :: y :: xs, _, h => by
    rw [jn, sp_app, sp_jn (y :: xs) (by simp) (fun z hz => h z (List.mem_cons_of_mem _ hz)), sp_none x (h x List.mem_cons_self)]
    rfl
theorem upL_one {p : List UInt8} (h : 47 ∉ p) : upL p = [] := by
  unfold upL
  rw [sp_none p h]
  rfl
theorem upL_more {u x : List UInt8} (h : 47 ∉ x) : upL (u ++ 47 :: x) = u := by
  unfold upL
  rw [sp_app, sp_none x h, List.dropLast_concat, jn_sp]
/-- A path is one name, or what it is in, and a name. -/
theorem up_cases {p : List UInt8} (hg : Gd p) : (upL p = [] ∧ 47 ∉ p ∧ p ≠ []) ∨ ∃ x, 47 ∉ x ∧ x ≠ [] ∧ p = upL p ++ 47 :: x ∧ sp p = sp (upL p) ++ [x] ∧ upL p ≠ [] ∧ Gd (upL p) := by
  have hs : ∀ x ∈ sp p, 47 ∉ x := fun x hx => sp_mem p x hx
  have hne := sp_ne p
  obtain ⟨ys, y, e⟩ : ∃ ys y, sp p = ys ++ [y] := ⟨_, _, (List.dropLast_concat_getLast hne).symm⟩
  have hup : upL p = jn ys := by
    unfold upL
    rw [e, List.dropLast_concat]
  have hy := hg.2 y (by rw [e]; simp)
  cases ys with
  | nil =>
    refine .inl ⟨hup, ?_, ?_⟩
    · have h1 := hs y (by rw [e]; simp)
      have h2 : p = y := by rw [← jn_sp p, e]; rfl
      rwa [h2]
    · rintro rfl
      have h2 : ([] : List UInt8) ∈ sp [] := by simp [sp]
      exact (hg.2 _ h2).1 rfl
  | cons z zs =>
    have hsu : sp (upL p) = z :: zs := by
      rw [hup]
      exact sp_jn _ (by simp) fun x hx => hs x (by rw [e]; exact List.mem_append_left _ hx)
    refine .inr ⟨y, hs y (by rw [e]; simp), hy.1, ?_, by rw [hsu, e], ?_, ?_⟩
    · rw [hup, ← jn_snoc _ _ (by simp), ← e, jn_sp]
    · intro h0
      rw [h0] at hsu
      have : z = [] := by
        have h3 : sp [] = [[]] := rfl
        rw [h3] at hsu
        injection hsu with h4 _
        exact h4.symm
      exact (hg.2 z (by rw [e]; simp)).1 this
    · refine ⟨?_, fun x hx => hg.2 x ?_⟩
      · have := hg.1
        rw [e, List.length_append, List.length_singleton] at this
        rw [hsu]
        omega
      · rw [hsu] at hx
        rw [e]
        exact List.mem_append_left _ hx
theorem jn_len : ∀ xs : List (List UInt8), (∀ x ∈ xs, x.length ≤ 16) → (jn xs).length ≤ 17 * xs.length
  | [], _ => Nat.le_refl _
  | [x], h => by
    have := h x List.mem_cons_self
    simp only [jn, List.length_singleton]
    omega
  | x :: y :: xs, h => by
    have h1 := h x List.mem_cons_self
    have h2 := jn_len (y :: xs) (fun z hz => h z (List.mem_cons_of_mem _ hz))
    simp only [jn, List.length_append, List.length_cons] at h2 ⊢
    omega
theorem gd_len {p : List UInt8} (hg : Gd p) : p.length ≤ 68 := by
  have h := jn_len (sp p) (fun x hx => (hg.2 x hx).2.1)
  rw [jn_sp] at h
  have := hg.1
  omega
end Go.Proofs.YtidlldfghkaeeaaDoor.P
