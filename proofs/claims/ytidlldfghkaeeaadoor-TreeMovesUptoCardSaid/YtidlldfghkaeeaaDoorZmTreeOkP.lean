/- Put together by pack.py: TreeOkP -/
import Derived.Test.YtidlldfghkaeeaaDoorZmTreeGood
import Derived.Test.YtidlldfghkaeeaaDoorZmPx0
namespace Go.Proofs.YtidlldfghkaeeaaDoor.P
open Go.RowKit
set_option linter.unusedVariables false
set_option linter.unusedSimpArgs false

abbrev GT30 (l : List S30) : Prop := GT S30.f0 S30.f1 S30.f2 l
instance (l : List S30) : Decidable (GT30 l) := by
  unfold GT30 GT okE Srt
  exact inferInstance
/-- A directory among the first i. -/
def dirAt (l : List S30) (i : Nat) (s : ByteArray) : Prop := s = ⟨#[]⟩ ∨ ∃ x ∈ l.take i, x.f0 = s ∧ x.f1 = true
instance (l : List S30) (i : Nat) (s : ByteArray) : Decidable (dirAt l i s) := by
  unfold dirAt
  exact inferInstance
/-- What the i-th must be, behind those ahead of it. -/
structure Cx (l : List S30) (i : Nat) (e : S30) : Prop where
  gd : Gd e.f0.data.toList
  up : dirAt l i (upB e.f0)
  db : e.f1 = true → e.f2 = []
  sz : e.f2.length ≤ 2048
  lt : ∀ q, i = q + 1 → ∀ h : q < l.length, ltP l[q].f0 e.f0
def Cs (l : List S30) (i : Nat) : Prop := ∀ j (h : j < l.length), j < i → Cx l j l[j]
theorem gd_ne {p : ByteArray} (h : Gd p.data.toList) : p ≠ ⟨#[]⟩ := by
  rintro rfl
  have h2 : ([] : List UInt8) ∈ sp [] := by simp [sp]
  exact (h.2 _ h2).1 rfl
theorem upB_nil {p : ByteArray} : upB p = ⟨#[]⟩ ↔ upL p.data.toList = [] := by
  constructor
  · intro h
    have := upB_data p
    rw [h] at this
    exact this.symm
  · intro h
    unfold upB
    rw [h]
theorem Cs_srt {l : List S30} {i : Nat} (h : Cs l i) (hi : i ≤ l.length) : ∀ a b (hb : b < l.length), a < b → b < i → ∀ ha : a < l.length, ltP l[a].f0 l[b].f0 := by
  intro a b
  induction b with
  | zero => intro _ h1; omega
  | succ b ih =>
    intro hb hab hbi ha
    have h1 := (h (b + 1) hb hbi).lt b rfl (by omega)
    rcases Nat.lt_or_ge a b with h2 | h2
    · exact ltP_trans (ih (by omega) h2 (by omega) ha) h1
    · obtain rfl : a = b := by omega
      exact h1
theorem Cs_all {l : List S30} (hl : l.length ≤ 40) (hn : nB S30.f2 l ≤ 16384) (h : Cs l l.length) : GT30 l := by
  refine ⟨hl, hn, List.pairwise_iff_getElem.2 fun a b ha hb hab => Cs_srt h (Nat.le_refl _) a b hb hab hb ha, fun e he => ?_⟩
  obtain ⟨i, hi, rfl⟩ := List.mem_iff_getElem.1 he
  have c := h i hi hi
  refine ⟨c.gd, c.db, c.sz, ?_⟩
  rcases c.up with h1 | ⟨x, hx, h1, h2⟩
  · exact .inl (upB_nil.1 h1)
  · exact .inr ⟨x, List.mem_of_mem_take hx, h1, h2⟩
theorem GT_Cs {l : List S30} (h : GT30 l) : Cs l l.length := by
  intro i hi _
  obtain ⟨_, _, hs, he⟩ := h
  have hp := List.pairwise_iff_getElem.1 hs
  have e := he l[i] (List.getElem_mem hi)
  refine ⟨e.1, ?_, e.2.1, e.2.2.1, ?_⟩
  · rcases e.2.2.2 with h1 | ⟨d, hd, h1, h2⟩
    · exact .inl (upB_nil.2 h1)
    · refine .inr ⟨d, ?_, h1, h2⟩
      obtain ⟨j, hj, rfl⟩ := List.mem_iff_getElem.1 hd
      have h3 := up_lt e.1
      rw [← h1] at h3
      have hji : j < i := by
        rcases Nat.lt_trichotomy j i with h4 | h4 | h4
        · exact h4
        · subst h4; exact absurd h3 (ltP_irr _)
        · exact absurd h3 (ltP_asym (hp i j hi hj h4))
      rw [List.mem_take_iff_getElem]
      exact ⟨j, by omega, rfl⟩
  · rintro q rfl hq
    exact hp q (q + 1) hq hi (by omega)
theorem GT_iff {l : List S30} : GT30 l ↔ l.length ≤ 40 ∧ nB S30.f2 l ≤ 16384 ∧ Cs l l.length := ⟨fun h => ⟨h.1, h.2.1, GT_Cs h⟩, fun h => Cs_all h.1 h.2.1 h.2.2⟩
theorem Cs_zero (l : List S30) : Cs l 0 := fun j _ h => absurd h (Nat.not_lt_zero j)
theorem Cs_succ {l : List S30} {i : Nat} (hi : i < l.length) (h : Cs l i) (c : Cx l i l[i]) : Cs l (i + 1) := by
  intro j hj h1
  rcases Nat.lt_or_ge j i with h2 | h2
  · exact h j hj h2
  · obtain rfl : j = i := by omega
    exact c
/-- One that may not be spoils all. -/
theorem Cs_bad {l : List S30} {i : Nat} (hi : i < l.length) (c : ¬ Cx l i l[i]) : ¬ GT30 l := fun h => c (GT_Cs h i hi hi)
/-- What is a directory, one entry on. -/
theorem dirAt_succ {l : List S30} {i : Nat} (hi : i < l.length) (h : Cs l i) (c : Cx l i l[i]) (s : ByteArray) : dirAt l (i + 1) s ↔ (if s = l[i].f0 then l[i].f1 = true else dirAt l i s) := by
  unfold dirAt
  have htk : ∀ z, z ∈ l.take (i + 1) ↔ z ∈ l.take i ∨ z = l[i] := fun z => by
    rw [List.take_add_one, List.getElem?_eq_getElem hi, List.mem_append]
    simp
  have hno : ∀ x ∈ l.take i, x.f0 ≠ l[i].f0 := by
    intro x hx
    obtain ⟨j, hj, rfl⟩ := List.mem_take_iff_getElem.1 hx
    exact ltP_ne (Cs_srt (Cs_succ hi h c) (by omega) j i hi (by omega) (by omega) (by omega))
  split
  · rename_i hs
    subst hs
    constructor
    · rintro (h1 | ⟨x, hx, h1, h2⟩)
      · exact absurd h1 (gd_ne c.gd)
      · rcases (htk x).1 hx with h3 | rfl
        · exact absurd h1 (hno x h3)
        · exact h2
    · intro h1
      exact .inr ⟨_, (htk _).2 (.inr rfl), rfl, h1⟩
  · rename_i hs
    constructor
    · rintro (h1 | ⟨x, hx, h1, h2⟩)
      · exact .inl h1
      · rcases (htk x).1 hx with h3 | rfl
        · exact .inr ⟨x, h3, h1, h2⟩
        · exact absurd h1.symm hs
    · rintro (h1 | ⟨x, hx, h1, h2⟩)
      · exact .inl h1
      · exact .inr ⟨x, (htk x).2 (.inl hx), h1, h2⟩
theorem dirAt_zero (l : List S30) (s : ByteArray) : dirAt l 0 s ↔ s = ⟨#[]⟩ := by
  unfold dirAt
  simp
end Go.Proofs.YtidlldfghkaeeaaDoor.P
