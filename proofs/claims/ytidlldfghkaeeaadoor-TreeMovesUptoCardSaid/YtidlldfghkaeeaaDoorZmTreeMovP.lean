/- Put together by pack.py: TreeMovP -/
import Derived.Test.YtidlldfghkaeeaaDoorZmTreeLaws
namespace Go.Proofs.YtidlldfghkaeeaaDoor.P
open Go.RowKit Go.Proofs.YtidlldfghkaeeaaDoorW.PrintWords Go.Proofs.YtidlldfghkaeeaaDoorW.PrintLast Go.Proofs.YtidlldfghkaeeaaDoorW.PrintMore
set_option linter.unusedVariables false
set_option linter.unusedSimpArgs false

/-- The bytes at a path. -/
def bytesAt (l : List S30) (p : ByteArray) : List Int := match l.find? (fun x => decide (x.f0 = p)) with
  | some x => x.f2
  | none => []
theorem bytesAt_eq {l : List S30} (hs : Srt S30.f0 l) {x : S30} (hx : x ∈ l) : bytesAt l x.f0 = x.f2 := by
  unfold bytesAt
  cases h : l.find? (fun y => decide (y.f0 = x.f0)) with
  | none =>
    have := List.find?_eq_none.1 h x hx
    simp at this
  | some y =>
    have h1 : y.f0 = x.f0 := by simpa using List.find?_some h
    have h2 := List.mem_of_find?_eq_some h
    rw [srt_key hs h2 hx h1]
def move0 (l : List S30) (p q : ByteArray) : List S30 × Int :=
  if GT30 l then if Gd p.data.toList ∧ Gd q.data.toList then
    if ∃ x ∈ l, x.f0 = p then if ∃ x ∈ l, x.f0 = p ∧ x.f1 = true then (l, 7) else if p = q then (l, 0) else
      if (with1 (delE S30.f0 p l) q false (bytesAt l p)).2 = 0 then ((with1 (delE S30.f0 p l) q false (bytesAt l p)).1, 0) else (l, (with1 (delE S30.f0 p l) q false (bytesAt l p)).2)
    else (l, 5) else (l, 4) else (l, 1)
/-- A file less is a tree. -/
theorem GT_del {l : List S30} {p : ByteArray} (h : GT30 l) (hf : ¬ ∃ x ∈ l, x.f0 = p ∧ x.f1 = true) : GT30 (delE S30.f0 p l) := by
  refine ⟨Nat.le_trans (List.length_filter_le _ _) h.1, Nat.le_trans (nB_filter _ _) h.2.1, delE_srt h.2.2.1, fun x hx => ?_⟩
  obtain ⟨hx, hk⟩ := delE_mem.1 hx
  obtain ⟨a1, a2, a3, a4⟩ := h.2.2.2 x hx
  refine ⟨a1, a2, a3, a4.imp id ?_⟩
  rintro ⟨d, hd, e1, e2⟩
  exact ⟨d, delE_mem.2 ⟨hd, fun e => hf ⟨d, hd, e, e2⟩⟩, e1, e2⟩
theorem ins_len {e : S30} : ∀ {l : List S30}, (∀ y ∈ l, y.f0 ≠ e.f0) → (insE S30.f0 e l).length = l.length + 1 ∧ nB S30.f2 (insE S30.f0 e l) = nB S30.f2 l + e.f2.length
  | [], _ => by simp [insE, nB]
  | x :: l, h => by
    have ih := ins_len (l := l) fun y hy => h y (List.mem_cons_of_mem _ hy)
    unfold insE
    split
    · rw [List.length_cons, List.length_cons, nB_cons, nB_cons, ih.1, ih.2]
      exact ⟨rfl, by omega⟩
    · rw [if_neg (h x List.mem_cons_self), List.length_cons, List.length_cons, nB_cons, nB_cons]
      exact ⟨rfl, by omega⟩
/-- What a move that is done comes to. -/
theorem move0_done {l : List S30} {p q : ByteArray} (h : (move0 l p q).2 = 0) : GT30 l ∧ Gd p.data.toList ∧ Gd q.data.toList ∧ ∃ x ∈ l, x.f0 = p ∧ x.f1 = false ∧ ((p = q ∧ (move0 l p q).1 = l) ∨ (p ≠ q ∧ with1 (delE S30.f0 p l) q false x.f2 = ((move0 l p q).1, 0))) := by
  unfold move0 at h ⊢
  by_cases h1 : GT30 l
  · rw [if_pos h1] at h ⊢
    by_cases h2 : Gd p.data.toList ∧ Gd q.data.toList
    · rw [if_pos h2] at h ⊢
      by_cases h3 : ∃ x ∈ l, x.f0 = p
      · rw [if_pos h3] at h ⊢
        by_cases h4 : ∃ x ∈ l, x.f0 = p ∧ x.f1 = true
        · rw [if_pos h4] at h
          cases h
        · rw [if_neg h4] at h ⊢
          obtain ⟨x, hx, rfl⟩ := h3
          have hf : x.f1 = false := by
            cases hb : x.f1 with
            | false => rfl
            | true => exact absurd ⟨x, hx, rfl, hb⟩ h4
          refine ⟨h1, h2.1, h2.2, x, hx, rfl, hf, ?_⟩
          by_cases h5 : x.f0 = q
          · rw [if_pos h5]
            exact .inl ⟨h5, rfl⟩
          · rw [if_neg h5] at h ⊢
            rw [bytesAt_eq h1.2.2.1 hx] at h ⊢
            by_cases h6 : (with1 (delE S30.f0 x.f0 l) q false x.f2).2 = 0
            · rw [if_pos h6]
              exact .inr ⟨h5, by rw [← h6]⟩
            · rw [if_neg h6] at h
              exact absurd h h6
      · rw [if_neg h3] at h
        cases h
    · rw [if_neg h2] at h
      cases h
  · rw [if_neg h1] at h
    cases h
/-- What is not done leaves all as it was. -/
theorem move0_not {l : List S30} {p q : ByteArray} (h : (move0 l p q).2 ≠ 0) : (move0 l p q).1 = l := by
  unfold move0 at h ⊢
  split
  · split
    · split
      · split
        · rfl
        · split
          · rfl
          · split
            · rename_i h1 h2 h3 h4 h5 h6
              rw [if_pos h1, if_pos h2, if_pos h3, if_neg h4, if_neg h5, if_pos h6] at h
              exact absurd rfl h
            · rfl
      · rfl
    · rfl
  · rfl
/-- Moved, a tree is a tree. -/
theorem move0_GT {l : List S30} {p q : ByteArray} (hl : GT30 l) : GT30 (move0 l p q).1 := by
  by_cases h : (move0 l p q).2 = 0
  · obtain ⟨_, hp, hq, x, hx, hxp, hf, h1 | ⟨_, h1⟩⟩ := move0_done h
    · rw [h1.2]; exact hl
    · have hd : GT30 (delE S30.f0 p l) := GT_del hl fun ⟨y, hy, e1, e2⟩ => by
        rw [srt_key hl.2.2.1 hy hx (e1.trans hxp.symm), hf] at e2
        cases e2
      rcases with1_cases (d := false) (b := x.f2) hd hq (fun h => by cases h) with ⟨h2, h3⟩ | ⟨h2, h3, _⟩
      · rw [h1] at h3
        exact absurd rfl h3
      · rw [h1] at h2
        have h2 := (Prod.mk.inj h2).1
        rw [h2]
        exact h3
  · rw [move0_not h]
    exact hl
/-- Moved to where nothing was, and back. -/
theorem move0_back {l : List S30} {p q : ByteArray} (h : (move0 l p q).2 = 0) (hn : ∀ y ∈ l, y.f0 ≠ q) : move0 (move0 l p q).1 q p = (l, 0) ∧ (move0 l p q).1.length = l.length ∧ nB30 (move0 l p q).1 = nB30 l := by
  obtain ⟨hl, hp, hq, x, hx, rfl, hf, h1⟩ := move0_done h
  have hpq : x.f0 ≠ q := hn x hx
  rcases h1 with h1 | ⟨_, h1⟩
  · exact absurd h1.1 hpq
  have hs := hl.2.2.1
  have hd : GT30 (delE S30.f0 x.f0 l) := GT_del hl fun ⟨y, hy, e1, e2⟩ => by
    rw [srt_key hs hy hx e1, hf] at e2
    cases e2
  have hnd : ∀ y ∈ delE S30.f0 x.f0 l, y.f0 ≠ q := fun y hy => hn y (delE_mem.1 hy).1
  have hnx : ∀ y ∈ delE S30.f0 x.f0 l, y.f0 ≠ x.f0 := fun y hy => (delE_mem.1 hy).2
  have hX : (⟨x.f0, false, x.f2⟩ : S30) = x := by rw [← hf]
  have hback : insT (delE S30.f0 x.f0 l) x.f0 false x.f2 = l := by
    unfold insT
    rw [hX]
    exact ins_del hs hx
  rcases with1_cases (d := false) (b := x.f2) hd hq (fun h => by cases h) with ⟨_, h3⟩ | ⟨h2, h3, _, _⟩
  · rw [h1] at h3
    exact absurd rfl h3
  rw [h1] at h2
  have h2 := (Prod.mk.inj h2).1
  rw [h2]
  have hm := ins_len (e := (⟨q, false, x.f2⟩ : S30)) hnd
  have hm2 := ins_len (e := (⟨x.f0, false, x.f2⟩ : S30)) hnx
  have hbk : insE S30.f0 (⟨x.f0, false, x.f2⟩ : S30) (delE S30.f0 x.f0 l) = l := hback
  rw [hbk] at hm2
  refine ⟨?_, hm.1.trans hm2.1.symm, hm.2.trans hm2.2.symm⟩
  have hqm : (⟨q, false, x.f2⟩ : S30) ∈ insT (delE S30.f0 x.f0 l) q false x.f2 := (insE_mem hd.2.2.1).2 (.inl rfl)
  have hba : bytesAt (insT (delE S30.f0 x.f0 l) q false x.f2) q = x.f2 := bytesAt_eq (x := (⟨q, false, x.f2⟩ : S30)) h3.2.2.1 hqm
  have hdd : delE S30.f0 q (insT (delE S30.f0 x.f0 l) q false x.f2) = delE S30.f0 x.f0 l := del_ins (e := (⟨q, false, x.f2⟩ : S30)) hd.2.2.1 hnd
  have hup : upE (delE S30.f0 x.f0 l) x.f0 = 0 := by
    refine upE_zero.2 ?_
    obtain ⟨_, _, _, a4⟩ := hl.2.2.2 x hx
    refine a4.imp id ?_
    rintro ⟨d, hd1, e1, e2⟩
    refine ⟨d, delE_mem.2 ⟨hd1, fun e => ?_⟩, e1, e2⟩
    exact up_ne hp (e1.symm.trans e)
  have hw : with1 (delE S30.f0 x.f0 l) x.f0 false x.f2 = (l, 0) := by
    unfold with1 with0
    obtain ⟨_, _, a3, _⟩ := hl.2.2.2 x hx
    have hl1 := hl.1
    have hl2 : nB30 l ≤ 16384 := hl.2.1
    rw [if_pos hup, if_neg (fun ⟨y, hy, e, _⟩ => hnx y hy e), hback, if_neg (by omega)]
  unfold move0
  rw [if_pos h3, if_pos ⟨hq, hp⟩, if_pos ⟨_, hqm, rfl⟩, if_neg (fun ⟨y, hy, e1, e2⟩ => by
    rw [srt_key h3.2.2.1 hy hqm e1] at e2
    cases e2), if_neg (fun e => hpq e.symm), hba, hdd, hw]
  rfl
end Go.Proofs.YtidlldfghkaeeaaDoor.P
