/- Put together by pack.py: TreeList -/
import Derived.Test.YtidlldfghkaeeaaDoorZmPthSort
namespace Go.Proofs.YtidlldfghkaeeaaDoor.P
open Go.RowKit
set_option linter.unusedVariables false
set_option linter.unusedSimpArgs false

/-- Ahead of, in the order of paths. -/
def ltP (a b : ByteArray) : Prop := cL (sp a.data.toList) (sp b.data.toList) < 0
instance (a b : ByteArray) : Decidable (ltP a b) := by unfold ltP; exact inferInstance
theorem ltP_irr (a : ByteArray) : ¬ ltP a a := by
  unfold ltP
  rw [cL_eq.2 rfl]
  omega
theorem ltP_trans {a b c : ByteArray} (h1 : ltP a b) (h2 : ltP b c) : ltP a c := cL_ntrans h1 h2
theorem ltP_asym {a b : ByteArray} (h1 : ltP a b) : ¬ ltP b a := fun h2 => ltP_irr a (ltP_trans h1 h2)
theorem ltP_tri (a b : ByteArray) : ltP a b ∨ a = b ∨ ltP b a := by
  unfold ltP
  rw [cL_anti (sp a.data.toList) (sp b.data.toList)]
  by_cases h : cL (sp a.data.toList) (sp b.data.toList) = 0
  · exact .inr (.inl (ByteArray.ext (Array.toList_inj.1 (sp_inj (cL_eq.1 h)))))
  · omega
theorem ltP_ne {a b : ByteArray} (h : ltP a b) : a ≠ b := fun e => ltP_irr b (e ▸ h)
section
variable {α : Type} (key : α → ByteArray)
def Srt (l : List α) : Prop := l.Pairwise fun a b => ltP (key a) (key b)
def lowB (p : ByteArray) : List α → Nat
  | [] => 0
  | x :: l => if ltP (key x) p then lowB p l + 1 else 0
variable {key}
theorem lowB_le (p : ByteArray) : ∀ l : List α, lowB key p l ≤ l.length
  | [] => Nat.le_refl _
  | x :: l => by
    unfold lowB
    have := lowB_le p l
    split
    · rw [List.length_cons]; omega
    · omega
theorem lowB_lt {p : ByteArray} : ∀ {l : List α} {i : Nat} (h : i < lowB key p l) (hi : i < l.length), ltP (key l[i]) p
  | x :: l, i, h, hi => by
    unfold lowB at h
    split at h
    · rename_i hx
      cases i with
      | zero => exact hx
      | succ i => exact lowB_lt (l := l) (by omega) _
    · omega
theorem lowB_ge {p : ByteArray} : ∀ {l : List α} {i : Nat} (hs : Srt key l) (h : lowB key p l ≤ i) (hi : i < l.length), ¬ ltP (key l[i]) p
  | x :: l, i, hs, h, hi => by
    unfold lowB at h
    have h1 := List.pairwise_cons.1 hs
    split at h
    · rename_i hx
      cases i with
      | zero => omega
      | succ i => exact lowB_ge (l := l) h1.2 (by omega) _
    · rename_i hx
      cases i with
      | zero => exact hx
      | succ i => exact fun hc => hx (ltP_trans (h1.1 _ (List.getElem_mem _)) hc)
/-- A bound that parts the row is the bound. -/
theorem lowB_uniq {p : ByteArray} {l : List α} {i : Nat} (hs : Srt key l) (hl : i ≤ l.length) (h1 : ∀ j (hj : j < l.length), j < i → ltP (key l[j]) p) (h2 : ∀ j (hj : j < l.length), i ≤ j → ¬ ltP (key l[j]) p) : i = lowB key p l := by
  have hb := lowB_le (key := key) p l
  rcases Nat.lt_trichotomy i (lowB key p l) with h | h | h
  · exact absurd (lowB_lt h (by omega)) (h2 i (by omega) (Nat.le_refl _))
  · exact h
  · exact absurd (h1 _ (by omega) h) (lowB_ge hs (Nat.le_refl _) (by omega))
theorem lowB_at {p : ByteArray} {l : List α} (hs : Srt key l) : (∃ h : lowB key p l < l.length, key l[lowB key p l] = p) ↔ ∃ e ∈ l, key e = p := by
  constructor
  · rintro ⟨h, e⟩
    exact ⟨_, List.getElem_mem h, e⟩
  · rintro ⟨e, he, hk⟩
    obtain ⟨j, hj, rfl⟩ := List.mem_iff_getElem.1 he
    have h0 : ¬ j < lowB key p l := fun h => ltP_irr p (hk ▸ lowB_lt h hj)
    have h1 : lowB key p l < l.length := by omega
    refine ⟨h1, ?_⟩
    rcases Nat.lt_or_ge (lowB key p l) j with h2 | h2
    · have h3 := List.pairwise_iff_getElem.1 hs _ _ h1 hj h2
      rw [hk] at h3
      exact absurd h3 (lowB_ge hs (Nat.le_refl _) h1)
    · obtain rfl : j = lowB key p l := by omega
      exact hk
theorem srt_key {l : List α} (hs : Srt key l) {a b : α} (ha : a ∈ l) (hb : b ∈ l) (h : key a = key b) : a = b := by
  obtain ⟨i, hi, rfl⟩ := List.mem_iff_getElem.1 ha
  obtain ⟨j, hj, rfl⟩ := List.mem_iff_getElem.1 hb
  rcases Nat.lt_trichotomy i j with h1 | h1 | h1
  · exact absurd h (ltP_ne (List.pairwise_iff_getElem.1 hs _ _ hi hj h1))
  · subst h1; rfl
  · exact absurd h.symm (ltP_ne (List.pairwise_iff_getElem.1 hs _ _ hj hi h1))
theorem srt_ext {l1 l2 : List α} (h1 : Srt key l1) (h2 : Srt key l2) (hm : ∀ x, x ∈ l1 ↔ x ∈ l2) : l1 = l2 := by
  have n1 : l1.Nodup := h1.imp fun {a b} h (e : a = b) => ltP_irr (key b) (by rw [e] at h; exact h)
  have n2 : l2.Nodup := h2.imp fun {a b} h (e : a = b) => ltP_irr (key b) (by rw [e] at h; exact h)
  exact List.Perm.eq_of_pairwise (le := fun a b => ltP (key a) (key b)) (fun _ _ _ _ h1 h2 => absurd h2 (ltP_asym h1)) h1 h2 ((List.perm_ext_iff_of_nodup n1 n2).2 hm)
variable (key)
/-- Put in its place, in place of one of that path. -/
def insE (e : α) : List α → List α
  | [] => [e]
  | x :: l => if ltP (key x) (key e) then x :: insE e l else if key x = key e then e :: l else e :: x :: l
/-- All but that of a path. -/
def delE (p : ByteArray) (l : List α) : List α := l.filter fun e => decide (key e ≠ p)
variable {key}
theorem insE_set {e : α} : ∀ {l : List α} {i : Nat} (h : i = lowB key (key e) l) (hi : i < l.length) (hk : key l[i] = key e), l.set i e = insE key e l
  | x :: l, i, h, hi, hk => by
    unfold lowB at h
    unfold insE
    split at h
    · rename_i hx
      subst h
      rw [if_pos hx, List.set_cons_succ]
      rw [insE_set (l := l) rfl (by simpa using hi) (by simpa using hk)]
    · rename_i hx
      subst h
      rw [if_neg hx, if_pos (show key x = key e from hk)]
      rfl
theorem insE_new {e : α} : ∀ {l : List α} {i : Nat} (h : i = lowB key (key e) l) (hk : ∀ hi : i < l.length, key l[i] ≠ key e), l.take i ++ e :: l.drop i = insE key e l
  | [], i, h, hk => by
    simp [insE]
  | x :: l, i, h, hk => by
    unfold lowB at h
    unfold insE
    split at h
    · rename_i hx
      subst h
      rw [if_pos hx, List.take_succ_cons, List.drop_succ_cons, List.cons_append]
      rw [insE_new (l := l) rfl (fun hi => hk (Nat.succ_lt_succ hi))]
    · rename_i hx
      subst h
      rw [if_neg hx, if_neg (show ¬ key x = key e from hk (Nat.succ_pos _))]
      rfl
theorem insE_mem {e y : α} : ∀ {l : List α} (hs : Srt key l), y ∈ insE key e l ↔ y = e ∨ (y ∈ l ∧ key y ≠ key e)
  | [], _ => by simp [insE]
  | x :: l, hs => by
    have h1 := List.pairwise_cons.1 hs
    have ih := insE_mem (e := e) (y := y) h1.2
    unfold insE
    split
    · rename_i hx
      rw [List.mem_cons, ih, List.mem_cons]
      constructor
      · rintro (rfl | h | h)
        · exact .inr ⟨.inl rfl, ltP_ne hx⟩
        · exact .inl h
        · exact .inr ⟨.inr h.1, h.2⟩
      · rintro (h | ⟨rfl | h, h2⟩)
        · exact .inr (.inl h)
        · exact .inl rfl
        · exact .inr (.inr ⟨h, h2⟩)
    · rename_i hx
      split
      · rename_i hk
        rw [List.mem_cons, List.mem_cons]
        constructor
        · rintro (h | h)
          · exact .inl h
          · exact .inr ⟨.inr h, fun e2 => ltP_ne (h1.1 y h) (hk.trans e2.symm)⟩
        · rintro (h | ⟨rfl | h, h2⟩)
          · exact .inl h
          · exact absurd hk h2
          · exact .inr h
      · rename_i hk
        rw [List.mem_cons, List.mem_cons]
        have hlt : ltP (key e) (key x) := by
          rcases ltP_tri (key x) (key e) with h | h | h
          · exact absurd h hx
          · exact absurd h hk
          · exact h
        constructor
        · rintro (h | rfl | h)
          · exact .inl h
          · exact .inr ⟨.inl rfl, hk⟩
          · exact .inr ⟨.inr h, fun e2 => ltP_irr (key e) (by have h3 := ltP_trans hlt (h1.1 y h); rwa [e2] at h3)⟩
        · rintro (h | ⟨h, h2⟩)
          · exact .inl h
          · exact .inr h
theorem insE_srt {e : α} : ∀ {l : List α} (hs : Srt key l), Srt key (insE key e l)
  | [], _ => by
    unfold insE
    exact List.pairwise_singleton _ _
  | x :: l, hs => by
    have h1 := List.pairwise_cons.1 hs
    unfold insE
    split
    · rename_i hx
      refine List.pairwise_cons.2 ⟨fun y hy => ?_, insE_srt h1.2⟩
      rcases (insE_mem h1.2).1 hy with rfl | hy
      · exact hx
      · exact h1.1 y hy.1
    · rename_i hx
      split
      · rename_i hk
        exact List.pairwise_cons.2 ⟨fun y hy => by rw [← hk]; exact h1.1 y hy, h1.2⟩
      · rename_i hk
        have hlt : ltP (key e) (key x) := by
          rcases ltP_tri (key x) (key e) with h | h | h
          · exact absurd h hx
          · exact absurd h hk
          · exact h
        refine List.pairwise_cons.2 ⟨fun y hy => ?_, hs⟩
        rcases List.mem_cons.1 hy with rfl | hy
        · exact hlt
        · exact ltP_trans hlt (h1.1 y hy)
theorem delE_mem {p : ByteArray} {l : List α} {y : α} : y ∈ delE key p l ↔ y ∈ l ∧ key y ≠ p := by
  unfold delE
  rw [List.mem_filter, decide_eq_true_eq]
theorem delE_srt {p : ByteArray} {l : List α} (hs : Srt key l) : Srt key (delE key p l) := hs.sublist List.filter_sublist
theorem delE_none {p : ByteArray} {l : List α} (h : ∀ y ∈ l, key y ≠ p) : delE key p l = l := List.filter_eq_self.2 fun y hy => decide_eq_true (h y hy)
/-- Put in, and taken out again. -/
theorem del_ins {e : α} {l : List α} (hs : Srt key l) (hn : ∀ y ∈ l, key y ≠ key e) : delE key (key e) (insE key e l) = l := by
  refine srt_ext (delE_srt (insE_srt hs)) hs fun y => ?_
  rw [delE_mem, insE_mem hs]
  constructor
  · rintro ⟨rfl | h, h2⟩
    · exact absurd rfl h2
    · exact h.1
  · intro h
    exact ⟨.inr ⟨h, hn y h⟩, hn y h⟩
/-- Taken out, and put in again. -/
theorem ins_del {e : α} {l : List α} (hs : Srt key l) (he : e ∈ l) : insE key e (delE key (key e) l) = l := by
  refine srt_ext (insE_srt (delE_srt hs)) hs fun y => ?_
  rw [insE_mem (delE_srt hs), delE_mem]
  constructor
  · rintro (rfl | h)
    · exact he
    · exact h.1.1
  · intro h
    by_cases hk : key y = key e
    · exact .inl (srt_key hs h he hk)
    · exact .inr ⟨⟨h, hk⟩, hk⟩
theorem erase_del {p : ByteArray} {l : List α} {i : Nat} (hs : Srt key l) (hi : i < l.length) (hk : key l[i] = p) : l.take i ++ l.drop (i + 1) = delE key p l := by
  refine srt_ext (key := key) ?_ (delE_srt hs) fun y => ?_
  · refine hs.sublist ?_
    conv => rhs; rw [← List.take_append_drop i l]
    exact List.Sublist.append (List.Sublist.refl _) (by rw [show i + 1 = i + 1 from rfl, ← List.drop_drop]; exact List.drop_sublist _ _)
  · rw [delE_mem]
    have hl : l = l.take i ++ l[i] :: l.drop (i + 1) := by rw [← List.drop_eq_getElem_cons hi, List.take_append_drop]
    have hp := List.pairwise_append.1 (hl ▸ hs : Srt key (l.take i ++ l[i] :: l.drop (i + 1)))
    have hp2 := List.pairwise_cons.1 hp.2.1
    constructor
    · intro h
      rcases List.mem_append.1 h with h | h
      · exact ⟨List.mem_of_mem_take h, fun e => ltP_irr p (by have := hp.2.2 y h _ List.mem_cons_self; rwa [e, hk] at this)⟩
      · exact ⟨List.mem_of_mem_drop h, fun e => ltP_irr p (by have := hp2.1 y h; rwa [e, hk] at this)⟩
    · rintro ⟨h, h2⟩
      rw [hl] at h
      rcases List.mem_append.1 h with h | h
      · exact List.mem_append_left _ h
      · rcases List.mem_cons.1 h with h | h
        · exact absurd (h ▸ hk) h2
        · exact List.mem_append_right _ h
end
end Go.Proofs.YtidlldfghkaeeaaDoor.P
