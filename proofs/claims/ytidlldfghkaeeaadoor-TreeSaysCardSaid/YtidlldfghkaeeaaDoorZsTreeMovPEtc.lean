/- Put together by pack2.py: TreeMovP, RefTr, PureTreeSays, Opens -/
import Derived.Test.YtidlldfghkaeeaaDoorZsDelEEtc
import Derived.Test.YtidlldfghkaeeaaDoorZsTreeCln
import Derived.Test.YtidlldfghkaeeaaDoorZsPthUpEtc
import Derived.Test.YtidlldfghkaeeaaDoorZsPfTallymanref7GoodTree
import Derived.Test.YtidlldfghkaeeaaDoorZsPfTallymanlaw8OwnEtc
import Derived.Test.YtidlldfghkaeeaaDoorZsPfTallymanref7MakeEtc
import Derived.Test.YtidlldfghkaeeaaDoorZsPfTallymanref7InsideEtc
import Derived.Test.YtidlldfghkaeeaaDoorZsPfTallymanlaw8TreeSays
import Derived.Test.YtidlldfghkaeeaaDoorZsW0
import Derived.ChangeArms
import Derived.DataReads
import Derived.ChangeOld
section
namespace Go.Proofs.YtidlldfghkaeeaaDoor.P
open Go.RowKit Go.Proofs.YtidlldfghkaeeaaDoorW.PrintWords Go.Proofs.YtidlldfghkaeeaaDoorW.PrintLast Go.Proofs.YtidlldfghkaeeaaDoorW.PrintMore
set_option linter.unusedVariables false
set_option linter.unusedSimpArgs false

theorem ins_len {e : S30} : ∀ {l : List S30}, (∀ y ∈ l, y.f0 ≠ e.f0) → (insE S30.f0 e l).length = l.length + 1 ∧ nB S30.f2 (insE S30.f0 e l) = nB S30.f2 l + e.f2.length
 | [], _ => by simp [insE, nB]
 | x :: l, h => by
  have ih := ins_len (l := l) fun y hy => h y (List.mem_cons_of_mem _ hy)
  unfold insE
  split
  ·rw [List.length_cons, List.length_cons, nB_cons, nB_cons, ih.1, ih.2]
   exact ⟨rfl, by omega⟩
  ·rw [if_neg (h x List.mem_cons_self), List.length_cons, List.length_cons, nB_cons, nB_cons]
   exact ⟨rfl, by omega⟩
end Go.Proofs.YtidlldfghkaeeaaDoor.P
end
section
namespace Go.Proofs.YtidlldfghkaeeaaDoor.P
open Go.RowKit Go.Proofs.YtidlldfghkaeeaaDoorW.PrintWords Go.Proofs.YtidlldfghkaeeaaDoorW.PrintLast Go.Proofs.YtidlldfghkaeeaaDoorW.PrintMore
set_option linter.unusedVariables false
set_option linter.unusedSimpArgs false

/-- An entry, as the document's own. -/
abbrev t94 (x : S30) : S94 := ⟨x.f0, x.f1, x.f2⟩
theorem rd94 {l : List S30} {i : Nat} (h : i < l.length) : rd_T94 (l.map t94) (i : Int) = t94 l[i] := by
 unfold rd_T94
 rw [Int.toNat_natCast, List.getD_eq_getElem?_getD, List.getElem?_map, List.getElem?_eq_getElem h]
 rfl
theorem own_l0 (l : List S30) (hl : l.length ≤ 100000) : ∀ (d i k : Nat) (acc : List S94), i + d = l.length → d < k → acc.length ≤ i → tallymanlaw8_own.l0 k acc (i : Int) l = some (acc ++ (l.drop i).map t94)
 | 0, i, k, acc, hd, hk, ha => by
  obtain ⟨k, rfl⟩ : ∃ m, k = m + 1 := ⟨k - 1, by omega⟩
  rw [tallymanlaw8_own.l0, if_neg (by omega), List.drop_eq_nil_of_le (by omega), List.map_nil, List.append_nil]
 | d + 1, i, k, acc, hd, hk, ha => by
  obtain ⟨k, rfl⟩ : ∃ m, k = m + 1 := ⟨k - 1, by omega⟩
  have hi : i < l.length := by omega
  have hw : wrap64 ((i : Int) + 1) = ((i + 1 : Nat) : Int) := wr1 (by omega)
  rw [tallymanlaw8_own.l0, if_pos (by omega), if_pos (by omega), if_pos (by omega), rdT hi, hw, own_l0 l hl d (i + 1) k _ (by omega) (by omega) (by rw [List.length_append, List.length_singleton]; omega), List.drop_eq_getElem_cons hi, List.map_cons, List.append_assoc, List.singleton_append]
theorem own_f {l : List S30} {k : Nat} (hl : l.length ≤ 100000) (hk : l.length < k) : tallymanlaw8_own.f k l = some (l.map t94) := by
 have h := own_l0 l hl l.length 0 k [] (by omega) hk (Nat.zero_le _)
 rw [List.drop_zero, List.nil_append] at h
 exact h
theorem tl_eq {a b : ByteArray} : a.toList = b.toList ↔ a = b := by
 rw [Lib.toList_data, Lib.toList_data]
 exact ⟨fun h => bext h, fun h => by rw [h]⟩
/-- The place of a path; -1. -/
def AtS (l : List S30) (p : ByteArray) (r : Int) : Prop := (r = -1 ∧ ∀ x ∈ l, x.f0 ≠ p) ∨ ∃ i, ∃ h : i < l.length, r = (i : Int) ∧ l[i].f0 = p ∧ ∀ j, ∀ hj : j < i, l[j].f0 ≠ p
theorem At_l0 (l : List S30) (p : ByteArray) (hl : l.length ≤ 100000) : ∀ (d i k : Nat), i + d = l.length → d < k → (∀ j, ∀ hj : j < i, ∀ h : j < l.length, l[j].f0 ≠ p) → ∃ r, tallymanref7_At.l0 k (l.map t94) p (i : Int) = some r ∧ AtS l p r
 | 0, i, k, hd, hk, ha => by
  obtain ⟨k, rfl⟩ : ∃ m, k = m + 1 := ⟨k - 1, by omega⟩
  refine ⟨-1, ?_, .inl ⟨rfl, fun x hx => ?_⟩⟩
  ·rw [tallymanref7_At.l0, if_neg (by rw [List.length_map]; omega)]
  ·obtain ⟨j, hj, rfl⟩ := List.mem_iff_getElem.1 hx
   exact ha j (by omega) hj
 | d + 1, i, k, hd, hk, ha => by
  obtain ⟨k, rfl⟩ : ∃ m, k = m + 1 := ⟨k - 1, by omega⟩
  have hi : i < l.length := by omega
  have hw : wrap64 ((i : Int) + 1) = ((i + 1 : Nat) : Int) := wr1 (by omega)
  rw [tallymanref7_At.l0, if_pos (by rw [List.length_map]; omega), if_pos (by omega), rd94 hi, hw]
  by_cases hp : l[i].f0 = p
  ·exact ⟨i, if_pos (tl_eq.2 hp), .inr ⟨i, hi, rfl, hp, fun j hj => ha j hj (by omega)⟩⟩
  ·rw [if_neg (fun h => hp (tl_eq.1 h))]
   refine At_l0 l p hl d (i + 1) k (by omega) (by omega) fun j hj h => ?_
   rcases Nat.lt_or_ge j i with h1 | h1
   ·exact ha j h1 h
   ·obtain rfl : j = i := by omega
    exact hp
theorem At_f {l : List S30} {p : ByteArray} {k : Nat} (hl : l.length ≤ 100000) (hk : l.length < k) : ∃ r, tallymanref7_At.f k (l.map t94) p = some r ∧ AtS l p r :=
 At_l0 l p hl l.length 0 k (by omega) hk fun j hj => absurd hj (Nat.not_lt_zero j)
theorem Bytes_l0 (l : List S30) (hl : l.length ≤ 100000) (hn : nB30 l ≤ 1000000000000) : ∀ (d i k n : Nat), i + d = l.length → d < k → n + nB30 (l.drop i) = nB30 l → tallymanref7_Bytes.l0 k (l.map t94) (n : Int) (i : Int) = some (nB30 l : Int)
 | 0, i, k, n, hd, hk, ha => by
  obtain ⟨k, rfl⟩ : ∃ m, k = m + 1 := ⟨k - 1, by omega⟩
  rw [List.drop_eq_nil_of_le (by omega)] at ha
  rw [tallymanref7_Bytes.l0, if_neg (by rw [List.length_map]; omega), ← ha]
  rfl
 | d + 1, i, k, n, hd, hk, ha => by
  obtain ⟨k, rfl⟩ : ∃ m, k = m + 1 := ⟨k - 1, by omega⟩
  have hi : i < l.length := by omega
  have hw : wrap64 ((i : Int) + 1) = ((i + 1 : Nat) : Int) := wr1 (by omega)
  have hc : nB30 (l.drop i) = l[i].f2.length + nB30 (l.drop (i + 1)) := by
   rw [List.drop_eq_getElem_cons hi]
   exact nB_cons _ _
  have hw2 : wrap64 ((n : Int) + ((t94 l[i]).f2.length : Int)) = ((n + l[i].f2.length : Nat) : Int) := by
   show wrap64 ((n : Int) + (l[i].f2.length : Int)) = _
   unfold wrap64
   omega
  rw [tallymanref7_Bytes.l0, if_pos (by rw [List.length_map]; omega), if_pos (by omega), rd94 hi, hw, hw2]
  exact Bytes_l0 l hl hn d (i + 1) k _ (by omega) (by omega) (by omega)
theorem Bytes_f {l : List S30} {k : Nat} (h : okT l) (hk : l.length < k) : tallymanref7_Bytes.f k (l.map t94) = some (nB30 l : Int) :=
 Bytes_l0 l (okP_iff.1 h.1).2 h.2 l.length 0 k 0 (by omega) hk (by rw [List.drop_zero]; omega)
theorem RCmp_eq {a b : ByteArray} (ha : a.size < 4294967280) (hb : b.size < 4294967280) : tallymanref7_Cmp.f a b = some (cL (sp a.data.toList) (sp b.data.toList)) := by
 unfold tallymanref7_Cmp.f
 rw [if_pos ha, if_pos hb]
/-- What the document asks of the i-th. -/
structure Dx (l : List S30) (i : Nat) (e : S30) : Prop where
 gd : Gd e.f0.data.toList
 lt : ∀ q, i = q + 1 → ∀ h : q < l.length, ltP l[q].f0 e.f0
 db : e.f1 = true → e.f2 = []
 sz : e.f2.length ≤ 2048
 up : upB e.f0 = ⟨#[]⟩ ∨ ∃ j, ∃ h : j < l.length, l[j].f0 = upB e.f0 ∧ l[j].f1 = true ∧ ∀ m, ∀ hm : m < j, l[m].f0 ≠ upB e.f0
theorem GT_Dx {l : List S30} (h : GT30 l) (i : Nat) (hi : i < l.length) : Dx l i l[i] := by
 have c := GT_Cs h i hi hi
 refine ⟨c.gd, c.lt, c.db, c.sz, ?_⟩
 obtain ⟨_, _, _, a4⟩ := h.2.2.2 l[i] (List.getElem_mem hi)
 rcases a4 with a4 | ⟨d, hd, e1, e2⟩
 ·exact .inl (upB_nil.2 a4)
 ·obtain ⟨j, hj, rfl⟩ := List.mem_iff_getElem.1 hd
  refine .inr ⟨j, hj, e1, e2, fun m hm e => ?_⟩
  have := List.pairwise_iff_getElem.1 h.2.2.1 m j (by omega) hj hm
  rw [e, e1] at this
  exact ltP_irr _ this
theorem Dx_GT {l : List S30} (hl : l.length ≤ 40) (hn : nB30 l ≤ 16384) (h : ∀ i (hi : i < l.length), Dx l i l[i]) : GT30 l := by
 have hlt : ∀ a b (hb : b < l.length), a < b → ∀ ha : a < l.length, ltP l[a].f0 l[b].f0 := by
  intro a b
  induction b with
  | zero => intro _ h1; omega
  | succ b ih =>
   intro hb hab ha
   have h1 := (h (b + 1) hb).lt b rfl (by omega)
   rcases Nat.lt_or_ge a b with h2 | h2
   ·exact ltP_trans (ih (by omega) h2 (by omega)) h1
   ·obtain rfl : a = b := by omega
    exact h1
 refine ⟨hl, hn, List.pairwise_iff_getElem.2 fun a b ha hb hab => hlt a b hb hab ha, fun e he => ?_⟩
 obtain ⟨i, hi, rfl⟩ := List.mem_iff_getElem.1 he
 have c := h i hi
 refine ⟨c.gd, c.db, c.sz, ?_⟩
 rcases c.up with h1 | ⟨j, hj, h1, h2, _⟩
 ·exact .inl (upB_nil.1 h1)
 ·exact .inr ⟨_, List.getElem_mem hj, h1, h2⟩
theorem Good_j1f {l : List S30} (hl : l.length ≤ 100000) {i k : Nat} (hi : i < l.length) (hk : l.length < k) (h5 : 5 ≤ k) (hp : l[i].f0.size < 4294967280) (hg : Gd l[i].f0.data.toList) (F : Bool) (b : List Int) {res : Bool}
  (hgo : (upB l[i].f0 = ⟨#[]⟩ ∨ ∃ j, ∃ h : j < l.length, l[j].f0 = upB l[i].f0 ∧ l[j].f1 = true ∧ ∀ m, ∀ hm : m < j, l[m].f0 ≠ upB l[i].f0) → tallymanref7_GoodTree.l0 k (l.map t94) ((i + 1 : Nat) : Int) = some res)
  (hno : ¬ (upB l[i].f0 = ⟨#[]⟩ ∨ ∃ j, ∃ h : j < l.length, l[j].f0 = upB l[i].f0 ∧ l[j].f1 = true ∧ ∀ m, ∀ hm : m < j, l[m].f0 ≠ upB l[i].f0) → res = false) :
  tallymanref7_GoodTree.j1 (k + 1) (l.map t94) (i : Int) false l[i].f0 F b = some res := by
 have hw : wrap64 ((i : Int) + 1) = ((i + 1 : Nat) : Int) := wr1 (by omega)
 rw [tallymanref7_GoodTree.j1, if_neg Bool.false_ne_true, RUp_eq hp h5, if_pos hg, Option.bind_some]
 obtain ⟨r, hr, hs⟩ := At_f (l := l) (p := upB l[i].f0) hl hk
 dsimp only
 rw [hr, Option.bind_some, hw]
 by_cases h1 : upB l[i].f0 = ⟨#[]⟩
 ·rw [if_pos (toList_ne.2 h1)]
  exact hgo (.inl h1)
 ·rw [if_neg (fun e => h1 (toList_ne.1 e))]
  rcases hs with ⟨rfl, hs⟩ | ⟨j, hj, rfl, hjp, hjm⟩
  ·rw [if_pos (by decide), hno]
   rintro (h | ⟨j, hj, h, _⟩)
   ·exact h1 h
   ·exact hs _ (List.getElem_mem hj) h
  ·rw [if_neg (by omega), if_pos (by omega), if_pos (by rw [List.length_map]; omega), rd94 hj]
   by_cases hd : l[j].f1 = true
   ·rw [if_pos hd]
    exact hgo (.inr ⟨j, hj, hjp, hd, hjm⟩)
   ·rw [if_neg hd, hno]
    rintro (h | ⟨m, hm, h2, h3, h4⟩)
    ·exact h1 h
    ·rcases Nat.lt_trichotomy m j with h5 | rfl | h5
     ·exact hjm m h5 h2
     ·exact hd h3
     ·exact h4 j h5 hjp
theorem Good_l0 (l : List S30) (h : okT l) : ∀ (d i k : Nat), i + d = l.length → 2 * d + l.length + 8 < k → (∀ j (hj : j < l.length), j < i → Dx l j l[j]) → tallymanref7_GoodTree.l0 k (l.map t94) (i : Int) = some (decide (GT30 l))
 | 0, i, k, hd, hk, ha => by
  obtain ⟨k, rfl⟩ : ∃ m, k = m + 1 := ⟨k - 1, by omega⟩
  rw [tallymanref7_GoodTree.l0, if_neg (by rw [List.length_map]; omega), List.length_map]
  by_cases h1 : (l.length : Int) ≤ 40
  ·rw [if_pos h1, Bytes_f h (by omega), Option.bind_some]
   congr 1
   rw [decide_eq_decide]
   exact ⟨fun h2 => Dx_GT (by omega) (by omega) fun j hj => ha j hj (by omega), fun h2 => by have : nB30 l ≤ 16384 := h2.2.1; omega⟩
  ·rw [if_neg h1, decide_eq_false]
   exact fun h2 => by have := h2.1; omega
 | d + 1, i, k, hd, hk, ha => by
  obtain ⟨k, rfl⟩ : ∃ m, k = m + 2 := ⟨k - 2, by omega⟩
  have hl := (okP_iff.1 h.1).2
  have hi : i < l.length := by omega
  have hz : ∀ j (hj : j < l.length), l[j].f0.size < 4294967280 := fun j hj => (okP_iff.1 h.1).1 _ (List.getElem_mem hj)
  have hno : ¬ Dx l i l[i] → some false = some (decide (GT30 l)) := fun hd => by rw [decide_eq_false (fun hg => hd (GT_Dx hg i hi))]
  have hw : wrap64 ((i : Int) + 1) = ((i + 1 : Nat) : Int) := wr1 (by omega)
  have hj1 : ∀ F b, tallymanref7_GoodTree.j1 (k + 1) (l.map t94) (i : Int) true l[i].f0 F b = some false := fun F b => by rw [tallymanref7_GoodTree.j1, if_pos rfl]
  rw [tallymanref7_GoodTree.l0, if_pos (by rw [List.length_map]; omega), if_pos (by omega), rd94 hi]
  show (tallymanref7_Good.f l[i].f0).bind _ = _
  rw [RGood_eq (hz i hi), Option.bind_some]
  by_cases hg : Gd l[i].f0.data.toList
  ·rw [if_pos (decide_eq_true hg)]
   -- behind the order
   have rest : (∀ q, i = q + 1 → ∀ h : q < l.length, ltP l[q].f0 l[i].f0) → (if l[i].f1 = true then (if (l[i].f2.length : Int) > 0 then (tallymanref7_GoodTree.j1 (k + 1) (l.map t94) (i : Int) true l[i].f0 l[i].f1 l[i].f2) else (tallymanref7_GoodTree.j1 (k + 1) (l.map t94) (i : Int) (decide ((l[i].f2.length : Int) > 2048)) l[i].f0 l[i].f1 l[i].f2)) else (tallymanref7_GoodTree.j1 (k + 1) (l.map t94) (i : Int) (decide ((l[i].f2.length : Int) > 2048)) l[i].f0 l[i].f1 l[i].f2)) = some (decide (GT30 l)) := by
    intro hlt
    have last : (l[i].f1 = true → l[i].f2 = []) → tallymanref7_GoodTree.j1 (k + 1) (l.map t94) (i : Int) (decide ((l[i].f2.length : Int) > 2048)) l[i].f0 l[i].f1 l[i].f2 = some (decide (GT30 l)) := by
     intro hdb
     by_cases hs : (l[i].f2.length : Int) > 2048
     ·rw [decide_eq_true hs, hj1]
      exact hno fun c => by have := c.sz; omega
     ·rw [decide_eq_false hs]
      refine Good_j1f hl hi (by omega) (by omega) (hz i hi) hg _ _ (fun hu => ?_) (fun hu => ?_)
      ·refine Good_l0 l h d (i + 1) k (by omega) (by omega) fun j hj hji => ?_
       rcases Nat.lt_or_ge j i with h2 | h2
       ·exact ha j hj h2
       ·obtain rfl : j = i := by omega
        exact ⟨hg, hlt, hdb, by omega, hu⟩
      ·exact decide_eq_false fun hgt => hu (GT_Dx hgt i hi).up
    by_cases hdi : l[i].f1 = true
    ·rw [if_pos hdi]
     by_cases hbl : (l[i].f2.length : Int) > 0
     ·rw [if_pos hbl, hj1]
      exact hno fun c => by rw [c.db hdi, List.length_nil] at hbl; omega
     ·rw [if_neg hbl]
      exact last fun _ => List.eq_nil_of_length_eq_zero (by omega)
    ·rw [if_neg hdi]
     exact last fun e => absurd e hdi
   by_cases h0 : (i : Int) > 0
   ·obtain ⟨q, rfl⟩ : ∃ q, i = q + 1 := ⟨i - 1, by omega⟩
    have hw2 : wrap64 (((q + 1 : Nat) : Int) - 1) = (q : Int) := by unfold wrap64; omega
    have hq : q < l.length := by omega
    rw [if_pos h0, hw2, if_pos (by omega), if_pos (by rw [List.length_map]; omega), rd94 hq]
    show (tallymanref7_Cmp.f l[q].f0 l[q + 1].f0).bind _ = _
    rw [RCmp_eq (hz q hq) (hz _ hi), Option.bind_some]
    by_cases hc : cL (sp l[q].f0.data.toList) (sp l[q + 1].f0.data.toList) ≥ 0
    ·rw [if_pos hc]
     refine (hj1 _ _).trans (hno fun c => ?_)
     have : cL (sp l[q].f0.data.toList) (sp l[q + 1].f0.data.toList) < 0 := c.lt q rfl hq
     omega
    ·rw [if_neg hc]
     exact rest fun q' e hq' => by
      obtain rfl : q = q' := by omega
      show cL _ _ < 0
      omega
   ·rw [if_neg h0]
    exact rest fun q e => by omega
  ·rw [if_neg (by simpa using hg)]
   exact (hj1 _ _).trans (hno fun c => hg c.gd)
theorem GoodTree_eq {l : List S30} {k : Nat} (h : okT l) (hk : 3 * l.length + 8 < k) : tallymanref7_GoodTree.f k (l.map t94) = some (decide (GT30 l)) :=
 Good_l0 l h l.length 0 k (by omega) (by omega) fun j hj h => absurd h (Nat.not_lt_zero j)
theorem sameL_l0 (a b : List S30) (hlen : a.length = b.length) (hl : a.length ≤ 100000) : ∀ (d i k : Nat), i + d = a.length → d < k → tallymanref7_Alike.l0 k (a.map t94) (b.map t94) (i : Int) = some (((a.drop i).zip (b.drop i)).all fun p => sameE p.1 p.2)
 | 0, i, k, hd, hk => by
  obtain ⟨k, rfl⟩ : ∃ m, k = m + 1 := ⟨k - 1, by omega⟩
  rw [tallymanref7_Alike.l0, if_neg (by rw [List.length_map]; omega), List.drop_eq_nil_of_le (by omega)]
  rfl
 | d + 1, i, k, hd, hk => by
  obtain ⟨k, rfl⟩ : ∃ m, k = m + 1 := ⟨k - 1, by omega⟩
  have hi : i < a.length := by omega
  have hi2 : i < b.length := by omega
  have hw : wrap64 ((i : Int) + 1) = ((i + 1 : Nat) : Int) := wr1 (by omega)
  rw [tallymanref7_Alike.l0, if_pos (by rw [List.length_map]; omega), if_pos (by omega), if_pos (by rw [List.length_map]; omega), rd94 hi, rd94 hi2, hw, List.drop_eq_getElem_cons hi, List.drop_eq_getElem_cons hi2, List.zip_cons_cons, List.all_cons]
  have ih := sameL_l0 a b hlen hl d (i + 1) k (by omega) (by omega)
  show (if a[i].f0.toList = b[i].f0.toList then (if (a[i].f1 != b[i].f1) = true then some false else (if (strOfNums a[i].f2).toList = (strOfNums b[i].f2).toList then _ else some false)) else some false) = _
  unfold sameE
  by_cases h1 : a[i].f0.toList = b[i].f0.toList
  ·rw [if_pos h1, beq_iff_eq.2 h1]
   by_cases h2 : a[i].f1 = b[i].f1
   ·rw [if_neg (by simp [h2]), beq_iff_eq.2 h2]
    by_cases h3 : (strOfNums a[i].f2).toList = (strOfNums b[i].f2).toList
    ·rw [if_pos h3, beq_iff_eq.2 h3]
     exact ih
    ·rw [if_neg h3, beq_eq_false_iff_ne.2 h3]
     rfl
   ·rw [if_pos (by simpa using h2), beq_eq_false_iff_ne.2 h2]
    rfl
  ·rw [if_neg h1, beq_eq_false_iff_ne.2 h1]
   rfl
theorem Alike_eq {a b : List S30} {k : Nat} (hl : a.length ≤ 100000) (hk : a.length < k) : tallymanref7_Alike.f k (a.map t94) (b.map t94) = some (sameL a b) := by
 unfold tallymanref7_Alike.f sameL
 rw [List.length_map, List.length_map]
 by_cases h : a.length = b.length
 ·have h2 := sameL_l0 a b h hl a.length 0 k (by omega) hk
  rw [List.drop_zero, List.drop_zero] at h2
  rw [if_pos (by omega), decide_eq_true h, Bool.true_and]
  exact h2
 ·rw [if_neg (by omega), decide_eq_false h, Bool.false_and]
theorem Alike_self {a : List S30} {k : Nat} (hl : a.length ≤ 100000) (hk : a.length < k) : tallymanref7_Alike.f k (a.map t94) (a.map t94) = some true := by
 rw [Alike_eq hl hk, sameL_self]
theorem room_eq {l : List S30} {p : ByteArray} {k : Nat} (h : GT30 l) (hp : p.size < 4294967280) (hg : Gd p.data.toList) (hk : l.length < k) (h5 : 5 ≤ k) : tallymanref7_room.f k (l.map t94) p = some (upE l p) := by
 have hl : l.length ≤ 100000 := by have := h.1; omega
 unfold tallymanref7_room.f upE
 rw [RUp_eq hp h5, if_pos hg, Option.bind_some]
 dsimp only
 by_cases h1 : upB p = ⟨#[]⟩
 ·rw [if_pos (toList_ne.2 h1), if_pos h1]
 ·obtain ⟨r, hr, hs⟩ := At_f (l := l) (p := upB p) hl hk
  rw [if_neg (fun e => h1 (toList_ne.1 e)), if_neg h1, hr, Option.bind_some]
  rcases hs with ⟨rfl, hs⟩ | ⟨j, hj, rfl, hjp, hjm⟩
  ·rw [if_pos (by decide), if_neg (fun ⟨x, hx, e⟩ => hs x hx e)]
  ·rw [if_neg (by omega), if_pos (by omega), if_pos (by rw [List.length_map]; omega), rd94 hj]
   by_cases h2 : l[j].f1 = true
   ·rw [if_pos h2, if_pos ⟨_, List.getElem_mem hj, hjp⟩, if_pos ⟨_, List.getElem_mem hj, hjp, h2⟩]
   ·rw [if_neg h2, if_pos ⟨_, List.getElem_mem hj, hjp⟩, if_neg]
    rintro ⟨x, hx, e1, e2⟩
    rw [srt_key h.2.2.1 hx (List.getElem_mem hj) (e1.trans hjp.symm)] at e2
    exact h2 e2
theorem with_done (l : List S30) (p : ByteArray) (F : Bool) (b : List Int) (hl : l.length ≤ 100000) (hn : ∀ x ∈ l, x.f0 ≠ p) : ∀ (d i k : Nat) (acc : List S94), i + d = l.length → 2 * d < k → acc.length ≤ i + 1 → tallymanref7_with.l0 k (l.map t94) acc true (i : Int) p F b = some (acc ++ (l.drop i).map t94)
 | 0, i, k, acc, hd, hk, ha => by
  obtain ⟨k, rfl⟩ : ∃ m, k = m + 1 := ⟨k - 1, by omega⟩
  rw [tallymanref7_with.l0, if_neg (by rw [List.length_map]; omega), if_pos rfl, List.drop_eq_nil_of_le (by omega), List.map_nil, List.append_nil]
 | d + 1, i, k, acc, hd, hk, ha => by
  obtain ⟨k, rfl⟩ : ∃ m, k = m + 2 := ⟨k - 2, by omega⟩
  have hi : i < l.length := by omega
  have hw : wrap64 ((i : Int) + 1) = ((i + 1 : Nat) : Int) := wr1 (by omega)
  rw [tallymanref7_with.l0, if_pos (by rw [List.length_map]; omega), if_pos rfl, tallymanref7_with.j1, if_neg Bool.false_ne_true, if_pos (by omega), if_pos (by rw [List.length_map]; omega), rd94 hi, hw, if_neg (fun e => hn _ (List.getElem_mem hi) (tl_eq.1 e)), if_pos (by omega),
   with_done l p F b hl hn d (i + 1) k _ (by omega) (by omega) (by rw [List.length_append, List.length_singleton]; omega), List.drop_eq_getElem_cons hi, List.map_cons, List.append_assoc, List.singleton_append]
theorem with_open (l : List S30) (p : ByteArray) (F : Bool) (b : List Int) (hl : l.length ≤ 100000) (hz : ∀ x ∈ l, x.f0.size < 4294967280) (hp : p.size < 4294967280) (hs : Srt S30.f0 l) (hn : ∀ x ∈ l, x.f0 ≠ p) : ∀ (d i k : Nat), i + d = l.length → 2 * d < k → (∀ j (hj : j < l.length), j < i → ltP l[j].f0 p) → tallymanref7_with.l0 k (l.map t94) ((l.take i).map t94) false (i : Int) p F b = some ((insT l p F b).map t94)
 | 0, i, k, hd, hk, ha => by
  obtain ⟨k, rfl⟩ : ∃ m, k = m + 1 := ⟨k - 1, by omega⟩
  have hi := lowB_uniq (p := p) hs (by omega) ha (fun j hj hij => by omega)
  have h2 := insE_new (key := S30.f0) (e := (⟨p, F, b⟩ : S30)) hi (fun hlt => hn _ (List.getElem_mem hlt))
  rw [tallymanref7_with.l0, if_neg (by rw [List.length_map]; omega), if_neg Bool.false_ne_true, if_pos (by rw [List.length_map, List.length_take]; omega), insT, ← h2, List.drop_eq_nil_of_le (by omega), List.map_append]
  rfl
 | d + 1, i, k, hd, hk, ha => by
  obtain ⟨k, rfl⟩ : ∃ m, k = m + 2 := ⟨k - 2, by omega⟩
  have hi : i < l.length := by omega
  have hw : wrap64 ((i : Int) + 1) = ((i + 1 : Nat) : Int) := wr1 (by omega)
  have hne := hn _ (List.getElem_mem hi)
  rw [tallymanref7_with.l0, if_pos (by rw [List.length_map]; omega), if_neg Bool.false_ne_true, if_pos (by omega), rd94 hi]
  show (tallymanref7_Cmp.f l[i].f0 p).bind _ = _
  rw [RCmp_eq (hz _ (List.getElem_mem hi)) hp, Option.bind_some]
  by_cases hc : cL (sp l[i].f0.data.toList) (sp p.data.toList) ≥ 0
  ·have hi2 := lowB_uniq (p := p) hs (by omega) ha (fun j hj hij hlt => by
    rcases Nat.lt_or_ge i j with h | h
    ·have h3 : ltP l[i].f0 l[j].f0 := List.pairwise_iff_getElem.1 hs i j hi hj h
     have h4 : cL (sp l[i].f0.data.toList) (sp p.data.toList) < 0 := ltP_trans h3 hlt
     omega
    ·obtain rfl : j = i := by omega
     have h4 : cL (sp l[j].f0.data.toList) (sp p.data.toList) < 0 := hlt
     omega)
   have h2 := insE_new (key := S30.f0) (e := (⟨p, F, b⟩ : S30)) hi2 (fun hlt => hn _ (List.getElem_mem hlt))
   rw [decide_eq_true hc, tallymanref7_with.j1, if_pos rfl, if_pos (by rw [List.length_map, List.length_take]; omega), Option.bind_some, if_pos (by omega), if_pos (by rw [List.length_map]; omega), rd94 hi, hw, if_neg (fun e => hne (tl_eq.1 e)), if_pos (by rw [List.length_append, List.length_map, List.length_take, List.length_singleton]; omega),
    with_done l p F b hl hn d (i + 1) k _ (by omega) (by omega) (by simp only [List.length_append, List.length_map, List.length_take, List.length_singleton]; omega), insT, ← h2, List.map_append, List.map_cons, List.drop_eq_getElem_cons hi, List.map_cons]
   simp only [List.append_assoc, List.singleton_append, List.cons_append, List.nil_append]
  ·have hlt : ltP l[i].f0 p := by show cL _ _ < 0; omega
   have ih := with_open l p F b hl hz hp hs hn d (i + 1) k (by omega) (by omega) fun j hj hji => by
    rcases Nat.lt_or_ge j i with h | h
    ·exact ha j hj h
    ·obtain rfl : j = i := by omega
     exact hlt
   rw [decide_eq_false hc, tallymanref7_with.j1, if_neg Bool.false_ne_true, if_pos (by omega), if_pos (by rw [List.length_map]; omega), rd94 hi, hw, if_neg (fun e => hne (tl_eq.1 e)), if_pos (by rw [List.length_map, List.length_take]; omega), ← ih, List.take_add_one, List.getElem?_eq_getElem hi, List.map_append]
   rfl
theorem with_f {l : List S30} {p : ByteArray} {F : Bool} {b : List Int} {k : Nat} (h : GT30 l) (hp : p.size < 4294967280) (hn : ∀ x ∈ l, x.f0 ≠ p) (hk : 2 * l.length < k) : tallymanref7_with.f k (l.map t94) p F b = some ((insT l p F b).map t94) := by
 have h1 := okP_iff.1 (GT_okT h).1
 exact with_open l p F b h1.2 h1.1 hp h.2.2.1 hn l.length 0 k (by omega) hk fun j _ hj => absurd hj (Nat.not_lt_zero j)
theorem RMake_eq {l : List S30} {p : ByteArray} {k : Nat} (h : okT l) (hp : p.size < 4294967280) (hk : 3 * l.length + 300 < k) : tallymanref7_Make.f k (l.map t94) p = some ((make0 l p).1.map t94, (make0 l p).2) := by
 have hl := (okP_iff.1 h.1).2
 unfold tallymanref7_Make.f make0
 rw [GoodTree_eq h (by omega), Option.bind_some]
 by_cases hg : GT30 l
 ·rw [if_pos (decide_eq_true hg), RGood_eq hp, Option.bind_some]
  by_cases hd : Gd p.data.toList
  ·obtain ⟨r, hr, hs⟩ := At_f (l := l) (p := p) hl (k := k) (by omega)
   rw [if_pos (decide_eq_true hd), hr, Option.bind_some]
   rcases hs with ⟨rfl, hs⟩ | ⟨j, hj, rfl, hjp, _⟩
   ·have h5 : findE l p = 5 := findE_five.2 ⟨hg, hd, hs⟩
    have h40 := hg.1
    rw [if_neg (by decide), h5, if_neg (by decide), if_pos rfl, room_eq hg hp hd (by omega) (by omega), Option.bind_some]
    unfold with1
    by_cases hu : upE l p = 0
    ·have hnd : ¬ ∃ x ∈ l, x.f0 = p ∧ x.f1 = true := fun ⟨x, hx, e, _⟩ => hs x hx e
     have hle : (insT l p true []).length = l.length + 1 ∧ nB30 (insT l p true []) = nB30 l + 0 := ins_len (e := (⟨p, true, []⟩ : S30)) hs
     have hnb : nB30 l ≤ 16384 := hg.2.1
     have hoi : okT (insT l p true []) := by
      refine ⟨okP_iff.2 ⟨fun x hx => ?_, by omega⟩, by omega⟩
      rcases (insE_mem (e := (⟨p, true, []⟩ : S30)) hg.2.2.1).1 hx with rfl | ⟨hx, _⟩
      ·exact hp
      ·exact (okP_iff.1 h.1).1 x hx
     rw [if_pos hu, if_pos hu, with_f hg hp hs (by omega), Option.bind_some, GoodTree_eq hoi (by omega), Option.bind_some]
     unfold with0
     rw [if_neg hnd]
     by_cases h41 : (insT l p true []).length > 40
     ·rw [decide_eq_false (fun hg2 => by have := hg2.1; omega), if_neg Bool.false_ne_true, if_pos (.inl h41)]
     ·have hgi := GT_ins (d := true) (b := []) hg hd (upE_zero.1 hu) (fun _ => rfl) hnd (by omega) (by simp) (by omega)
      rw [decide_eq_true hgi, if_pos rfl, if_neg]
      rintro (h6 | h6 | h6)
      ·exact h41 h6
      ·simp at h6
      ·omega
    ·rw [if_neg hu, if_neg hu]
   ·have h0 : findE l p = 0 := findE_zero.2 ⟨hg, hd, _, List.getElem_mem hj, hjp⟩
    rw [if_pos (by omega), if_pos h0]
  ·have h4 : findE l p = 4 := by unfold findE; rw [if_pos hg, if_neg hd]
   rw [if_neg (by simpa using hd), h4]
   rfl
 ·have h1 : findE l p = 1 := by unfold findE; rw [if_neg hg]
  rw [if_neg (by simpa using hg), h1]
  rfl
theorem clean_l0 (l : List S30) (hl : l.length ≤ 100000) (hz : ∀ x ∈ l, x.f0.size < 4294967280) : ∀ (d i k : Nat) (acc : List S94), i + d = l.length → d < k → acc.length ≤ i → tallymanref7_Clean.l0 k (l.map t94) acc (i : Int) = some (acc ++ ((l.drop i).filter fun x => !insB x).map t94)
 | 0, i, k, acc, hd, hk, ha => by
  obtain ⟨k, rfl⟩ : ∃ m, k = m + 1 := ⟨k - 1, by omega⟩
  rw [tallymanref7_Clean.l0, if_neg (by rw [List.length_map]; omega), List.drop_eq_nil_of_le (by omega), List.filter_nil, List.map_nil, List.append_nil]
 | d + 1, i, k, acc, hd, hk, ha => by
  obtain ⟨k, rfl⟩ : ∃ m, k = m + 1 := ⟨k - 1, by omega⟩
  have hi : i < l.length := by omega
  have hw : wrap64 ((i : Int) + 1) = ((i + 1 : Nat) : Int) := wr1 (by omega)
  rw [tallymanref7_Clean.l0, if_pos (by rw [List.length_map]; omega), if_pos (by omega), rd94 hi]
  show (tallymanref7_Inside.f l[i].f0).bind _ = _
  rw [RInside_eq (hz _ (List.getElem_mem hi)), Option.bind_some, hw, List.drop_eq_getElem_cons hi, List.filter_cons]
  by_cases hq : insideL l[i].f0.data.toList
  ·have hb : insB l[i] = true := decide_eq_true hq
   rw [if_pos (decide_eq_true hq), hb, if_neg (by decide), clean_l0 l hl hz d (i + 1) k acc (by omega) (by omega) (by omega)]
  ·have hb : insB l[i] = false := decide_eq_false hq
   rw [if_neg (by simpa using hq), if_pos (by omega), hb, if_pos (by decide), clean_l0 l hl hz d (i + 1) k _ (by omega) (by omega) (by rw [List.length_append, List.length_singleton]; omega), List.map_cons, List.append_assoc, List.singleton_append]
theorem RClean_eq {l : List S30} {k : Nat} (h : okT l) (hk : 3 * l.length + 8 < k) : tallymanref7_Clean.f k (l.map t94) = some ((clean0 l).map t94) := by
 have h1 := okP_iff.1 h.1
 unfold tallymanref7_Clean.f clean0
 rw [GoodTree_eq h hk, Option.bind_some]
 by_cases hg : GT30 l
 ·have h2 := clean_l0 l h1.2 h1.1 l.length 0 k [] (by omega) (by omega) (Nat.zero_le _)
  rw [List.drop_zero, List.nil_append] at h2
  rw [if_pos (decide_eq_true hg), if_pos hg]
  exact h2
 ·rw [if_neg (by simpa using hg), if_neg hg]
end Go.Proofs.YtidlldfghkaeeaaDoor.P
end
section
namespace Go.Proofs.YtidlldfghkaeeaaDoor.Pure
open Go.RowKit Go.Proofs.YtidlldfghkaeeaaDoor.P Go.Proofs.YtidlldfghkaeeaaDoorW.PrintWords Go.Proofs.YtidlldfghkaeeaaDoorW.PrintLast
set_option linter.unusedVariables false
set_option linter.unusedSimpArgs false
theorem nB_leS {B : Nat} : ∀ {l : List S30}, (∀ x ∈ l, x.f2.length ≤ B) → nB30 l ≤ l.length * B
 | [], _ => by simp [nB30, nB]
 | x :: l, h => by
  have h1 := h x List.mem_cons_self
  have h2 := nB_leS (l := l) fun y hy => h y (List.mem_cons_of_mem _ hy)
  unfold nB30 at h2 ⊢
  rw [nB_cons, List.length_cons, Nat.succ_mul]
  omega
theorem okT_says {l : List S30} (h0 : ∀ x ∈ l, x.f0.size ≤ 100 ∧ x.f2.length ≤ 3000) (hl : l.length ≤ 60) : okT l := by
 have h1 := nB_leS (B := 3000) fun x hx => (h0 x hx).2
 have h2 : l.length * 3000 ≤ 60 * 3000 := Nat.mul_le_mul_right _ hl
 exact ⟨okP_iff.2 ⟨fun x hx => by have := (h0 x hx).1; omega, by omega⟩, by omega⟩
theorem make0_len {l : List S30} {p : ByteArray} (hl : l.length ≤ 60) : (make0 l p).1.length ≤ 100 := by
 unfold make0
 by_cases h0 : findE l p = 0
 ·rw [if_pos h0]
  show l.length ≤ 100
  omega
 ·rw [if_neg h0]
  by_cases h5 : findE l p = 5
  ·obtain ⟨hg, hd, _⟩ := findE_five.1 h5
   rw [if_pos h5]
   rcases with1_cases (d := true) (b := []) hg hd (fun _ => rfl) with ⟨h1, _⟩ | ⟨h1, h2, _⟩
   ·rw [h1]; omega
   ·rw [h1]
    have := h2.1
    show (insT l p true []).length ≤ 100
    omega
  ·rw [if_neg h5]
   show l.length ≤ 100
   omega
theorem says_tail {l r : List S30} {e n : Int} {k : Nat} (h : okT l) (hl : l.length ≤ 60) (hr : r.length ≤ 100) (hk : 300 < k) (hn : n = if GT30 l then (nB30 l : Int) else 0) :
  (if e = e then ((tallymanlaw8_own.f k r).bind fun t276 => ((tallymanref7_Alike.f k t276 (r.map t94)).bind fun t279 => (if t279 = true then ((tree_Bytes.f k l).bind fun t280 => (if t280 = n then ((tree_Clean.f l).bind fun t281 => ((tallymanlaw8_own.f k t281).bind fun t284 => ((tallymanref7_Clean.f k (l.map t94)).bind fun t287 => ((tallymanref7_Alike.f k t284 t287).bind fun t290 => (some t290))))) else (some false))) else (some false)))) else (some false)) = some true := by
 have hc : (clean0 l).length ≤ 60 := by
  unfold clean0
  split
  ·exact Nat.le_trans (List.length_filter_le _ _) hl
  ·exact hl
 have e1 : tree_Clean.f l = some (clean0 l) := by unfold tree_Clean.f; rw [if_pos h]
 rw [if_pos rfl, own_f (by omega) (by omega), Option.bind_some, Alike_self (by omega) (by omega), Option.bind_some, if_pos rfl, tree_Bytes.eq h (by omega), Option.bind_some, if_pos hn.symm, e1, Option.bind_some, own_f (by omega) (by omega), Option.bind_some, RClean_eq h (by omega), Option.bind_some, Alike_self (by omega) (by omega), Option.bind_some]
theorem says_j3 {a b r : List S30} {e n : Int} {k : Nat} (ha : okT a) (hb : okT b) (hla : a.length ≤ 60) (hlb : b.length ≤ 60) (hr : r.length ≤ 100) (hk : 301 < k) (hn : n = if GT30 a then (nB30 a : Int) else 0) :
  tallymanlaw8_TreeSays.j3 k (a.map t94) (b.map t94) (decide (GT30 a)) e (r.map t94) e n a b r = some true := by
 obtain ⟨k, rfl⟩ : ∃ m, k = m + 1 := ⟨k - 1, by omega⟩
 rw [tallymanlaw8_TreeSays.j3, tree_Good.eq ha, Option.bind_some, beq_self_eq_true, if_pos rfl, tree_Same.eq ha hb, Option.bind_some]
 have ht := says_tail (e := e) (k := k) ha hla hr (by omega) hn
 by_cases hg : GT30 a
 ·rw [decide_eq_true hg, Bool.true_and, if_pos rfl, GoodTree_eq hb (by omega), Option.bind_some]
  by_cases hg2 : GT30 b
  ·rw [decide_eq_true hg2, Bool.true_and, if_pos rfl, Alike_eq (by omega) (by omega), Option.bind_some, beq_self_eq_true, if_pos rfl]
   exact ht
  ·rw [decide_eq_false hg2, Bool.false_and, if_neg Bool.false_ne_true, beq_self_eq_true, if_pos rfl]
   exact ht
 ·rw [decide_eq_false hg, Bool.false_and, Bool.false_and, if_neg Bool.false_ne_true, beq_self_eq_true, if_pos rfl]
  exact ht
theorem says_l1 (a b : List S30) (p : ByteArray) (ha : okT a) (hla : a.length ≤ 60) (hlb : b.length ≤ 60) (hp : p.size ≤ 100) : ∀ (d i k : Nat), i + d = b.length → d + 600 < k → (∀ j (hj : j < b.length), j < i → b[j].f0.size ≤ 100 ∧ b[j].f2.length ≤ 3000) → tallymanlaw8_TreeSays.l1 k b p (i : Int) a b = some true
 | 0, i, k, hd, hk, hb => by
  obtain ⟨k, rfl⟩ : ∃ m, k = m + 1 := ⟨k - 1, by omega⟩
  have hob : okT b := okT_says (fun x hx => by
   obtain ⟨j, hj, rfl⟩ := List.mem_iff_getElem.1 hx
   exact hb j hj (by omega)) hlb
  have hr := make0_len (p := p) hla
  rw [tallymanlaw8_TreeSays.l1, if_neg (by omega), own_f (by omega) (by omega), Option.bind_some, own_f (by omega) (by omega), Option.bind_some, GoodTree_eq ha (by omega), Option.bind_some, tree_Make.eq ha (by omega), Option.bind_some, RMake_eq ha (by omega) (by omega), Option.bind_some]
  dsimp only
  by_cases hg : GT30 a
  ·rw [if_pos (decide_eq_true hg), Bytes_f ha (by omega), Option.bind_some]
   exact says_j3 ha hob hla hlb hr (by omega) (by rw [if_pos hg])
  ·rw [if_neg (by simpa using hg)]
   exact says_j3 ha hob hla hlb hr (by omega) (by rw [if_neg hg])
 | d + 1, i, k, hd, hk, hb => by
  obtain ⟨k, rfl⟩ : ∃ m, k = m + 1 := ⟨k - 1, by omega⟩
  have hi : i < b.length := by omega
  have hw : wrap64 ((i : Int) + 1) = ((i + 1 : Nat) : Int) := wr1 (by omega)
  rw [tallymanlaw8_TreeSays.l1, if_pos (by omega), if_pos (by omega), rdT hi, hw]
  by_cases h1 : (b[i].f0.size : Int) > 100
  ·rw [if_pos h1]
  ·rw [if_neg h1]
   by_cases h2 : (b[i].f2.length : Int) > 3000
   ·rw [if_pos h2]
   ·rw [if_neg h2]
    refine says_l1 a b p ha hla hlb hp d (i + 1) k (by omega) (by omega) fun j hj hji => ?_
    rcases Nat.lt_or_ge j i with h | h
    ·exact hb j hj h
    ·obtain rfl : j = i := by omega
     exact ⟨by omega, by omega⟩
theorem says_l0 (a b : List S30) (p : ByteArray) (hla : a.length ≤ 60) (hlb : b.length ≤ 60) (hp : p.size ≤ 100) : ∀ (d i k : Nat), i + d = a.length → d + 700 < k → (∀ j (hj : j < a.length), j < i → a[j].f0.size ≤ 100 ∧ a[j].f2.length ≤ 3000) → tallymanlaw8_TreeSays.l0 k a b p (i : Int) a b = some true
 | 0, i, k, hd, hk, ha => by
  obtain ⟨k, rfl⟩ : ∃ m, k = m + 1 := ⟨k - 1, by omega⟩
  have hoa : okT a := okT_says (fun x hx => by
   obtain ⟨j, hj, rfl⟩ := List.mem_iff_getElem.1 hx
   exact ha j hj (by omega)) hla
  rw [tallymanlaw8_TreeSays.l0, if_neg (by omega)]
  exact says_l1 a b p hoa hla hlb hp b.length 0 k (by omega) (by omega) fun j _ h => absurd h (Nat.not_lt_zero j)
 | d + 1, i, k, hd, hk, ha => by
  obtain ⟨k, rfl⟩ : ∃ m, k = m + 1 := ⟨k - 1, by omega⟩
  have hi : i < a.length := by omega
  have hw : wrap64 ((i : Int) + 1) = ((i + 1 : Nat) : Int) := wr1 (by omega)
  rw [tallymanlaw8_TreeSays.l0, if_pos (by omega), if_pos (by omega), rdT hi, hw]
  by_cases h1 : (a[i].f0.size : Int) > 100
  ·rw [if_pos h1]
  ·rw [if_neg h1]
   by_cases h2 : (a[i].f2.length : Int) > 3000
   ·rw [if_pos h2]
   ·rw [if_neg h2]
    refine says_l0 a b p hla hlb hp d (i + 1) k (by omega) (by omega) fun j hj hji => ?_
    rcases Nat.lt_or_ge j i with h | h
    ·exact ha j hj h
    ·obtain rfl : j = i := by omega
     exact ⟨by omega, by omega⟩
theorem TreeSays (l0 l1 : List S30) (a2 : ByteArray) : ∃ k, tallymanlaw8_TreeSays.f k l0 l1 a2 = some true := by
 refine ⟨1000, ?_⟩
 have hj : tallymanlaw8_TreeSays.j0 (999 + 1) l0 l1 a2 true = some true := by rw [tallymanlaw8_TreeSays.j0, if_pos rfl]
 unfold tallymanlaw8_TreeSays.f
 rw [show tallymanlaw8_awake.f = some true from rfl, Option.bind_some, if_pos rfl]
 by_cases q1 : (l0.length : Int) > 60
 ·rw [if_pos q1]
  exact hj
 ·rw [if_neg q1]
  by_cases q2 : (l1.length : Int) > 60
  ·rw [if_pos q2]
   exact hj
  ·rw [if_neg q2]
   by_cases q3 : (a2.size : Int) > 100
   ·rw [decide_eq_true q3]
    exact hj
   ·rw [decide_eq_false q3]
    show tallymanlaw8_TreeSays.j0 (999 + 1) l0 l1 a2 false = some true
    rw [tallymanlaw8_TreeSays.j0, if_neg Bool.false_ne_true]
    exact says_l0 l0 l1 a2 (by omega) (by omega) (by omega) l0.length 0 999 (by omega) (by omega) fun j _ h => absurd h (Nat.not_lt_zero j)
end Go.Proofs.YtidlldfghkaeeaaDoor.Pure
end
section
namespace Go.Proofs.YtidlldfghkaeeaaDoorW.PrintWords
open Go.RowKit

/-- Type t's values are of kind d: whatever is read as one has cells that say some x, and x is ok. -/
structure Opn {α : Type} (P : Program) (t : TypeId) (d : Kd α) (ok : α → Prop) : Prop where
 sz : P.cellsOf t = d.sz
 opens : ∀ {H : Type} {enc : TypeId × Value → H} {W : World} {base : Nat} {spare : Nat → Bool} {held : Bool} {fuel : Nat} {cs : List Value} {x : DataW H × List MemPlace}, DataW.trod enc P W base spare held fuel t cs = some x → ∃ y, d.K W y cs ∧ ok y

theorem Opn.int {P : Program} {t : TypeId} {k : IntKind} (ht : P.underlying t = some (.int k)) (hc : P.cellsOf t = 1) : Opn P t (Kd.int k) (fun n => (Lit.int k n).wf = true) :=
 ⟨hc, fun hf => by obtain ⟨n, rfl, _, hw⟩ := DataW.trod_int ht hf; exact ⟨n, rfl, hw⟩⟩
theorem Opn.bool {P : Program} {t : TypeId} (ht : P.underlying t = some .bool) (hc : P.cellsOf t = 1) : Opn P t Kd.bool (fun _ => True) :=
 ⟨hc, fun hf => by obtain ⟨n, rfl, _⟩ := DataW.trod_bool ht hf; exact ⟨n, rfl, trivial⟩⟩
theorem Opn.string {P : Program} {t : TypeId} (ht : P.underlying t = some .string) (hc : P.cellsOf t = 1) : Opn P t Kd.string (fun s => s.size ≤ maxLen) :=
 ⟨hc, fun hf => by obtain ⟨n, rfl, _, hw⟩ := DataW.trod_string ht hf; exact ⟨n, rfl, hw⟩⟩
theorem choose_list {α : Type} (R : Nat → α → Prop) : ∀ n : Nat, (∀ i, i < n → ∃ x, R i x) → ∃ xs : List α, xs.length = n ∧ ∀ i x, xs[i]? = some x → R i x
 | 0, _ => ⟨[], rfl, fun i x h => by simp at h⟩
 | n + 1, h => by
  obtain ⟨xs, hl, hx⟩ := choose_list R n (fun i hi => h i (by omega))
  obtain ⟨x, hxn⟩ := h n (by omega)
  refine ⟨xs ++ [x], by simp [hl], fun i y hy => ?_⟩
  by_cases hi : i < xs.length
  ·rw [List.getElem?_append_left hi] at hy
   exact hx i y hy
  ·rw [List.getElem?_append_right (by omega)] at hy
   have : i - xs.length = 0 := by
    have := (List.getElem?_eq_some_iff.1 hy).1
    simp at this
    omega
   rw [this] at hy
   simp at hy
   subst hy
   rw [show i = n by omega]
   exact hxn
theorem Opn.slice {α : Type} {P : Program} {t e : TypeId} {d : Kd α} {ok : α → Prop} (ht : P.underlying t = some (.slice e)) (hc : P.cellsOf t = 1) (he : Opn P e d ok) :
  Opn P t (Kd.slice e d) (fun xs => xs.length ≤ maxLen ∧ ∀ x ∈ xs, ok x) := by
 refine ⟨hc, fun hf => ?_⟩
 rcases DataW.trod_slice ht hf with ⟨rfl, _⟩ | ⟨a, len, cap, elems, rest, n, _, rfl, _, hb, hl, hm, hel, hget, _, _⟩
 ·exact ⟨[], ⟨none, 0, rfl, Nat.le_refl _, Kd.C_nil _ _⟩, Nat.zero_le _, fun x hx => by cases hx⟩
 ·obtain ⟨xs, hxl, hxs⟩ := choose_list (fun i x => ok x ∧ ∃ c, c.length = d.sz ∧ d.K _ x c ∧ ∀ j u, c[j]? = some u → World.cell? _ (a.add (i * d.sz + j)) = some u) len (fun i hi => by
   have h1 := hget i hi
   rw [List.getElem?_eq_getElem (by omega)] at h1
   obtain ⟨c, h2, h3⟩ := Option.bind_eq_some_iff.1 h1
   obtain ⟨y, hy, hok⟩ := he.opens h3
   obtain ⟨_, hcl, hcc⟩ := World.cells?_some h2
   rw [he.sz] at hcl hcc
   refine ⟨y, hok, c, hcl, hy, fun j u hu => ?_⟩
   have hj : j < d.sz := by rw [← hcl]; exact (List.getElem?_eq_some_iff.1 hu).1
   have := hcc j hj
   rw [add_add] at this
   rw [this, hu])
  refine ⟨xs, ⟨some a, cap, by rw [hxl], by omega, hxl ▸ rfl, ?_, fun _ => ⟨a, rfl, fun j p hp => ?_⟩⟩, ?_, fun x hx => ?_⟩
  ·simp only [maxLen] at hm; omega
  ·obtain ⟨_, c, h1, h2, h3⟩ := hxs j p hp
   exact ⟨c, h1, h2, h3⟩
  ·omega
  ·obtain ⟨i, hi⟩ := List.getElem?_of_mem hx
   exact (hxs i x hi).1
/-- A struct's cells, field by field: from cell o on. -/
theorem pairK {α β : Type} {a : Kd α} {b : Kd β} {W : World} {x : α} {y : β} {cs : List Value} {o s : Nat} (_hs : s = a.sz) (h0 : a.K W x ((cs.drop o).take s)) (h1 : b.K W y (cs.drop (o + s))) : (Kd.pair a b).K W (x, y) (cs.drop o) :=
 ⟨(cs.drop o).take s, cs.drop (o + s), by rw [← List.drop_drop, List.take_append_drop], h0, h1⟩
theorem lastK {α : Type} {a : Kd α} {W : World} {x : α} {cs : List Value} {o s : Nat} (h : a.K W x ((cs.drop o).take s)) (hl : cs.length = o + s) : a.K W x (cs.drop o) := by
 rwa [List.take_of_length_le (by simp; omega)] at h
end Go.Proofs.YtidlldfghkaeeaaDoorW.PrintWords
end
