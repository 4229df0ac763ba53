/- Put together by pack2.py: RefTr, RefPl, PlaysP, PureTreePlays -/
import Derived.Test.YtidlldfghkaeeaaGreatDoorZyTreeMovPEtc
import Derived.Test.YtidlldfghkaeeaaGreatDoorZyDelFEtc
import Derived.Test.YtidlldfghkaeeaaGreatDoorZyTreeOkPEtc
import Derived.Test.YtidlldfghkaeeaaGreatDoorZyPfTallymanref7GoodTree
import Derived.Test.YtidlldfghkaeeaaGreatDoorZyPfTallymanlaw8OwnEtc
import Derived.Test.YtidlldfghkaeeaaGreatDoorZyPfTallymanref7MakeEtc
import Derived.Test.YtidlldfghkaeeaaGreatDoorZyPfTallymanref7InsideEtc
import Derived.Test.YtidlldfghkaeeaaGreatDoorZyPfTallymanref7RemoveEtc
import Derived.Test.YtidlldfghkaeeaaGreatDoorZyPfTallymanref7WithoutEtc
import Derived.Test.YtidlldfghkaeeaaGreatDoorZyPfTallymanref7KidsEtc
import Derived.Test.YtidlldfghkaeeaaGreatDoorZyPfTallymanlaw8TreePlays
set_option linter.unusedVariables false
set_option linter.unusedSimpArgs false
set_option maxHeartbeats 8000000
set_option maxRecDepth 100000
section
namespace Go.Proofs.YtidlldfghkaeeaaGreatDoor.P
open Go.RowKit Go.Proofs.YtidlldfghkaeeaaGreatDoorW.PrintWords Go.Proofs.YtidlldfghkaeeaaGreatDoorW.PrintLast Go.Proofs.YtidlldfghkaeeaaGreatDoorW.PrintMore
abbrev t94 (x : S42) : S45 := ⟨x.f0, x.f1, x.f2⟩
theorem rd94 {l : List S42} {i : Nat} (h : i < l.length) : rd_T45 (l.map t94) (i : Int) = t94 l[i] := by
 unfold rd_T45
 rw [Int.toNat_natCast, List.getD_eq_getElem?_getD, List.getElem?_map, List.getElem?_eq_getElem h]
 rfl
theorem own_l0 (l : List S42) (hl : l.length ≤ 100000) : ∀ (d i k : Nat) (acc : List S45), i + d = l.length → d < k → acc.length ≤ i → tallymanlaw8_own.l0 k acc (i : Int) l = some (acc ++ (l.drop i).map t94)
 | 0, i, k, acc, hd, hk, ha => by
  obtain ⟨k, rfl⟩ : ∃ m, k = m + 1 := ⟨k - 1, by omega⟩
  rw [tallymanlaw8_own.l0, if_neg (by omega), List.drop_eq_nil_of_le (by omega), List.map_nil, List.append_nil]
 | d + 1, i, k, acc, hd, hk, ha => by
  obtain ⟨k, rfl⟩ : ∃ m, k = m + 1 := ⟨k - 1, by omega⟩
  have hi : i < l.length := by omega
  have hw : wrap64 ((i : Int) + 1) = ((i + 1 : Nat) : Int) := wr1 (by omega)
  rw [tallymanlaw8_own.l0, if_pos (by omega), if_pos (by omega), if_pos (by omega), rdT hi, hw, own_l0 l hl d (i + 1) k _ (by omega) (by omega) (by rw [List.length_append, List.length_singleton]; omega), List.drop_eq_getElem_cons hi, List.map_cons, List.append_assoc, List.singleton_append]
theorem own_f {l : List S42} {k : Nat} (hl : l.length ≤ 100000) (hk : l.length < k) : tallymanlaw8_own.f k l = some (l.map t94) := by
 have h := own_l0 l hl l.length 0 k [] (by omega) hk (Nat.zero_le _)
 rw [List.drop_zero, List.nil_append] at h
 exact h
theorem tl_eq {a b : ByteArray} : a.toList = b.toList ↔ a = b := by
 rw [Lib.toList_data, Lib.toList_data]
 exact ⟨fun h => bext h, fun h => by rw [h]⟩
def AtS (l : List S42) (p : ByteArray) (r : Int) : Prop := (r = -1 ∧ ∀ x ∈ l, x.f0 ≠ p) ∨ ∃ i, ∃ h : i < l.length, r = (i : Int) ∧ l[i].f0 = p ∧ ∀ j, ∀ hj : j < i, l[j].f0 ≠ p
theorem At_l0 (l : List S42) (p : ByteArray) (hl : l.length ≤ 100000) : ∀ (d i k : Nat), i + d = l.length → d < k → (∀ j, ∀ hj : j < i, ∀ h : j < l.length, l[j].f0 ≠ p) → ∃ r, tallymanref7_At.l0 k (l.map t94) p (i : Int) = some r ∧ AtS l p r
 | 0, i, k, hd, hk, ha => by
  obtain ⟨k, rfl⟩ : ∃ m, k = m + 1 := ⟨k - 1, by omega⟩
  refine ⟨-1, ?_, .inl ⟨rfl, fun x hx => ?_⟩⟩
  ·rw [tallymanref7_At.l0, if_neg (by rw [List.length_map]; omega)]
  ·obtain ⟨j, hj, rfl⟩ := List.mem_iff_getElem.1 hx
   exact ha j (by omega) hj
 | d + 1, i, k, hd, hk, ha => by
  obtain ⟨k, rfl⟩ : ∃ m, k = m + 1 := ⟨k - 1, by omega⟩
  have hi : i < l.length := by omega
  have hw : wrap64 ((i : Int) + 1) = ((i + 1 : Nat) : Int) := wr1 (by omega)
  rw [tallymanref7_At.l0, if_pos (by rw [List.length_map]; omega), if_pos (by omega), rd94 hi, hw]
  by_cases hp : l[i].f0 = p
  ·exact ⟨i, if_pos (tl_eq.2 hp), .inr ⟨i, hi, rfl, hp, fun j hj => ha j hj (by omega)⟩⟩
  ·rw [if_neg (fun h => hp (tl_eq.1 h))]
   refine At_l0 l p hl d (i + 1) k (by omega) (by omega) fun j hj h => ?_
   rcases Nat.lt_or_ge j i with h1 | h1
   ·exact ha j h1 h
   ·obtain rfl : j = i := by omega
    exact hp
theorem At_f {l : List S42} {p : ByteArray} {k : Nat} (hl : l.length ≤ 100000) (hk : l.length < k) : ∃ r, tallymanref7_At.f k (l.map t94) p = some r ∧ AtS l p r :=
 At_l0 l p hl l.length 0 k (by omega) hk fun j hj => absurd hj (Nat.not_lt_zero j)
theorem Bytes_l0 (l : List S42) (hl : l.length ≤ 100000) (hn : nB30 l ≤ 1000000000000) : ∀ (d i k n : Nat), i + d = l.length → d < k → n + nB30 (l.drop i) = nB30 l → tallymanref7_Bytes.l0 k (l.map t94) (n : Int) (i : Int) = some (nB30 l : Int)
 | 0, i, k, n, hd, hk, ha => by
  obtain ⟨k, rfl⟩ : ∃ m, k = m + 1 := ⟨k - 1, by omega⟩
  rw [List.drop_eq_nil_of_le (by omega)] at ha
  rw [tallymanref7_Bytes.l0, if_neg (by rw [List.length_map]; omega), ← ha]
  rfl
 | d + 1, i, k, n, hd, hk, ha => by
  obtain ⟨k, rfl⟩ : ∃ m, k = m + 1 := ⟨k - 1, by omega⟩
  have hi : i < l.length := by omega
  have hw : wrap64 ((i : Int) + 1) = ((i + 1 : Nat) : Int) := wr1 (by omega)
  have hc : nB30 (l.drop i) = l[i].f2.length + nB30 (l.drop (i + 1)) := by
   rw [List.drop_eq_getElem_cons hi]
   exact nB_cons _ _
  have hw2 : wrap64 ((n : Int) + ((t94 l[i]).f2.length : Int)) = ((n + l[i].f2.length : Nat) : Int) := by
   show wrap64 ((n : Int) + (l[i].f2.length : Int)) = _
   unfold wrap64
   omega
  rw [tallymanref7_Bytes.l0, if_pos (by rw [List.length_map]; omega), if_pos (by omega), rd94 hi, hw, hw2]
  exact Bytes_l0 l hl hn d (i + 1) k _ (by omega) (by omega) (by omega)
theorem Bytes_f {l : List S42} {k : Nat} (h : okT l) (hk : l.length < k) : tallymanref7_Bytes.f k (l.map t94) = some (nB30 l : Int) :=
 Bytes_l0 l (okP_iff.1 h.1).2 h.2 l.length 0 k 0 (by omega) hk (by rw [List.drop_zero]; omega)
theorem RCmp_eq {a b : ByteArray} (ha : a.size < 4294967280) (hb : b.size < 4294967280) : tallymanref7_Cmp.f a b = some (cL (sp a.data.toList) (sp b.data.toList)) := by
 unfold tallymanref7_Cmp.f
 rw [if_pos ha, if_pos hb]
structure Dx (l : List S42) (i : Nat) (e : S42) : Prop where
 gd : Gd e.f0.data.toList
 lt : ∀ q, i = q + 1 → ∀ h : q < l.length, ltP l[q].f0 e.f0
 db : e.f1 = true → e.f2 = []
 sz : e.f2.length ≤ 2048
 up : upB e.f0 = ⟨#[]⟩ ∨ ∃ j, ∃ h : j < l.length, l[j].f0 = upB e.f0 ∧ l[j].f1 = true ∧ ∀ m, ∀ hm : m < j, l[m].f0 ≠ upB e.f0
theorem GT_Dx {l : List S42} (h : GT30 l) (i : Nat) (hi : i < l.length) : Dx l i l[i] := by
 have c := GT_Cs h i hi hi
 refine ⟨c.gd, c.lt, c.db, c.sz, ?_⟩
 obtain ⟨_, _, _, a4⟩ := h.2.2.2 l[i] (List.getElem_mem hi)
 rcases a4 with a4 | ⟨d, hd, e1, e2⟩
 ·exact .inl (upB_nil.2 a4)
 ·obtain ⟨j, hj, rfl⟩ := List.mem_iff_getElem.1 hd
  refine .inr ⟨j, hj, e1, e2, fun m hm e => ?_⟩
  have := List.pairwise_iff_getElem.1 h.2.2.1 m j (by omega) hj hm
  rw [e, e1] at this
  exact ltP_irr _ this
theorem Dx_GT {l : List S42} (hl : l.length ≤ 40) (hn : nB30 l ≤ 16384) (h : ∀ i (hi : i < l.length), Dx l i l[i]) : GT30 l := by
 have hlt : ∀ a b (hb : b < l.length), a < b → ∀ ha : a < l.length, ltP l[a].f0 l[b].f0 := by
  intro a b
  induction b with
  | zero => intro _ h1; omega
  | succ b ih =>
   intro hb hab ha
   have h1 := (h (b + 1) hb).lt b rfl (by omega)
   rcases Nat.lt_or_ge a b with h2 | h2
   ·exact ltP_trans (ih (by omega) h2 (by omega)) h1
   ·obtain rfl : a = b := by omega
    exact h1
 refine ⟨hl, hn, List.pairwise_iff_getElem.2 fun a b ha hb hab => hlt a b hb hab ha, fun e he => ?_⟩
 obtain ⟨i, hi, rfl⟩ := List.mem_iff_getElem.1 he
 have c := h i hi
 refine ⟨c.gd, c.db, c.sz, ?_⟩
 rcases c.up with h1 | ⟨j, hj, h1, h2, _⟩
 ·exact .inl (upB_nil.1 h1)
 ·exact .inr ⟨_, List.getElem_mem hj, h1, h2⟩
theorem Good_j1f {l : List S42} (hl : l.length ≤ 100000) {i k : Nat} (hi : i < l.length) (hk : l.length < k) (h5 : 5 ≤ k) (hp : l[i].f0.size < 4294967280) (hg : Gd l[i].f0.data.toList) (F : Bool) (b : List Int) {res : Bool}
  (hgo : (upB l[i].f0 = ⟨#[]⟩ ∨ ∃ j, ∃ h : j < l.length, l[j].f0 = upB l[i].f0 ∧ l[j].f1 = true ∧ ∀ m, ∀ hm : m < j, l[m].f0 ≠ upB l[i].f0) → tallymanref7_GoodTree.l0 k (l.map t94) ((i + 1 : Nat) : Int) = some res)
  (hno : ¬ (upB l[i].f0 = ⟨#[]⟩ ∨ ∃ j, ∃ h : j < l.length, l[j].f0 = upB l[i].f0 ∧ l[j].f1 = true ∧ ∀ m, ∀ hm : m < j, l[m].f0 ≠ upB l[i].f0) → res = false) :
  tallymanref7_GoodTree.j1 (k + 1) (l.map t94) (i : Int) false l[i].f0 F b = some res := by
 have hw : wrap64 ((i : Int) + 1) = ((i + 1 : Nat) : Int) := wr1 (by omega)
 rw [tallymanref7_GoodTree.j1, if_neg Bool.false_ne_true, RUp_eq hp h5, if_pos hg, Option.bind_some]
 obtain ⟨r, hr, hs⟩ := At_f (l := l) (p := upB l[i].f0) hl hk
 dsimp only
 rw [hr, Option.bind_some, hw]
 by_cases h1 : upB l[i].f0 = ⟨#[]⟩
 ·rw [if_pos (toList_ne.2 h1)]
  exact hgo (.inl h1)
 ·rw [if_neg (fun e => h1 (toList_ne.1 e))]
  rcases hs with ⟨rfl, hs⟩ | ⟨j, hj, rfl, hjp, hjm⟩
  ·rw [if_pos (by decide), hno]
   rintro (h | ⟨j, hj, h, _⟩)
   ·exact h1 h
   ·exact hs _ (List.getElem_mem hj) h
  ·rw [if_neg (by omega), if_pos (by omega), if_pos (by rw [List.length_map]; omega), rd94 hj]
   by_cases hd : l[j].f1 = true
   ·rw [if_pos hd]
    exact hgo (.inr ⟨j, hj, hjp, hd, hjm⟩)
   ·rw [if_neg hd, hno]
    rintro (h | ⟨m, hm, h2, h3, h4⟩)
    ·exact h1 h
    ·rcases Nat.lt_trichotomy m j with h5 | rfl | h5
     ·exact hjm m h5 h2
     ·exact hd h3
     ·exact h4 j h5 hjp
theorem Good_l0 (l : List S42) (h : okT l) : ∀ (d i k : Nat), i + d = l.length → 2 * d + l.length + 8 < k → (∀ j (hj : j < l.length), j < i → Dx l j l[j]) → tallymanref7_GoodTree.l0 k (l.map t94) (i : Int) = some (decide (GT30 l))
 | 0, i, k, hd, hk, ha => by
  obtain ⟨k, rfl⟩ : ∃ m, k = m + 1 := ⟨k - 1, by omega⟩
  rw [tallymanref7_GoodTree.l0, if_neg (by rw [List.length_map]; omega), List.length_map]
  by_cases h1 : (l.length : Int) ≤ 40
  ·rw [if_pos h1, Bytes_f h (by omega), Option.bind_some]
   congr 1
   rw [decide_eq_decide]
   exact ⟨fun h2 => Dx_GT (by omega) (by omega) fun j hj => ha j hj (by omega), fun h2 => by have : nB30 l ≤ 16384 := h2.2.1; omega⟩
  ·rw [if_neg h1, decide_eq_false]
   exact fun h2 => by have := h2.1; omega
 | d + 1, i, k, hd, hk, ha => by
  obtain ⟨k, rfl⟩ : ∃ m, k = m + 2 := ⟨k - 2, by omega⟩
  have hl := (okP_iff.1 h.1).2
  have hi : i < l.length := by omega
  have hz : ∀ j (hj : j < l.length), l[j].f0.size < 4294967280 := fun j hj => (okP_iff.1 h.1).1 _ (List.getElem_mem hj)
  have hno : ¬ Dx l i l[i] → some false = some (decide (GT30 l)) := fun hd => by rw [decide_eq_false (fun hg => hd (GT_Dx hg i hi))]
  have hw : wrap64 ((i : Int) + 1) = ((i + 1 : Nat) : Int) := wr1 (by omega)
  have hj1 : ∀ F b, tallymanref7_GoodTree.j1 (k + 1) (l.map t94) (i : Int) true l[i].f0 F b = some false := fun F b => by rw [tallymanref7_GoodTree.j1, if_pos rfl]
  rw [tallymanref7_GoodTree.l0, if_pos (by rw [List.length_map]; omega), if_pos (by omega), rd94 hi]
  show (tallymanref7_Good.f l[i].f0).bind _ = _
  rw [RGood_eq (hz i hi), Option.bind_some]
  by_cases hg : Gd l[i].f0.data.toList
  ·rw [if_pos (decide_eq_true hg)]
   have rest : (∀ q, i = q + 1 → ∀ h : q < l.length, ltP l[q].f0 l[i].f0) → (if l[i].f1 = true then (if (l[i].f2.length : Int) > 0 then (tallymanref7_GoodTree.j1 (k + 1) (l.map t94) (i : Int) true l[i].f0 l[i].f1 l[i].f2) else (tallymanref7_GoodTree.j1 (k + 1) (l.map t94) (i : Int) (decide ((l[i].f2.length : Int) > 2048)) l[i].f0 l[i].f1 l[i].f2)) else (tallymanref7_GoodTree.j1 (k + 1) (l.map t94) (i : Int) (decide ((l[i].f2.length : Int) > 2048)) l[i].f0 l[i].f1 l[i].f2)) = some (decide (GT30 l)) := by
    intro hlt
    have last : (l[i].f1 = true → l[i].f2 = []) → tallymanref7_GoodTree.j1 (k + 1) (l.map t94) (i : Int) (decide ((l[i].f2.length : Int) > 2048)) l[i].f0 l[i].f1 l[i].f2 = some (decide (GT30 l)) := by
     intro hdb
     by_cases hs : (l[i].f2.length : Int) > 2048
     ·rw [decide_eq_true hs, hj1]
      exact hno fun c => by have := c.sz; omega
     ·rw [decide_eq_false hs]
      refine Good_j1f hl hi (by omega) (by omega) (hz i hi) hg _ _ (fun hu => ?_) (fun hu => ?_)
      ·refine Good_l0 l h d (i + 1) k (by omega) (by omega) fun j hj hji => ?_
       rcases Nat.lt_or_ge j i with h2 | h2
       ·exact ha j hj h2
       ·obtain rfl : j = i := by omega
        exact ⟨hg, hlt, hdb, by omega, hu⟩
      ·exact decide_eq_false fun hgt => hu (GT_Dx hgt i hi).up
    by_cases hdi : l[i].f1 = true
    ·rw [if_pos hdi]
     by_cases hbl : (l[i].f2.length : Int) > 0
     ·rw [if_pos hbl, hj1]
      exact hno fun c => by rw [c.db hdi, List.length_nil] at hbl; omega
     ·rw [if_neg hbl]
      exact last fun _ => List.eq_nil_of_length_eq_zero (by omega)
    ·rw [if_neg hdi]
     exact last fun e => absurd e hdi
   by_cases h0 : (i : Int) > 0
   ·obtain ⟨q, rfl⟩ : ∃ q, i = q + 1 := ⟨i - 1, by omega⟩
    have hw2 : wrap64 (((q + 1 : Nat) : Int) - 1) = (q : Int) := by unfold wrap64; omega
    have hq : q < l.length := by omega
    rw [if_pos h0, hw2, if_pos (by omega), if_pos (by rw [List.length_map]; omega), rd94 hq]
    show (tallymanref7_Cmp.f l[q].f0 l[q + 1].f0).bind _ = _
    rw [RCmp_eq (hz q hq) (hz _ hi), Option.bind_some]
    by_cases hc : cL (sp l[q].f0.data.toList) (sp l[q + 1].f0.data.toList) ≥ 0
    ·rw [if_pos hc]
     refine (hj1 _ _).trans (hno fun c => ?_)
     have : cL (sp l[q].f0.data.toList) (sp l[q + 1].f0.data.toList) < 0 := c.lt q rfl hq
     omega
    ·rw [if_neg hc]
     exact rest fun q' e hq' => by
      obtain rfl : q = q' := by omega
      show cL _ _ < 0
      omega
   ·rw [if_neg h0]
    exact rest fun q e => by omega
  ·rw [if_neg (by simpa using hg)]
   exact (hj1 _ _).trans (hno fun c => hg c.gd)
theorem GoodTree_eq {l : List S42} {k : Nat} (h : okT l) (hk : 3 * l.length + 8 < k) : tallymanref7_GoodTree.f k (l.map t94) = some (decide (GT30 l)) :=
 Good_l0 l h l.length 0 k (by omega) (by omega) fun j hj h => absurd h (Nat.not_lt_zero j)
theorem sameL_l0 (a b : List S42) (hlen : a.length = b.length) (hl : a.length ≤ 100000) : ∀ (d i k : Nat), i + d = a.length → d < k → tallymanref7_Alike.l0 k (a.map t94) (b.map t94) (i : Int) = some (((a.drop i).zip (b.drop i)).all fun p => sameE p.1 p.2)
 | 0, i, k, hd, hk => by
  obtain ⟨k, rfl⟩ : ∃ m, k = m + 1 := ⟨k - 1, by omega⟩
  rw [tallymanref7_Alike.l0, if_neg (by rw [List.length_map]; omega), List.drop_eq_nil_of_le (by omega)]
  rfl
 | d + 1, i, k, hd, hk => by
  obtain ⟨k, rfl⟩ : ∃ m, k = m + 1 := ⟨k - 1, by omega⟩
  have hi : i < a.length := by omega
  have hi2 : i < b.length := by omega
  have hw : wrap64 ((i : Int) + 1) = ((i + 1 : Nat) : Int) := wr1 (by omega)
  rw [tallymanref7_Alike.l0, if_pos (by rw [List.length_map]; omega), if_pos (by omega), if_pos (by rw [List.length_map]; omega), rd94 hi, rd94 hi2, hw, List.drop_eq_getElem_cons hi, List.drop_eq_getElem_cons hi2, List.zip_cons_cons, List.all_cons]
  have ih := sameL_l0 a b hlen hl d (i + 1) k (by omega) (by omega)
  show (if a[i].f0.toList = b[i].f0.toList then (if (a[i].f1 != b[i].f1) = true then some false else (if (strOfNums a[i].f2).toList = (strOfNums b[i].f2).toList then _ else some false)) else some false) = _
  unfold sameE
  by_cases h1 : a[i].f0.toList = b[i].f0.toList
  ·rw [if_pos h1, beq_iff_eq.2 h1]
   by_cases h2 : a[i].f1 = b[i].f1
   ·rw [if_neg (by simp [h2]), beq_iff_eq.2 h2]
    by_cases h3 : (strOfNums a[i].f2).toList = (strOfNums b[i].f2).toList
    ·rw [if_pos h3, beq_iff_eq.2 h3]
     exact ih
    ·rw [if_neg h3, beq_eq_false_iff_ne.2 h3]
     rfl
   ·rw [if_pos (by simpa using h2), beq_eq_false_iff_ne.2 h2]
    rfl
  ·rw [if_neg h1, beq_eq_false_iff_ne.2 h1]
   rfl
theorem Alike_eq {a b : List S42} {k : Nat} (hl : a.length ≤ 100000) (hk : a.length < k) : tallymanref7_Alike.f k (a.map t94) (b.map t94) = some (sameL a b) := by
 unfold tallymanref7_Alike.f sameL
 rw [List.length_map, List.length_map]
 by_cases h : a.length = b.length
 ·have h2 := sameL_l0 a b h hl a.length 0 k (by omega) hk
  rw [List.drop_zero, List.drop_zero] at h2
  rw [if_pos (by omega), decide_eq_true h, Bool.true_and]
  exact h2
 ·rw [if_neg (by omega), decide_eq_false h, Bool.false_and]
theorem Alike_self {a : List S42} {k : Nat} (hl : a.length ≤ 100000) (hk : a.length < k) : tallymanref7_Alike.f k (a.map t94) (a.map t94) = some true := by
 rw [Alike_eq hl hk, sameL_self]
theorem room_eq {l : List S42} {p : ByteArray} {k : Nat} (h : GT30 l) (hp : p.size < 4294967280) (hg : Gd p.data.toList) (hk : l.length < k) (h5 : 5 ≤ k) : tallymanref7_room.f k (l.map t94) p = some (upE l p) := by
 have hl : l.length ≤ 100000 := by have := h.1; omega
 unfold tallymanref7_room.f upE
 rw [RUp_eq hp h5, if_pos hg, Option.bind_some]
 dsimp only
 by_cases h1 : upB p = ⟨#[]⟩
 ·rw [if_pos (toList_ne.2 h1), if_pos h1]
 ·obtain ⟨r, hr, hs⟩ := At_f (l := l) (p := upB p) hl hk
  rw [if_neg (fun e => h1 (toList_ne.1 e)), if_neg h1, hr, Option.bind_some]
  rcases hs with ⟨rfl, hs⟩ | ⟨j, hj, rfl, hjp, hjm⟩
  ·rw [if_pos (by decide), if_neg (fun ⟨x, hx, e⟩ => hs x hx e)]
  ·rw [if_neg (by omega), if_pos (by omega), if_pos (by rw [List.length_map]; omega), rd94 hj]
   by_cases h2 : l[j].f1 = true
   ·rw [if_pos h2, if_pos ⟨_, List.getElem_mem hj, hjp⟩, if_pos ⟨_, List.getElem_mem hj, hjp, h2⟩]
   ·rw [if_neg h2, if_pos ⟨_, List.getElem_mem hj, hjp⟩, if_neg]
    rintro ⟨x, hx, e1, e2⟩
    rw [srt_key h.2.2.1 hx (List.getElem_mem hj) (e1.trans hjp.symm)] at e2
    exact h2 e2
theorem with_done (l : List S42) (p : ByteArray) (F : Bool) (b : List Int) (hl : l.length ≤ 100000) (hn : ∀ x ∈ l, x.f0 ≠ p) : ∀ (d i k : Nat) (acc : List S45), i + d = l.length → 2 * d < k → acc.length ≤ i + 1 → tallymanref7_with.l0 k (l.map t94) acc true (i : Int) p F b = some (acc ++ (l.drop i).map t94)
 | 0, i, k, acc, hd, hk, ha => by
  obtain ⟨k, rfl⟩ : ∃ m, k = m + 1 := ⟨k - 1, by omega⟩
  rw [tallymanref7_with.l0, if_neg (by rw [List.length_map]; omega), if_pos rfl, List.drop_eq_nil_of_le (by omega), List.map_nil, List.append_nil]
 | d + 1, i, k, acc, hd, hk, ha => by
  obtain ⟨k, rfl⟩ : ∃ m, k = m + 2 := ⟨k - 2, by omega⟩
  have hi : i < l.length := by omega
  have hw : wrap64 ((i : Int) + 1) = ((i + 1 : Nat) : Int) := wr1 (by omega)
  rw [tallymanref7_with.l0, if_pos (by rw [List.length_map]; omega), if_pos rfl, tallymanref7_with.j1, if_neg Bool.false_ne_true, if_pos (by omega), if_pos (by rw [List.length_map]; omega), rd94 hi, hw, if_neg (fun e => hn _ (List.getElem_mem hi) (tl_eq.1 e)), if_pos (by omega),
   with_done l p F b hl hn d (i + 1) k _ (by omega) (by omega) (by rw [List.length_append, List.length_singleton]; omega), List.drop_eq_getElem_cons hi, List.map_cons, List.append_assoc, List.singleton_append]
theorem with_open (l : List S42) (p : ByteArray) (F : Bool) (b : List Int) (hl : l.length ≤ 100000) (hz : ∀ x ∈ l, x.f0.size < 4294967280) (hp : p.size < 4294967280) (hs : Srt S42.f0 l) (hn : ∀ x ∈ l, x.f0 ≠ p) : ∀ (d i k : Nat), i + d = l.length → 2 * d < k → (∀ j (hj : j < l.length), j < i → ltP l[j].f0 p) → tallymanref7_with.l0 k (l.map t94) ((l.take i).map t94) false (i : Int) p F b = some ((insT l p F b).map t94)
 | 0, i, k, hd, hk, ha => by
  obtain ⟨k, rfl⟩ : ∃ m, k = m + 1 := ⟨k - 1, by omega⟩
  have hi := lowB_uniq (p := p) hs (by omega) ha (fun j hj hij => by omega)
  have h2 := insE_new (key := S42.f0) (e := (⟨p, F, b⟩ : S42)) hi (fun hlt => hn _ (List.getElem_mem hlt))
  rw [tallymanref7_with.l0, if_neg (by rw [List.length_map]; omega), if_neg Bool.false_ne_true, if_pos (by rw [List.length_map, List.length_take]; omega), insT, ← h2, List.drop_eq_nil_of_le (by omega), List.map_append]
  rfl
 | d + 1, i, k, hd, hk, ha => by
  obtain ⟨k, rfl⟩ : ∃ m, k = m + 2 := ⟨k - 2, by omega⟩
  have hi : i < l.length := by omega
  have hw : wrap64 ((i : Int) + 1) = ((i + 1 : Nat) : Int) := wr1 (by omega)
  have hne := hn _ (List.getElem_mem hi)
  rw [tallymanref7_with.l0, if_pos (by rw [List.length_map]; omega), if_neg Bool.false_ne_true, if_pos (by omega), rd94 hi]
  show (tallymanref7_Cmp.f l[i].f0 p).bind _ = _
  rw [RCmp_eq (hz _ (List.getElem_mem hi)) hp, Option.bind_some]
  by_cases hc : cL (sp l[i].f0.data.toList) (sp p.data.toList) ≥ 0
  ·have hi2 := lowB_uniq (p := p) hs (by omega) ha (fun j hj hij hlt => by
    rcases Nat.lt_or_ge i j with h | h
    ·have h3 : ltP l[i].f0 l[j].f0 := List.pairwise_iff_getElem.1 hs i j hi hj h
     have h4 : cL (sp l[i].f0.data.toList) (sp p.data.toList) < 0 := ltP_trans h3 hlt
     omega
    ·obtain rfl : j = i := by omega
     have h4 : cL (sp l[j].f0.data.toList) (sp p.data.toList) < 0 := hlt
     omega)
   have h2 := insE_new (key := S42.f0) (e := (⟨p, F, b⟩ : S42)) hi2 (fun hlt => hn _ (List.getElem_mem hlt))
   rw [decide_eq_true hc, tallymanref7_with.j1, if_pos rfl, if_pos (by rw [List.length_map, List.length_take]; omega), Option.bind_some, if_pos (by omega), if_pos (by rw [List.length_map]; omega), rd94 hi, hw, if_neg (fun e => hne (tl_eq.1 e)), if_pos (by rw [List.length_append, List.length_map, List.length_take, List.length_singleton]; omega),
    with_done l p F b hl hn d (i + 1) k _ (by omega) (by omega) (by simp only [List.length_append, List.length_map, List.length_take, List.length_singleton]; omega), insT, ← h2, List.map_append, List.map_cons, List.drop_eq_getElem_cons hi, List.map_cons]
   simp only [List.append_assoc, List.singleton_append, List.cons_append, List.nil_append]
  ·have hlt : ltP l[i].f0 p := by show cL _ _ < 0; omega
   have ih := with_open l p F b hl hz hp hs hn d (i + 1) k (by omega) (by omega) fun j hj hji => by
    rcases Nat.lt_or_ge j i with h | h
    ·exact ha j hj h
    ·obtain rfl : j = i := by omega
     exact hlt
   rw [decide_eq_false hc, tallymanref7_with.j1, if_neg Bool.false_ne_true, if_pos (by omega), if_pos (by rw [List.length_map]; omega), rd94 hi, hw, if_neg (fun e => hne (tl_eq.1 e)), if_pos (by rw [List.length_map, List.length_take]; omega), ← ih, List.take_add_one, List.getElem?_eq_getElem hi, List.map_append]
   rfl
theorem with_f {l : List S42} {p : ByteArray} {F : Bool} {b : List Int} {k : Nat} (h : GT30 l) (hp : p.size < 4294967280) (hn : ∀ x ∈ l, x.f0 ≠ p) (hk : 2 * l.length < k) : tallymanref7_with.f k (l.map t94) p F b = some ((insT l p F b).map t94) := by
 have h1 := okP_iff.1 (GT_okT h).1
 exact with_open l p F b h1.2 h1.1 hp h.2.2.1 hn l.length 0 k (by omega) hk fun j _ hj => absurd hj (Nat.not_lt_zero j)
theorem RMake_eq {l : List S42} {p : ByteArray} {k : Nat} (h : okT l) (hp : p.size < 4294967280) (hk : 3 * l.length + 300 < k) : tallymanref7_Make.f k (l.map t94) p = some ((make0 l p).1.map t94, (make0 l p).2) := by
 have hl := (okP_iff.1 h.1).2
 unfold tallymanref7_Make.f make0
 rw [GoodTree_eq h (by omega), Option.bind_some]
 by_cases hg : GT30 l
 ·rw [if_pos (decide_eq_true hg), RGood_eq hp, Option.bind_some]
  by_cases hd : Gd p.data.toList
  ·obtain ⟨r, hr, hs⟩ := At_f (l := l) (p := p) hl (k := k) (by omega)
   rw [if_pos (decide_eq_true hd), hr, Option.bind_some]
   rcases hs with ⟨rfl, hs⟩ | ⟨j, hj, rfl, hjp, _⟩
   ·have h5 : findE l p = 5 := findE_five.2 ⟨hg, hd, hs⟩
    have h40 := hg.1
    rw [if_neg (by decide), h5, if_neg (by decide), if_pos rfl, room_eq hg hp hd (by omega) (by omega), Option.bind_some]
    unfold with1
    by_cases hu : upE l p = 0
    ·have hnd : ¬ ∃ x ∈ l, x.f0 = p ∧ x.f1 = true := fun ⟨x, hx, e, _⟩ => hs x hx e
     have hle : (insT l p true []).length = l.length + 1 ∧ nB30 (insT l p true []) = nB30 l + 0 := ins_len (e := (⟨p, true, []⟩ : S42)) hs
     have hnb : nB30 l ≤ 16384 := hg.2.1
     have hoi : okT (insT l p true []) := by
      refine ⟨okP_iff.2 ⟨fun x hx => ?_, by omega⟩, by omega⟩
      rcases (insE_mem (e := (⟨p, true, []⟩ : S42)) hg.2.2.1).1 hx with rfl | ⟨hx, _⟩
      ·exact hp
      ·exact (okP_iff.1 h.1).1 x hx
     rw [if_pos hu, if_pos hu, with_f hg hp hs (by omega), Option.bind_some, GoodTree_eq hoi (by omega), Option.bind_some]
     unfold with0
     rw [if_neg hnd]
     by_cases h41 : (insT l p true []).length > 40
     ·rw [decide_eq_false (fun hg2 => by have := hg2.1; omega), if_neg Bool.false_ne_true, if_pos (.inl h41)]
     ·have hgi := GT_ins (d := true) (b := []) hg hd (upE_zero.1 hu) (fun _ => rfl) hnd (by omega) (by simp) (by omega)
      rw [decide_eq_true hgi, if_pos rfl, if_neg]
      rintro (h6 | h6 | h6)
      ·exact h41 h6
      ·simp at h6
      ·omega
    ·rw [if_neg hu, if_neg hu]
   ·have h0 : findE l p = 0 := findE_zero.2 ⟨hg, hd, _, List.getElem_mem hj, hjp⟩
    rw [if_pos (by omega), if_pos h0]
  ·have h4 : findE l p = 4 := by unfold findE; rw [if_pos hg, if_neg hd]
   rw [if_neg (by simpa using hd), h4]
   rfl
 ·have h1 : findE l p = 1 := by unfold findE; rw [if_neg hg]
  rw [if_neg (by simpa using hg), h1]
  rfl
theorem clean_l0 (l : List S42) (hl : l.length ≤ 100000) (hz : ∀ x ∈ l, x.f0.size < 4294967280) : ∀ (d i k : Nat) (acc : List S45), i + d = l.length → d < k → acc.length ≤ i → tallymanref7_Clean.l0 k (l.map t94) acc (i : Int) = some (acc ++ ((l.drop i).filter fun x => !insB x).map t94)
 | 0, i, k, acc, hd, hk, ha => by
  obtain ⟨k, rfl⟩ : ∃ m, k = m + 1 := ⟨k - 1, by omega⟩
  rw [tallymanref7_Clean.l0, if_neg (by rw [List.length_map]; omega), List.drop_eq_nil_of_le (by omega), List.filter_nil, List.map_nil, List.append_nil]
 | d + 1, i, k, acc, hd, hk, ha => by
  obtain ⟨k, rfl⟩ : ∃ m, k = m + 1 := ⟨k - 1, by omega⟩
  have hi : i < l.length := by omega
  have hw : wrap64 ((i : Int) + 1) = ((i + 1 : Nat) : Int) := wr1 (by omega)
  rw [tallymanref7_Clean.l0, if_pos (by rw [List.length_map]; omega), if_pos (by omega), rd94 hi]
  show (tallymanref7_Inside.f l[i].f0).bind _ = _
  rw [RInside_eq (hz _ (List.getElem_mem hi)), Option.bind_some, hw, List.drop_eq_getElem_cons hi, List.filter_cons]
  by_cases hq : insideL l[i].f0.data.toList
  ·have hb : insB l[i] = true := decide_eq_true hq
   rw [if_pos (decide_eq_true hq), hb, if_neg (by decide), clean_l0 l hl hz d (i + 1) k acc (by omega) (by omega) (by omega)]
  ·have hb : insB l[i] = false := decide_eq_false hq
   rw [if_neg (by simpa using hq), if_pos (by omega), hb, if_pos (by decide), clean_l0 l hl hz d (i + 1) k _ (by omega) (by omega) (by rw [List.length_append, List.length_singleton]; omega), List.map_cons, List.append_assoc, List.singleton_append]
theorem RClean_eq {l : List S42} {k : Nat} (h : okT l) (hk : 3 * l.length + 8 < k) : tallymanref7_Clean.f k (l.map t94) = some ((clean0 l).map t94) := by
 have h1 := okP_iff.1 h.1
 unfold tallymanref7_Clean.f clean0
 rw [GoodTree_eq h hk, Option.bind_some]
 by_cases hg : GT30 l
 ·have h2 := clean_l0 l h1.2 h1.1 l.length 0 k [] (by omega) (by omega) (Nat.zero_le _)
  rw [List.drop_zero, List.nil_append] at h2
  rw [if_pos (decide_eq_true hg), if_pos hg]
  exact h2
 ·rw [if_neg (by simpa using hg), if_neg hg]
section
variable {l : List S42} {p q : ByteArray} {F : Bool} {b : List Int} {x : S42} {k : Nat}
theorem delE_skip (h : x.f0 = p) : delE S42.f0 p (x :: l) = delE S42.f0 p l := by
 unfold delE
 rw [List.filter_cons, if_neg (by simp [h])]
theorem delE_keep (h : x.f0 ≠ p) : delE S42.f0 p (x :: l) = x :: delE S42.f0 p l := by
 unfold delE
 rw [List.filter_cons, if_pos (by simp [h])]
theorem with_doneG (l : List S42) (p : ByteArray) (F : Bool) (b : List Int) (hl : l.length ≤ 100000) : ∀ (d i k : Nat) (acc : List S45), i + d = l.length → 2 * d < k → acc.length ≤ i + 1 → tallymanref7_with.l0 k (l.map t94) acc true (i : Int) p F b = some (acc ++ (delE S42.f0 p (l.drop i)).map t94)
 | 0, i, k, acc, hd, hk, ha => by
  obtain ⟨k, rfl⟩ : ∃ m, k = m + 1 := ⟨k - 1, by omega⟩
  rw [tallymanref7_with.l0, if_neg (by rw [List.length_map]; omega), if_pos rfl, List.drop_eq_nil_of_le (by omega)]
  simp [delE]
 | d + 1, i, k, acc, hd, hk, ha => by
  obtain ⟨k, rfl⟩ : ∃ m, k = m + 2 := ⟨k - 2, by omega⟩
  have hi : i < l.length := by omega
  have hw : wrap64 ((i : Int) + 1) = ((i + 1 : Nat) : Int) := wr1 (by omega)
  rw [tallymanref7_with.l0, if_pos (by rw [List.length_map]; omega), if_pos rfl, tallymanref7_with.j1, if_neg Bool.false_ne_true, if_pos (by omega), if_pos (by rw [List.length_map]; omega), rd94 hi, hw]
  by_cases hp : l[i].f0 = p
  ·rw [if_pos (tl_eq.2 hp), with_doneG l p F b hl d (i + 1) k _ (by omega) (by omega) (by omega), List.drop_eq_getElem_cons hi, delE_skip hp]
  ·rw [if_neg (fun e => hp (tl_eq.1 e)), if_pos (by omega), with_doneG l p F b hl d (i + 1) k _ (by omega) (by omega) (by rw [List.length_append, List.length_singleton]; omega), List.drop_eq_getElem_cons hi, delE_keep hp, List.map_cons, List.append_assoc, List.singleton_append]
theorem drop_ne (hs : Srt S42.f0 l) {i : Nat} (hi : i < l.length) (h : ¬ ltP l[i].f0 p) : delE S42.f0 p (l.drop (i + 1)) = l.drop (i + 1) := delE_none fun y hy e => by
 obtain ⟨j, hj, rfl⟩ := List.mem_iff_getElem.1 hy
 rw [List.getElem_drop] at e
 have hj' : i + 1 + j < l.length := by rw [List.length_drop] at hj; omega
 have h3 : ltP l[i].f0 l[i + 1 + j].f0 := List.pairwise_iff_getElem.1 hs i (i + 1 + j) hi hj' (by omega)
 rw [e] at h3
 exact h h3
theorem with_openG (l : List S42) (p : ByteArray) (F : Bool) (b : List Int) (hl : l.length ≤ 100000) (hz : ∀ x ∈ l, x.f0.size < 4294967280) (hp : p.size < 4294967280) (hs : Srt S42.f0 l) : ∀ (d i k : Nat), i + d = l.length → 2 * d < k → (∀ j (hj : j < l.length), j < i → ltP l[j].f0 p) → tallymanref7_with.l0 k (l.map t94) ((l.take i).map t94) false (i : Int) p F b = some ((insT l p F b).map t94)
 | 0, i, k, hd, hk, ha => by
  obtain ⟨k, rfl⟩ : ∃ m, k = m + 1 := ⟨k - 1, by omega⟩
  have hi := lowB_uniq (p := p) hs (by omega) ha (fun j hj hij => by omega)
  have h2 := insE_new (key := S42.f0) (e := (⟨p, F, b⟩ : S42)) hi (fun hlt => absurd hlt (by omega))
  rw [tallymanref7_with.l0, if_neg (by rw [List.length_map]; omega), if_neg Bool.false_ne_true, if_pos (by rw [List.length_map, List.length_take]; omega), insT, ← h2, List.drop_eq_nil_of_le (by omega), List.map_append]
  rfl
 | d + 1, i, k, hd, hk, ha => by
  obtain ⟨k, rfl⟩ : ∃ m, k = m + 2 := ⟨k - 2, by omega⟩
  have hi : i < l.length := by omega
  have hw : wrap64 ((i : Int) + 1) = ((i + 1 : Nat) : Int) := wr1 (by omega)
  rw [tallymanref7_with.l0, if_pos (by rw [List.length_map]; omega), if_neg Bool.false_ne_true, if_pos (by omega), rd94 hi]
  show (tallymanref7_Cmp.f l[i].f0 p).bind _ = _
  rw [RCmp_eq (hz _ (List.getElem_mem hi)) hp, Option.bind_some]
  by_cases hc : cL (sp l[i].f0.data.toList) (sp p.data.toList) ≥ 0
  ·have hnl : ¬ ltP l[i].f0 p := fun h => by
    have h4 : cL (sp l[i].f0.data.toList) (sp p.data.toList) < 0 := h
    omega
   have hi2 := lowB_uniq (p := p) hs (by omega) ha (fun j hj hij hlt => by
    rcases Nat.lt_or_ge i j with h | h
    ·have h3 : ltP l[i].f0 l[j].f0 := List.pairwise_iff_getElem.1 hs i j hi hj h
     exact hnl (ltP_trans h3 hlt)
    ·obtain rfl : j = i := by omega
     exact hnl hlt)
   rw [decide_eq_true hc, tallymanref7_with.j1, if_pos rfl, if_pos (by rw [List.length_map, List.length_take]; omega), Option.bind_some, if_pos (by omega), if_pos (by rw [List.length_map]; omega), rd94 hi, hw]
   by_cases hne : l[i].f0 = p
   ·have h2 := insE_set (key := S42.f0) (e := (⟨p, F, b⟩ : S42)) hi2 hi hne
    rw [if_pos (tl_eq.2 hne), with_doneG l p F b hl d (i + 1) k _ (by omega) (by omega) (by simp only [List.length_append, List.length_map, List.length_take, List.length_singleton]; omega), drop_ne hs hi hnl, insT, ← h2, List.set_eq_take_append_cons_drop, if_pos hi, List.map_append, List.map_cons]
    simp only [List.append_assoc, List.singleton_append, List.cons_append, List.nil_append]
   ·have h2 := insE_new (key := S42.f0) (e := (⟨p, F, b⟩ : S42)) hi2 (fun hlt => hne)
    rw [if_neg (fun e => hne (tl_eq.1 e)), if_pos (by rw [List.length_append, List.length_map, List.length_take, List.length_singleton]; omega),
     with_doneG l p F b hl d (i + 1) k _ (by omega) (by omega) (by simp only [List.length_append, List.length_map, List.length_take, List.length_singleton]; omega), drop_ne hs hi hnl, insT, ← h2, List.map_append, List.map_cons, List.drop_eq_getElem_cons hi, List.map_cons]
    simp only [List.append_assoc, List.singleton_append, List.cons_append, List.nil_append]
  ·have hlt : ltP l[i].f0 p := by show cL _ _ < 0; omega
   have hne : l[i].f0 ≠ p := ltP_ne hlt
   have ih := with_openG l p F b hl hz hp hs d (i + 1) k (by omega) (by omega) fun j hj hji => by
    rcases Nat.lt_or_ge j i with h | h
    ·exact ha j hj h
    ·obtain rfl : j = i := by omega
     exact hlt
   rw [decide_eq_false hc, tallymanref7_with.j1, if_neg Bool.false_ne_true, if_pos (by omega), if_pos (by rw [List.length_map]; omega), rd94 hi, hw, if_neg (fun e => hne (tl_eq.1 e)), if_pos (by rw [List.length_map, List.length_take]; omega), ← ih, List.take_add_one, List.getElem?_eq_getElem hi, List.map_append]
   rfl
theorem with_fG (h : GT30 l) (hp : p.size < 4294967280) (hk : 2 * l.length < k) : tallymanref7_with.f k (l.map t94) p F b = some ((insT l p F b).map t94) := by
 have h1 := okP_iff.1 (GT_okT h).1
 exact with_openG l p F b h1.2 h1.1 hp h.2.2.1 l.length 0 k (by omega) hk fun j _ hj => absurd hj (Nat.not_lt_zero j)
theorem okT_ins (hg : GT30 l) (hp : p.size < 4294967280) (hb : b.length ≤ 100000) : okT (insT l p F b) := by
 have h1 := insT_len p F b l
 have h2 := insT_nB p F b l
 have h3 := hg.1
 have h4 : nB30 l ≤ 16384 := hg.2.1
 refine ⟨okP_iff.2 ⟨fun x hx => ?_, by omega⟩, by omega⟩
 rcases (insE_mem (e := (⟨p, F, b⟩ : S42)) hg.2.2.1).1 hx with rfl | ⟨hx, _⟩
 ·exact hp
 ·exact (okP_iff.1 (GT_okT hg).1).1 x hx
theorem RPut_eq (h : okT l) (hp : p.size < 4294967280) (hb : b.length ≤ 100000) (hk : 3 * l.length + 300 < k) : tallymanref7_Put.f k (l.map t94) p b = some ((put0 l p b).1.map t94, (put0 l p b).2) := by
 have hl := (okP_iff.1 h.1).2
 unfold tallymanref7_Put.f put0
 rw [GoodTree_eq h (by omega), Option.bind_some]
 by_cases hg : GT30 l
 ·rw [if_pos (decide_eq_true hg), if_pos hg, RGood_eq hp, Option.bind_some]
  by_cases hd : Gd p.data.toList
  ·have h40 := hg.1
   rw [if_pos (decide_eq_true hd), if_pos hd, room_eq hg hp hd (by omega) (by omega), Option.bind_some]
   unfold with1
   by_cases hu : upE l p = 0
   ·rw [if_pos hu, if_pos hu]
    obtain ⟨r, hr, hs⟩ := At_f (l := l) (p := p) hl (k := k) (by omega)
    rw [hr, Option.bind_some]
    have key : ∀ F : Bool, (F = true ↔ ∃ x ∈ l, x.f0 = p ∧ x.f1 = true) → tallymanref7_Put.j0 k (l.map t94) p b F = some ((with0 l p false b).1.map t94, (with0 l p false b).2) := fun F hF => by
     obtain ⟨k, rfl⟩ : ∃ m, k = m + 1 := ⟨k - 1, by omega⟩
     rw [tallymanref7_Put.j0]
     unfold with0
     by_cases hx : ∃ x ∈ l, x.f0 = p ∧ x.f1 = true
     ·rw [if_pos (hF.2 hx), if_pos hx]
     ·have hins := insT_len p false b l
      rw [if_neg (fun h => hx (hF.1 h)), if_neg hx, Option.bind_some, if_pos (by rw [List.length_nil]; omega), List.nil_append, with_fG hg hp (by omega), Option.bind_some, GoodTree_eq (okT_ins hg hp hb) (by omega), Option.bind_some]
      by_cases h9 : (insT l p false b).length > 40 ∨ b.length > 2048 ∨ nB30 (insT l p false b) > 16384
      ·rw [decide_eq_false (fun hg2 => ?_), if_neg Bool.false_ne_true, if_pos h9]
       have a1 := hg2.1
       have a2 : nB30 (insT l p false b) ≤ 16384 := hg2.2.1
       have a3 := (hg2.2.2.2 ⟨p, false, b⟩ ((insE_mem hg.2.2.1).2 (.inl rfl))).2.2.1
       rcases h9 with h9 | h9 | h9
       ·omega
       ·exact absurd a3 (by show ¬ b.length ≤ 2048; omega)
       ·omega
      ·rw [decide_eq_true (GT_ins (d := false) (b := b) hg hd (upE_zero.1 hu) (fun h => by cases h) hx (by omega) (by omega) (by omega)), if_pos rfl, if_neg h9]
    rcases hs with ⟨rfl, hs⟩ | ⟨j, hj, rfl, hjp, _⟩
    ·rw [if_neg (by decide)]
     exact key false ⟨(fun h => by cases h), fun ⟨x, hx, e, _⟩ => absurd e (hs x hx)⟩
    ·rw [if_pos (by omega), if_pos (by omega), if_pos (by rw [List.length_map]; omega), rd94 hj]
     exact key _ ⟨fun h => ⟨_, List.getElem_mem hj, hjp, h⟩, fun ⟨x, hx, e1, e2⟩ => by
      show l[j].f1 = true
      rw [← srt_key hg.2.2.1 hx (List.getElem_mem hj) (e1.trans hjp.symm)]
      exact e2⟩
   ·rw [if_neg hu, if_neg hu]
  ·rw [if_neg (by simpa using hd), if_neg hd]
 ·rw [if_neg (by simpa using hg), if_neg hg]
theorem FindT_at (hg : GT30 l) (hx : x ∈ l) : tree_Find.f l x.f0 = some (x.f0, x.f1, x.f2, 0) := by
 have h := GT_okT hg
 have hd := (hg.2.2.2 x hx).1
 have hp : x.f0.size < 4294967280 := (okP_iff.1 h.1).1 x hx
 have hex : ∃ y ∈ l, y.f0 = x.f0 := ⟨x, hx, rfl⟩
 unfold tree_Find.f
 rw [tree_Good.eq h, Option.bind_some, if_pos (decide_eq_true hg), Good_eq (by omega), Option.bind_some, if_pos (decide_eq_true hd), tree_find.eq h hp hg.2.2.1, Option.bind_some]
 obtain ⟨hlt, he⟩ := (lowB_at hg.2.2.1).2 hex
 have hm := nB_mem (List.getElem_mem hlt)
 have hn := h.2
 have hxe : l[lowB S42.f0 x.f0 l] = x := srt_key hg.2.2.1 (List.getElem_mem hlt) hx he
 dsimp only
 rw [if_pos (decide_eq_true hex), if_pos (Int.natCast_nonneg _), if_pos (by omega), rdT hlt, own_eq (by omega), Option.bind_some, hxe]
theorem RFind_eq (hg : GT30 l) (hp : p.size < 4294967280) (hk : 3 * l.length + 300 < k) : ∃ r1 r2 r3, tallymanref7_Find.f k (l.map t94) p = some (r1, r2, r3, findE l p) ∧ tree_Find.f l p = some (r1, r2, r3, findE l p) := by
 have h := GT_okT hg
 have hl := (okP_iff.1 h.1).2
 unfold tallymanref7_Find.f
 rw [GoodTree_eq h (by omega), Option.bind_some, if_pos (decide_eq_true hg), RGood_eq hp, Option.bind_some]
 by_cases hd : Gd p.data.toList
 ·obtain ⟨r, hr, hs⟩ := At_f (l := l) (p := p) hl (k := k) (by omega)
  rw [if_pos (decide_eq_true hd), hr, Option.bind_some]
  rcases hs with ⟨rfl, hs⟩ | ⟨j, hj, rfl, hjp, _⟩
  ·refine ⟨⟨#[]⟩, false, [], ?_, ?_⟩
   ·rw [if_pos (by decide), findE_five.2 ⟨hg, hd, hs⟩]
   ·have hx : ¬ ∃ x ∈ l, x.f0 = p := fun ⟨x, hx, e⟩ => hs x hx e
    unfold tree_Find.f
    rw [tree_Good.eq h, Option.bind_some, if_pos (decide_eq_true hg), Good_eq (by omega), Option.bind_some, if_pos (decide_eq_true hd), tree_find.eq h hp hg.2.2.1, Option.bind_some, findE_five.2 ⟨hg, hd, hs⟩]
    dsimp only
    rw [if_neg (by simpa using hx)]
  ·have h0 : findE l p = 0 := findE_zero.2 ⟨hg, hd, _, List.getElem_mem hj, hjp⟩
   refine ⟨l[j].f0, l[j].f1, l[j].f2, ?_, ?_⟩
   ·rw [if_neg (by omega), Option.bind_some, if_pos (by omega), if_pos (by rw [List.length_map]; omega), rd94 hj, h0]
   ·have := FindT_at hg (List.getElem_mem hj)
    rw [hjp] at this
    rw [this, h0, hjp]
 ·have h4 : findE l p = 4 := by unfold findE; rw [if_pos hg, if_neg hd]
  refine ⟨⟨#[]⟩, false, [], ?_, ?_⟩
  ·rw [if_neg (by simpa using hd), h4]
  ·unfold tree_Find.f
   rw [tree_Good.eq h, Option.bind_some, if_pos (decide_eq_true hg), Good_eq (by omega), Option.bind_some, if_neg (by simpa using hd), h4]
theorem without_l0 (l : List S42) (p : ByteArray) (hl : l.length ≤ 100000) : ∀ (d i k : Nat) (acc : List S45), i + d = l.length → d < k → acc.length ≤ i → tallymanref7_without.l0 k (l.map t94) p acc (i : Int) = some (acc ++ (delE S42.f0 p (l.drop i)).map t94)
 | 0, i, k, acc, hd, hk, ha => by
  obtain ⟨k, rfl⟩ : ∃ m, k = m + 1 := ⟨k - 1, by omega⟩
  rw [tallymanref7_without.l0, if_neg (by rw [List.length_map]; omega), List.drop_eq_nil_of_le (by omega)]
  simp [delE]
 | d + 1, i, k, acc, hd, hk, ha => by
  obtain ⟨k, rfl⟩ : ∃ m, k = m + 1 := ⟨k - 1, by omega⟩
  have hi : i < l.length := by omega
  have hw : wrap64 ((i : Int) + 1) = ((i + 1 : Nat) : Int) := wr1 (by omega)
  rw [tallymanref7_without.l0, if_pos (by rw [List.length_map]; omega), if_pos (by omega), rd94 hi, hw]
  by_cases hp : l[i].f0 = p
  ·rw [if_pos (tl_eq.2 hp), without_l0 l p hl d (i + 1) k _ (by omega) (by omega) (by omega), List.drop_eq_getElem_cons hi, delE_skip hp]
  ·rw [if_neg (fun e => hp (tl_eq.1 e)), if_pos (by omega), without_l0 l p hl d (i + 1) k _ (by omega) (by omega) (by rw [List.length_append, List.length_singleton]; omega), List.drop_eq_getElem_cons hi, delE_keep hp, List.map_cons, List.append_assoc, List.singleton_append]
theorem without_f (hl : l.length ≤ 100000) (hk : l.length < k) : tallymanref7_without.f k (l.map t94) p = some ((delE S42.f0 p l).map t94) := by
 have h := without_l0 l p hl l.length 0 k [] (by omega) hk (Nat.zero_le _)
 rw [List.drop_zero, List.nil_append] at h
 exact h
def UnP (x p : ByteArray) : Prop := Gd x.data.toList ∧ Gd p.data.toList ∧ (p.data.toList ++ [47]) <+: x.data.toList
instance (x p : ByteArray) : Decidable (UnP x p) := inferInstanceAs (Decidable (_ ∧ _ ∧ _))
theorem under_up {x p u y : List UInt8} (h : (p ++ [47]) <+: x) (e : x = u ++ 47 :: y) (hy : 47 ∉ y) : u = p ∨ (p ++ [47]) <+: u := by
 have hu : u <+: x := ⟨47 :: y, e.symm⟩
 rcases Nat.lt_or_ge p.length u.length with h1 | h1
 ·exact .inr (List.prefix_of_prefix_length_le h hu (by rw [List.length_append, List.length_singleton]; omega))
 ·have hp : p <+: x := List.IsPrefix.trans ⟨[47], rfl⟩ h
  rcases Nat.lt_or_ge u.length p.length with h2 | h2
  ·exfalso
   obtain ⟨r, hr⟩ := h
   have h3 : x[p.length]? = some 47 := by
    rw [← hr, List.append_assoc, List.getElem?_append_right (Nat.le_refl _), Nat.sub_self]
    rfl
   rw [e, List.getElem?_append_right (by omega), show p.length - u.length = (p.length - u.length - 1) + 1 by omega, List.getElem?_cons_succ] at h3
   exact hy (List.mem_of_getElem? h3)
  ·exact .inl (List.IsPrefix.eq_of_length (List.prefix_of_prefix_length_le hu hp (by omega)) (by omega))
theorem kid_of_under (hg : GT30 l) : ∀ (n : Nat) (x : S42), x ∈ l → x.f0.data.toList.length ≤ n → UnP x.f0 p → ∃ y ∈ l, upB y.f0 = p
 | 0, x, hx, hn, h => by
  obtain ⟨r, hr⟩ := h.2.2
  rw [← hr] at hn
  simp at hn
 | n + 1, x, hx, hn, h => by
  rcases up_cases h.1 with ⟨_, h47, _⟩ | ⟨y, hy, _, e, _, _, hgu⟩
  ·exfalso
   obtain ⟨r, hr⟩ := h.2.2
   exact h47 (by rw [← hr]; simp)
  ·rcases under_up h.2.2 e hy with h1 | h1
   ·exact ⟨x, hx, bext' (by rw [upB_data]; exact h1)⟩
   ·rcases (hg.2.2.2 x hx).2.2.2 with h2 | ⟨d, hd, e1, _⟩
    ·exfalso
     rw [h2] at h1
     obtain ⟨r, hr⟩ := h1
     simp at hr
    ·have e2 : d.f0.data.toList = upL x.f0.data.toList := by rw [show d.f0 = upB x.f0 from e1, upB_data]
     refine kid_of_under hg n d hd ?_ ⟨by rw [e2]; exact hgu, h.2.1, by rw [e2]; exact h1⟩
     have := congrArg List.length e
     rw [List.length_append, List.length_cons] at this
     rw [e2]
     omega
theorem under_iff (hg : GT30 l) (hp : Gd p.data.toList) : (∃ x ∈ l, UnP x.f0 p) ↔ ∃ y ∈ l, upB y.f0 = p := by
 constructor
 ·rintro ⟨x, hx, h⟩
  exact kid_of_under hg _ x hx (Nat.le_refl _) h
 ·rintro ⟨y, hy, e⟩
  have hgy := (hg.2.2.2 y hy).1
  have hpn : p.data.toList ≠ [] := fun h => by
   rcases up_cases hp with ⟨_, _, h2⟩ | ⟨_, _, _, h2, _, _, _⟩
   ·exact h2 h
   ·rw [h] at h2
    simp at h2
  rcases up_cases hgy with ⟨h1, _, _⟩ | ⟨z, _, _, e1, _, _, _⟩
  ·exact absurd (by rw [← e, upB_data]; exact h1) hpn
  ·refine ⟨y, hy, hgy, hp, z, ?_⟩
   rw [← e, upB_data, List.append_assoc, List.singleton_append]
   exact e1.symm
theorem Remove_l0 (l : List S42) (p : ByteArray) (hl : l.length ≤ 100000) (hz : ∀ x ∈ l, x.f0.size < 4294967280) (hp : p.size < 4294967280) : ∀ (d i k : Nat), i + d = l.length → d + l.length + 1 < k → (∀ j (hj : j < l.length), j < i → ¬ UnP l[j].f0 p) → tallymanref7_Remove.l0 k (l.map t94) p (i : Int) = some (if ∃ x ∈ l, UnP x.f0 p then (l.map t94, 8) else ((delE S42.f0 p l).map t94, 0))
 | 0, i, k, hd, hk, ha => by
  obtain ⟨k, rfl⟩ : ∃ m, k = m + 1 := ⟨k - 1, by omega⟩
  rw [tallymanref7_Remove.l0, if_neg (by rw [List.length_map]; omega), without_f hl (by omega), Option.bind_some, if_neg]
  rintro ⟨x, hx, h⟩
  obtain ⟨j, hj, rfl⟩ := List.mem_iff_getElem.1 hx
  exact ha j hj (by omega) h
 | d + 1, i, k, hd, hk, ha => by
  obtain ⟨k, rfl⟩ : ∃ m, k = m + 1 := ⟨k - 1, by omega⟩
  have hi : i < l.length := by omega
  have hw : wrap64 ((i : Int) + 1) = ((i + 1 : Nat) : Int) := wr1 (by omega)
  rw [tallymanref7_Remove.l0, if_pos (by rw [List.length_map]; omega), if_pos (by omega), rd94 hi, hw]
  show (tallymanref7_Under.f l[i].f0 p).bind _ = _
  rw [RUnder_eq (hz _ (List.getElem_mem hi)) hp, Option.bind_some]
  show (if decide (UnP l[i].f0 p) = true then _ else _) = _
  by_cases hu : UnP l[i].f0 p
  ·rw [if_pos (decide_eq_true hu), if_pos ⟨_, List.getElem_mem hi, hu⟩]
  ·rw [if_neg (by rw [decide_eq_false hu]; exact Bool.false_ne_true)]
   exact Remove_l0 l p hl hz hp d (i + 1) k (by omega) (by omega) fun j hj hji => by
    rcases Nat.lt_or_ge j i with h | h
    ·exact ha j hj h
    ·obtain rfl : j = i := by omega
     exact hu
theorem RRemove_eq (hg : GT30 l) (hp : p.size < 4294967280) (hk : 3 * l.length + 300 < k) : tallymanref7_Remove.f k (l.map t94) p = some ((rem0 l p).1.map t94, (rem0 l p).2) := by
 have h1 := okP_iff.1 (GT_okT hg).1
 obtain ⟨r1, r2, r3, hf, _⟩ := RFind_eq (k := k) hg hp hk
 unfold tallymanref7_Remove.f rem0
 rw [hf, Option.bind_some]
 by_cases h0 : findE l p = 0
 ·have hd := (findE_zero.1 h0).2.1
  have hkid : (kidsL l p).length > 0 ↔ ∃ x ∈ l, UnP x.f0 p := by
   rw [under_iff hg hd]
   unfold kidsL
   rw [if_pos hg, List.length_map, gt_iff_lt, List.length_pos_iff_exists_mem]
   constructor
   ·rintro ⟨y, hy⟩
    obtain ⟨a, b⟩ := List.mem_filter.1 hy
    exact ⟨y, a, by simpa using b⟩
   ·rintro ⟨y, hy, e⟩
    exact ⟨y, List.mem_filter.2 ⟨hy, by simpa using e⟩⟩
  have hr := Remove_l0 l p h1.2 h1.1 hp l.length 0 k (by omega) (by omega) fun j _ hj => absurd hj (Nat.not_lt_zero j)
  rw [show ((0 : Nat) : Int) = 0 from rfl] at hr
  rw [if_pos h0, if_pos h0, hr]
  by_cases hx : ∃ x ∈ l, UnP x.f0 p
  ·rw [if_pos hx, if_pos (hkid.2 hx)]
  ·rw [if_neg hx, if_neg (fun h => hx (hkid.1 h))]
 ·rw [if_neg h0, if_neg h0]
theorem RMove_eq (hg : GT30 l) (hp : p.size < 4294967280) (hq : q.size < 4294967280) (hk : 3 * l.length + 301 < k) : tallymanref7_Move.f k (l.map t94) p q = some ((move0 l p q).1.map t94, (move0 l p q).2) := by
 have h := GT_okT hg
 have h1 := okP_iff.1 h.1
 have h40 := hg.1
 obtain ⟨k, rfl⟩ : ∃ m, k = m + 1 := ⟨k - 1, by omega⟩
 obtain ⟨r1, r2, r3, hf, hf2⟩ := RFind_eq (k := k) hg hp (by omega)
 unfold tallymanref7_Move.f move0
 rw [GoodTree_eq h (by omega), Option.bind_some, if_pos (decide_eq_true hg), RGood_eq hp, Option.bind_some, if_pos hg]
 by_cases gp : Gd p.data.toList
 ·rw [if_pos (decide_eq_true gp), RGood_eq hq, Option.bind_some]
  by_cases gq : Gd q.data.toList
  ·rw [if_pos ⟨gp, gq⟩, decide_eq_true gq, Bool.not_true, tallymanref7_Move.j0, if_neg Bool.false_ne_true, hf, Option.bind_some]
   by_cases hx : ∃ x ∈ l, x.f0 = p
   ·have h0 : findE l p = 0 := findE_zero.2 ⟨hg, gp, hx⟩
    rw [if_pos h0, if_pos hx]
    obtain ⟨x, hxm, hxp⟩ := hx
    have hfx := FindT_at hg hxm
    rw [hxp, hf2] at hfx
    simp only [Option.some.injEq, Prod.mk.injEq] at hfx
    obtain ⟨_, rfl, rfl, _⟩ := hfx
    dsimp only
    by_cases hd : x.f1 = true
    ·rw [if_pos hd, if_pos ⟨x, hxm, hxp, hd⟩]
    ·have hnd : ¬ ∃ y ∈ l, y.f0 = p ∧ y.f1 = true := fun ⟨y, hy, e1, e2⟩ => hd (by rw [← srt_key hg.2.2.1 hy hxm (e1.trans hxp.symm)]; exact e2)
     rw [if_neg hd, if_neg hnd]
     by_cases hpq : p = q
     ·rw [if_pos (tl_eq.2 hpq), if_pos hpq]
     ·have hgd := GT_del hg hnd
      have hb : x.f2.length ≤ 2048 := (hg.2.2.2 x hxm).2.2.1
      have hby : bytesAt l p = x.f2 := by rw [← hxp]; exact bytesAt_eq hg.2.2.1 hxm
      have hle : (delE S42.f0 p l).length ≤ l.length := List.length_filter_le _ _
      have hp0 : put0 (delE S42.f0 p l) q x.f2 = with1 (delE S42.f0 p l) q false x.f2 := by unfold put0; rw [if_pos hgd, if_pos gq]
      rw [if_neg (fun e => hpq (tl_eq.1 e)), if_neg hpq, without_f h1.2 (by omega), Option.bind_some, RPut_eq (GT_okT hgd) hq (by omega) (by omega), Option.bind_some, hp0, hby]
      dsimp only
      by_cases hw : (with1 (delE S42.f0 p l) q false x.f2).2 = 0
      ·rw [if_pos hw, if_pos hw]
      ·rw [if_neg hw, if_neg hw]
   ·have h5 : findE l p = 5 := findE_five.2 ⟨hg, gp, fun x hxm e => hx ⟨x, hxm, e⟩⟩
    rw [h5]
    dsimp only
    rw [if_neg (by decide), if_neg hx]
  ·rw [if_neg (fun h => gq h.2), decide_eq_false gq, Bool.not_false, tallymanref7_Move.j0, if_pos rfl]
 ·rw [if_neg (by simpa using gp), if_neg (fun h => gp h.1), tallymanref7_Move.j0, if_pos rfl]
theorem Kids_l0 (l : List S42) (p : ByteArray) (hg : GT30 l) (hz : ∀ x ∈ l, x.f0.size < 4294967280) : ∀ (d i k : Nat) (acc : List ByteArray), i + d = l.length → 2 * d + 3 * l.length + 20 < k → acc.length ≤ i → tallymanref7_Kids.l0 k (l.map t94) p acc (i : Int) = some (acc ++ ((l.drop i).filter fun x => decide (upB x.f0 = p)).map S42.f0)
 | 0, i, k, acc, hd, hk, ha => by
  obtain ⟨k, rfl⟩ : ∃ m, k = m + 2 := ⟨k - 2, by omega⟩
  rw [tallymanref7_Kids.l0, if_neg (by rw [List.length_map]; omega), tallymanref7_Kids.j1, if_neg Bool.false_ne_true, List.drop_eq_nil_of_le (by omega), List.filter_nil, List.map_nil, List.append_nil]
 | d + 1, i, k, acc, hd, hk, ha => by
  obtain ⟨k, rfl⟩ : ∃ m, k = m + 2 := ⟨k - 2, by omega⟩
  have hi : i < l.length := by omega
  have h40 := hg.1
  have hw : wrap64 ((i : Int) + 1) = ((i + 1 : Nat) : Int) := wr1 (by omega)
  have hgx := (hg.2.2.2 _ (List.getElem_mem hi)).1
  rw [tallymanref7_Kids.l0, if_pos (by rw [List.length_map]; omega), GoodTree_eq (GT_okT hg) (by omega), Option.bind_some, decide_eq_true hg, tallymanref7_Kids.j1, if_pos rfl, if_pos (by omega), if_pos (by rw [List.length_map]; omega), rd94 hi, hw]
  show (tallymanref7_Up.f k l[i].f0).bind _ = _
  rw [RUp_eq (hz _ (List.getElem_mem hi)) (by omega), if_pos hgx, Option.bind_some, List.drop_eq_getElem_cons hi, List.filter_cons]
  dsimp only
  by_cases hu : upB l[i].f0 = p
  ·rw [if_pos (tl_eq.2 hu), if_pos (by omega), if_pos (decide_eq_true hu), Kids_l0 l p hg hz d (i + 1) k _ (by omega) (by omega) (by rw [List.length_append, List.length_singleton]; omega), List.map_cons, List.append_assoc, List.singleton_append]
  ·rw [if_neg (fun e => hu (tl_eq.1 e)), if_neg (by simpa using hu), Kids_l0 l p hg hz d (i + 1) k _ (by omega) (by omega) (by omega)]
theorem RKids_eq (hg : GT30 l) (hk : 5 * l.length + 30 < k) : tallymanref7_Kids.f k (l.map t94) p = some (kidsL l p) := by
 have h := Kids_l0 l p hg (okP_iff.1 (GT_okT hg).1).1 l.length 0 k [] (by omega) (by omega) (Nat.zero_le _)
 rw [List.drop_zero, List.nil_append] at h
 unfold kidsL
 rw [if_pos hg]
 exact h
theorem putG (h : GT30 l) : GT30 (put0 l p b).1 := by
 unfold put0
 rw [if_pos h]
 split
 ·rename_i hd
  rcases with1_cases (d := false) (b := b) h hd (fun h => by cases h) with ⟨h1, _⟩ | ⟨h1, h2, _⟩
  ·rw [h1]; exact h
  ·rw [h1]; exact h2
 ·exact h
theorem makeG (h : GT30 l) : GT30 (make0 l p).1 := by
 unfold make0
 by_cases h0 : findE l p = 0
 ·rw [if_pos h0]; exact h
 ·rw [if_neg h0]
  by_cases h5 : findE l p = 5
  ·rw [if_pos h5]
   rcases with1_cases (d := true) (b := []) h (findE_five.1 h5).2.1 (fun _ => rfl) with ⟨h1, _⟩ | ⟨h1, h2, _⟩
   ·rw [h1]; exact h
   ·rw [h1]; exact h2
  ·rw [if_neg h5]; exact h
theorem remG (h : GT30 l) : GT30 (rem0 l p).1 := by
 unfold rem0
 by_cases h0 : findE l p = 0
 ·rw [if_pos h0]
  by_cases hk : (kidsL l p).length > 0
  ·rw [if_pos hk]; exact h
  ·rw [if_neg hk]
   have hkn : kidsL l p = [] := List.eq_nil_of_length_eq_zero (by omega)
   unfold kidsL at hkn
   rw [if_pos h, List.map_eq_nil_iff, List.filter_eq_nil_iff] at hkn
   refine ⟨Nat.le_trans (List.length_filter_le _ _) h.1, Nat.le_trans (nB_filter _ _) h.2.1, delE_srt h.2.2.1, fun x hx => ?_⟩
   obtain ⟨hx, hxp⟩ := delE_mem.1 hx
   obtain ⟨a1, a2, a3, a4⟩ := h.2.2.2 x hx
   refine ⟨a1, a2, a3, a4.imp id ?_⟩
   rintro ⟨d, hd, e1, e2⟩
   exact ⟨d, delE_mem.2 ⟨hd, fun e => hkn x hx (decide_eq_true (e1.symm.trans e))⟩, e1, e2⟩
 ·rw [if_neg h0]; exact h
end
theorem texts_l0 (l : List ByteArray) (hl : l.length ≤ 100000) : ∀ (d i k : Nat), i + d = l.length → d < k → tallymanlaw8_texts.l0 k l l (i : Int) = some true
 | 0, i, k, hd, hk => by
  obtain ⟨k, rfl⟩ : ∃ m, k = m + 1 := ⟨k - 1, by omega⟩
  rw [tallymanlaw8_texts.l0, if_neg (by omega)]
 | d + 1, i, k, hd, hk => by
  obtain ⟨k, rfl⟩ : ∃ m, k = m + 1 := ⟨k - 1, by omega⟩
  have hw : wrap64 ((i : Int) + 1) = ((i + 1 : Nat) : Int) := wr1 (by omega)
  rw [tallymanlaw8_texts.l0, if_pos (by omega), if_pos (by omega), if_pos (by omega), if_pos rfl, hw]
  exact texts_l0 l hl d (i + 1) k (by omega) (by omega)
theorem texts_self {l : List ByteArray} {k : Nat} (hl : l.length ≤ 100000) (hk : l.length < k) : tallymanlaw8_texts.f k l l = some true := by
 unfold tallymanlaw8_texts.f
 rw [if_pos rfl]
 exact texts_l0 l hl l.length 0 k (by omega) hk
theorem kidsL_len (l : List S42) (p : ByteArray) : (kidsL l p).length ≤ l.length := by
 unfold kidsL
 split
 ·rw [List.length_map]
  exact List.length_filter_le _ _
 ·exact Nat.zero_le _
theorem Plays_j3 {x0 : List S31} {p : ByteArray} {t : List S42} {i e : Int} {k : Nat} (hg : GT30 t) (hp : p.size < 4294967280) (hk : 600 < k) (hr : tallymanlaw8_TreePlays.l0 k x0 p (t.map t94) (wrap64 (i + 1)) t = some true) : tallymanlaw8_TreePlays.j3 (k + 1) x0 p (t.map t94) i e e t = some true := by
 have h := GT_okT hg
 have h40 := hg.1
 have hkl := kidsL_len t p
 obtain ⟨r1, r2, r3, hf1, hf2⟩ := RFind_eq (k := k) hg hp (by omega)
 rw [tallymanlaw8_TreePlays.j3, hf2, Option.bind_some, hf1, Option.bind_some, if_pos rfl, own_f (by omega) (by omega), Option.bind_some, Alike_self (by omega) (by omega), Option.bind_some, if_pos rfl, tree_Good.eq h, Option.bind_some, if_pos (decide_eq_true hg), if_pos rfl, if_pos rfl, if_neg (by simp), if_pos rfl,
  tree_Kids.eq h (by omega), Option.bind_some, RKids_eq hg (by omega), Option.bind_some, texts_self (by omega) (by omega), Option.bind_some, if_pos rfl, tree_Bytes.eq h (by omega), Option.bind_some, Bytes_f h (by omega), Option.bind_some, if_pos hg, if_pos rfl]
 exact hr
theorem clean0_len (l : List S42) : (clean0 l).length ≤ l.length := by
 unfold clean0
 split
 ·exact List.length_filter_le _ _
 ·exact Nat.le_refl _
theorem Plays_l0 (l : List S31) (p : ByteArray) (hl : l.length ≤ 60) (hp : p.size ≤ 100) : ∀ (d i k : Nat) (t : List S42), i + d = l.length → 3 * d + 1000 < k → GT30 t → tallymanlaw8_TreePlays.l0 k l p (t.map t94) (i : Int) t = some true
 | 0, i, k, t, hd, hk, hg => by
  obtain ⟨k, rfl⟩ : ∃ m, k = m + 1 := ⟨k - 1, by omega⟩
  have h := GT_okT hg
  have h40 := hg.1
  have hc := clean0_len t
  have hcl : tree_Clean.f t = some (clean0 t) := by unfold tree_Clean.f; rw [if_pos h]
  rw [tallymanlaw8_TreePlays.l0, if_neg (by omega), hcl, Option.bind_some, own_f (by omega) (by omega), Option.bind_some, RClean_eq h (by omega), Option.bind_some, Alike_self (by omega) (by omega), Option.bind_some, if_pos rfl, tree_Same.self h hg, Option.bind_some]
 | d + 1, i, k, t, hd, hk, hg => by
  obtain ⟨k, rfl⟩ : ∃ m, k = m + 3 := ⟨k - 3, by omega⟩
  have h := GT_okT hg
  have h40 := hg.1
  have hi : i < l.length := by omega
  have hw : wrap64 ((i : Int) + 1) = ((i + 1 : Nat) : Int) := wr1 (by omega)
  have ih := fun t' (hg' : GT30 t') => Plays_l0 l p hl hp d (i + 1) k t' (by omega) (by omega) hg'
  have j3 : ∀ (t' : List S42) (e : Int), GT30 t' → tallymanlaw8_TreePlays.j3 (k + 1) l p (t'.map t94) (i : Int) e e t' = some true := fun t' e hg' => Plays_j3 hg' (by omega) (by omega) (by rw [hw]; exact ih t' hg')
  have j2 : ∀ (F : Bool) (op : Int) (a b : ByteArray) (c : List Int), (F = false → a.size ≤ 100 ∧ b.size ≤ 100 ∧ c.length ≤ 2100) → tallymanlaw8_TreePlays.j2 (k + 2) l p (t.map t94) (i : Int) F t op a b c = some true := fun F op a b c hF => by
   rw [tallymanlaw8_TreePlays.j2]
   by_cases h1 : F = true
   ·rw [if_pos h1]
   ·obtain ⟨ha, hb, hc⟩ := hF (by simpa using h1)
    rw [if_neg h1]
    by_cases o0 : op = 0
    ·rw [if_pos o0, tree_Put.eq h (by omega) (by omega), Option.bind_some, RPut_eq h (by omega) (by omega) (by omega), Option.bind_some]
     exact j3 _ _ (putG hg)
    ·rw [if_neg o0]
     by_cases o1 : op = 1
     ·rw [if_pos o1, tree_Make.eq h (by omega), Option.bind_some, RMake_eq h (by omega) (by omega), Option.bind_some]
      exact j3 _ _ (makeG hg)
     ·rw [if_neg o1]
      by_cases o2 : op = 2
      ·rw [if_pos o2, tree_Remove.eq h (by omega), Option.bind_some, RRemove_eq hg (by omega) (by omega), Option.bind_some]
       exact j3 _ _ (remG hg)
      ·have hm : tree_Move.f t a b = some (move0 t a b) := by unfold tree_Move.f; rw [if_pos ⟨h, by omega, by omega⟩]
       rw [if_neg o2, hm, Option.bind_some, RMove_eq hg (by omega) (by omega) (by omega), Option.bind_some]
       exact j3 _ _ (move0_GT hg)
  rw [tallymanlaw8_TreePlays.l0, if_pos (by omega), if_pos (by omega)]
  split
  ·exact j2 true _ _ _ _ fun h => by cases h
  ·rename_i h1
   split
   ·exact j2 true _ _ _ _ fun h => by cases h
   ·rename_i h2
    refine j2 _ _ _ _ _ fun h => ⟨by omega, by omega, ?_⟩
    have h3 := of_decide_eq_false h
    omega
theorem TreePlays_pure (l : List S31) (p : ByteArray) : ∃ k, tallymanlaw8_TreePlays.f k l p = some true := by
 refine ⟨2000, ?_⟩
 have haw : tallymanlaw8_awake.f = some true := rfl
 unfold tallymanlaw8_TreePlays.f
 rw [haw, Option.bind_some, if_pos rfl]
 by_cases hl : (l.length : Int) > 60
 ·rw [if_pos hl, tallymanlaw8_TreePlays.j0, if_pos rfl]
 ·rw [if_neg hl, tallymanlaw8_TreePlays.j0]
  by_cases hp : (p.size : Int) > 100
  ·rw [if_pos (decide_eq_true hp)]
  ·rw [if_neg (by simpa using hp)]
   exact Plays_l0 l p (by omega) (by omega) l.length 0 1999 [] (by omega) (by omega) GT_nil
end Go.Proofs.YtidlldfghkaeeaaGreatDoor.P
end
section
namespace Go.Proofs.YtidlldfghkaeeaaGreatDoor.Pure
open Go.RowKit Go.Proofs.YtidlldfghkaeeaaGreatDoor.P Go.Proofs.YtidlldfghkaeeaaGreatDoorW.PrintWords Go.Proofs.YtidlldfghkaeeaaGreatDoorW.PrintLast
theorem TreePlays : tallymanlaw8_TreePlays.Pure := fun l p _ _ => TreePlays_pure l p
end Go.Proofs.YtidlldfghkaeeaaGreatDoor.Pure
end
