/- PathSorts, the plain part. -/
import Derived.Test.YtoedkhoddiefoaaDoorPthFns
import Derived.Test.YtoedkhoddiefoaaDoorPthSort
import Derived.Test.YtoedkhoddiefoaaDoorPx3
namespace Go.Proofs.YtoedkhoddiefoaaDoor.Pure
open Go.RowKit Go.Proofs.YtoedkhoddiefoaaDoor.P Go.Proofs.YtoedkhoddiefoaaDoorW.PrintWords Go.Proofs.YtoedkhoddiefoaaDoorW.PrintLast
set_option linter.unusedVariables false
set_option linter.unusedSimpArgs false

theorem rd_ {l : List ByteArray} {i : Nat} (h : i < l.length) : rdOf ByteArray.empty l (i : Int) = l[i] := by
  unfold rdOf
  rw [Int.toNat_natCast, List.getD_eq_getElem?_getD, List.getElem?_eq_getElem h]
  rfl
theorem w1_ {i : Nat} (h : i < 1000000) : wrap64 ((i : Int) + 1) = ((i + 1 : Nat) : Int) := by unfold wrap64; omega
theorem texts_same (S : List ByteArray) (hS : S.length ≤ 60) : ∀ (d i k : Nat), i + d = S.length → d ≤ k → tallymanlaw7_texts.l0 (k + 1) S S (i : Int) = some true
  | 0, i, k, hd, hk => by
    rw [tallymanlaw7_texts.l0, if_neg (by omega)]
  | d + 1, i, k, hd, hk => by
    obtain ⟨k, rfl⟩ : ∃ m, k = m + 1 := ⟨k - 1, by omega⟩
    rw [tallymanlaw7_texts.l0, if_pos (by omega), if_pos (by omega), if_pos (by omega), if_pos rfl, w1_ (by omega)]
    exact texts_same S hS d (i + 1) k (by omega) (by omega)
theorem good_gd {x : ByteArray} (h : x.size < 4294967281) : path_Good.f x = some (gd x) := by
  unfold path_Good.f
  rw [if_pos h]
  rfl
theorem L3 (l S : List ByteArray) (hS : S.length ≤ 60) (hl : l.length ≤ 60) (i : Nat) (hi : i < l.length) (hz : l[i].size ≤ 100) (hm : l[i] ∈ S ↔ gd l[i] = true) (m : Nat)
    (H : ∀ k, m ≤ k → tallymanlaw7_PathSorts.l2 k l S ((i + 1 : Nat) : Int) = some true) : ∀ (d j k : Nat) (b : Bool), j + d = S.length → m + d ≤ k → (b = true ↔ l[i] ∈ S.take j) →
    tallymanlaw7_PathSorts.l3 (k + 1) l S (i : Int) b (j : Int) = some true
  | 0, j, k, b, hd, hk, hb => by
    rw [List.take_of_length_le (by omega)] at hb
    rw [tallymanlaw7_PathSorts.l3, if_neg (by omega), if_pos (by omega), if_pos (by omega), rd_ hi, good_gd (by omega), Option.bind_some]
    have e : b = gd l[i] := by
      rw [Bool.eq_iff_iff]
      exact hb.trans hm
    rw [e, bne_self_eq_false, if_neg (by decide), w1_ (by omega)]
    exact H k (by omega)
  | d + 1, j, k, b, hd, hk, hb => by
    obtain ⟨k, rfl⟩ : ∃ n, k = n + 1 := ⟨k - 1, by omega⟩
    have hj : j < S.length := by omega
    have ih := fun b hb => L3 l S hS hl i hi hz hm m H d (j + 1) k b (by omega) (by omega) hb
    have ht : S.take (j + 1) = S.take j ++ [S[j]] := by
      rw [List.take_add_one, List.getElem?_eq_getElem hj]
      rfl
    rw [ht] at ih
    rw [tallymanlaw7_PathSorts.l3, if_pos (by omega)]
    by_cases h : b = true
    · rw [if_pos h, w1_ (by omega)]
      exact ih true ⟨fun _ => List.mem_append_left _ (hb.1 h), fun _ => rfl⟩
    · rw [if_neg h, if_pos (by omega), if_pos (by omega), if_pos (by omega), rd_ hj, rd_ hi, w1_ (by omega)]
      refine ih _ ?_
      rw [beq_iff_eq, Lib.toList_data, Lib.toList_data, List.mem_append, List.mem_singleton]
      constructor
      · intro e
        exact .inr (bext e.symm)
      · rintro (h1 | h1)
        · exact absurd (hb.2 h1) h
        · rw [h1]
theorem L2 (l S : List ByteArray) (hS : S.length ≤ 60) (hl : l.length ≤ 60) (hz : ∀ x ∈ l, x.size ≤ 100) (hm : ∀ x ∈ l, (x ∈ S ↔ gd x = true)) : ∀ (d i k : Nat), i + d = l.length → d * 62 + 1 ≤ k →
    tallymanlaw7_PathSorts.l2 k l S (i : Int) = some true
  | 0, i, k, hd, hk => by
    obtain ⟨k, rfl⟩ : ∃ n, k = n + 1 := ⟨k - 1, by omega⟩
    rw [tallymanlaw7_PathSorts.l2, if_neg (by omega)]
  | d + 1, i, k, hd, hk => by
    obtain ⟨k, rfl⟩ : ∃ n, k = n + 2 := ⟨k - 2, by omega⟩
    have hi : i < l.length := by omega
    rw [tallymanlaw7_PathSorts.l2, if_pos (by omega)]
    have h := L3 l S hS hl i hi (hz _ (List.getElem_mem hi)) (hm _ (List.getElem_mem hi)) (d * 62 + 1) (fun k hk => L2 l S hS hl hz hm d (i + 1) k (by omega) hk) S.length 0 k false (by omega) (by omega) (by simp)
    exact h
theorem L1 (l S : List ByteArray) (hS : S.length ≤ 60) (hz : ∀ x ∈ S, x.size ≤ 100) (hs : S.Pairwise (fun a b => leP a b = true ∧ a ≠ b)) (m : Nat)
    (H : ∀ k, m ≤ k → tallymanlaw7_PathSorts.l2 k l S 0 = some true) : ∀ (d j k : Nat), S.length ≤ j + d → m + d ≤ k → j < 100 →
    tallymanlaw7_PathSorts.l1 (k + 1) l S ((j + 1 : Nat) : Int) = some true
  | 0, j, k, hd, hk, hjj => by
    rw [tallymanlaw7_PathSorts.l1, if_neg (by omega)]
    exact H k (by omega)
  | d + 1, j, k, hd, hk, hjj => by
    obtain ⟨k, rfl⟩ : ∃ n, k = n + 1 := ⟨k - 1, by omega⟩
    rw [tallymanlaw7_PathSorts.l1]
    by_cases h : j + 1 < S.length
    · have hw : wrap64 (((j + 1 : Nat) : Int) - 1) = (j : Int) := by unfold wrap64; omega
      have hp := List.pairwise_iff_getElem.1 hs j (j + 1) (by omega) h (by omega)
      have hza := hz _ (List.getElem_mem (show j < S.length by omega))
      have hzb := hz _ (List.getElem_mem h)
      rw [if_pos (by omega), hw, if_pos (by omega), if_pos (by omega), if_pos (by omega), rd_ (show j < S.length by omega), rd_ h]
      unfold path_Cmp.f
      rw [if_pos (by omega), if_pos (by omega), Option.bind_some, if_pos (cL_lt hp.1 hp.2), Under_eq (by omega) (by omega), Option.bind_some, if_neg (fun e => not_under hp.1 (of_decide_eq_true e).2.2), w1_ (by omega)]
      exact L1 l S hS hz hs m H d (j + 1) k (by omega) (by omega) (by omega)
    · rw [if_neg (by omega)]
      exact H (k + 1) (by omega)
theorem L0 (l : List ByteArray) (hl : l.length ≤ 60) : ∀ (d i k : Nat), i + d = l.length → d + 5000 ≤ k → (∀ x ∈ l.take i, x.size ≤ 100) →
    tallymanlaw7_PathSorts.l0 (k + 1) l (i : Int) = some true
  | 0, i, k, hd, hk, hz => by
    rw [List.take_of_length_le (by omega)] at hz
    have hn := srt_len l
    have hz2 : ∀ x ∈ srt l, x.size ≤ 100 := fun x hx => hz x (srt_mem.1 hx).1
    obtain ⟨k, rfl⟩ : ∃ n, k = n + 1 := ⟨k - 1, by omega⟩
    have ht := texts_same (srt l) (by omega) (srt l).length 0 k (by omega) (by omega)
    have h1 := L1 l (srt l) (by omega) hz2 (srt_strict l) 4000 (fun k hk => L2 l (srt l) (by omega) hl hz (fun x hx => by rw [srt_mem]; exact ⟨fun h => h.2, fun h => ⟨hx, h⟩⟩) l.length 0 k (by omega) (by omega)) (srt l).length 0 k (by omega) (by omega) (by omega)
    rw [tallymanlaw7_PathSorts.l0, if_neg (by omega), path_Sort_eq (by omega) (fun x hx => by have := hz x hx; omega), Option.bind_some, path_Sort_eq (by omega) (fun x hx => by have := hz2 x hx; omega), Option.bind_some, srt_srt]
    unfold tallymanlaw7_texts.f
    rw [if_pos rfl]
    rw [show ((0 : Nat) : Int) = 0 from rfl] at ht
    rw [ht, Option.bind_some, if_pos rfl]
    exact h1
  | d + 1, i, k, hd, hk, hz => by
    obtain ⟨k, rfl⟩ : ∃ n, k = n + 1 := ⟨k - 1, by omega⟩
    have hi : i < l.length := by omega
    rw [tallymanlaw7_PathSorts.l0, if_pos (by omega), if_pos (by omega), rd_ hi]
    by_cases h : (l[i].size : Int) > 100
    · rw [if_pos h]
    · rw [if_neg h, w1_ (by omega)]
      refine L0 l hl d (i + 1) k (by omega) (by omega) (fun x hx => ?_)
      rw [List.take_add_one, List.getElem?_eq_getElem hi, List.mem_append] at hx
      rcases hx with hx | hx
      · exact hz x hx
      · have e : x = l[i] := by simpa using hx
        rw [e]
        omega
theorem PathSorts : tallymanlaw7_PathSorts.Pure := by
  intro l _
  refine ⟨6000, ?_⟩
  unfold tallymanlaw7_PathSorts.f
  rw [awake_eq, Option.bind_some, if_pos rfl]
  split
  · rfl
  · exact L0 l (by omega) l.length 0 5999 (by omega) (by omega) (by simp)
end Go.Proofs.YtoedkhoddiefoaaDoor.Pure
