/- The document's own reckoning of numbers (its package 1) does the same as num does: of every number, of all bytes. No condition. -/
import Derived.Test.YtlaojndlelcdaaaPx4
import Derived.Test.YtlaojndlelcdaaaPx6
import Derived.Test.YtlaojndlelcdaaaPx7
import Derived.Test.YtlaojndlelcdaaaFold
namespace Go.Proofs.Ytlaojndlelcdaaa.Pure
open Go.RowKit Go.Proofs.Ytlaojndlelcdaaa.P Go.Proofs.YtlaojndlelcdaaaW.PrintWords Go.Proofs.YtlaojndlelcdaaaW.PrintLast Go.Proofs.YtlaojndlelcdaaaW.PrintMore
set_option linter.unusedVariables false
set_option linter.unusedSimpArgs false

theorem ref_put_l0 (n : Nat) : ∀ (v : Int) (acc : List Int) (k : Nat), 0 ≤ v → v < 18446744073709551616 → v < 128 ^ (n + 1) → n < k → acc.length + n + 1 ≤ 140737488355328 → tallymanref1_Put.l0 k acc v = some (acc ++ enc n v) := by
  induction n with
  | zero =>
    intro v acc k h0 h64 h1 hk hl
    obtain ⟨k, rfl⟩ : ∃ m, k = m + 1 := ⟨k - 1, by omega⟩
    simp only [tallymanref1_Put.l0]
    have h2 : v < 128 := by simpa using h1
    rw [if_neg (by omega), if_pos (by omega)]
    simp only [enc]
    rw [show v % 256 = v by omega]
  | succ n ih =>
    intro v acc k h0 h64 h1 hk hl
    obtain ⟨k, rfl⟩ : ∃ m, k = m + 1 := ⟨k - 1, by omega⟩
    simp only [tallymanref1_Put.l0, enc]
    by_cases hv : v > 127
    · have e1 : (Int.tmod v 128 + 128) % 256 = v % 128 + 128 := by rw [Int.tmod_eq_emod_of_nonneg h0]; omega
      have e2 : IntKind.u64.wrap (Int.tdiv v 128) = v / 128 := by rw [Int.tdiv_eq_ediv_of_nonneg h0, IntKind.wrap_u64]; omega
      rw [if_pos hv, if_pos hv, if_pos (by omega), e1, e2, ih (v / 128) _ k (by omega) (by omega) (by rw [Int.pow_succ] at h1; omega) (by omega) (by simp; omega)]
      simp
    · rw [if_neg hv, if_neg hv, if_pos (by omega), show v % 256 = v by omega]
theorem ref_put_eq (l : List Int) (v : Int) (k : Nat) (h0 : 0 ≤ v) (h1 : v < 18446744073709551616) (hk : 10 ≤ k) (hl : l.length ≤ 140737488355317) : tallymanref1_Put.f k l v = some (l ++ enc 9 v) := by
  simp only [tallymanref1_Put.f]
  rw [Option.bind_some, if_pos (by simp; omega), List.nil_append, ref_put_l0 9 v l k h0 h1 (by simpa using (show v < 1180591620717411303424 by omega)) (by omega) (by omega)]
theorem ref_get_l0 (l : List Int) (hl : Bytes l) (n : Nat) : ∀ (i : Nat) (acc : Int) (k : Nat), n + i = 9 → 0 ≤ acc → acc < 128 ^ i → 2 * n + 2 < k → tallymanref1_Get.l0 k l acc (i : Int) = some (dec (n + 1) i acc (l.drop i)) := by
  induction n with
  | zero =>
    intro i acc k hi h0 h1 hk
    have : i = 9 := by omega
    subst this
    obtain ⟨k, rfl⟩ : ∃ m, k = m + 2 := ⟨k - 2, by omega⟩
    simp only [tallymanref1_Get.l0]
    by_cases hlen : 9 < l.length
    · have hb := hl _ (List.getElem_mem hlen)
      obtain ⟨hb0, hb1⟩ := hb
      rw [if_pos (by omega), if_pos (by omega), if_pos (by omega), drop_cons l 9 hlen, rd_eq l 9 hlen]
      simp only [tallymanref1_Get.j1, dec]
      by_cases c : l[9] > 1
      · rw [if_pos (decide_eq_true c), if_pos (show (True ∧ l[9] > 1) ∨ (0 < 9 ∧ l[9] = 0) from Or.inl ⟨trivial, c⟩)]
      · have e9 := or_shl 9 acc l[9] (by omega) h0 h1 ⟨hb0, hb1⟩ (fun _ => by omega)
        rw [and127 _ ⟨hb0, hb1⟩] at e9
        have hw : wrap64 (7 * ((9 : Nat) : Int)) = 63 := by decide +kernel
        have hw2 : IntKind.u64.wrap 63 = 63 := by decide +kernel
        have ht : Int.tmod l[9] 128 = l[9] % 128 := Int.tmod_eq_emod_of_nonneg hb0
        rw [hw] at e9
        rw [if_neg (by simpa using c), if_pos (by omega), if_pos (by omega), rd_eq l 9 hlen, hw, hw2, if_pos (by omega), if_pos (by omega), ht, e9]
        by_cases z : l[9] = 0
        · rw [if_pos z, if_pos (by omega), if_pos (show (True ∧ l[9] > 1) ∨ (0 < 9 ∧ l[9] = 0) from Or.inr ⟨by omega, z⟩)]
        · rw [if_neg z, if_neg (show ¬ ((True ∧ l[9] > 1) ∨ (0 < 9 ∧ l[9] = 0)) from fun h => h.elim (fun h => c h.2) (fun h => z h.2)), if_pos (by omega), Int.emod_eq_of_lt hb0 (show l[9] < 128 by omega)]
          simp only [Option.some.injEq, Prod.mk.injEq, true_and, and_true]
          decide +kernel
    · rw [if_neg (by omega), List.drop_of_length_le (by omega)]
      rfl
  | succ n ih =>
    intro i acc k hi h0 h1 hk
    obtain ⟨k, rfl⟩ : ∃ m, k = m + 2 := ⟨k - 2, by omega⟩
    simp only [tallymanref1_Get.l0]
    by_cases hlen : i < l.length
    · have hb := hl _ (List.getElem_mem hlen)
      obtain ⟨hb0, hb1⟩ := hb
      rw [if_pos (by omega), if_neg (by omega), drop_cons l i hlen]
      simp only [tallymanref1_Get.j1]
      rw [dec]
      have hw : wrap64 (7 * (i : Int)) = 7 * i := by unfold wrap64; omega
      have hw2 : IntKind.u64.wrap (7 * (i : Int)) = 7 * i := by rw [IntKind.wrap_u64]; omega
      have hw1 : wrap64 ((i : Int) + 1) = ((i + 1 : Nat) : Int) := by unfold wrap64; omega
      have ht : Int.tmod l[i] 128 = l[i] % 128 := Int.tmod_eq_emod_of_nonneg hb0
      have d0 : (0 : Int) ≤ (i : Int) := Int.natCast_nonneg i
      have d1 : (i : Int) < (l.length : Int) := Int.ofNat_lt.2 hlen
      have d2 : (0 : Int) ≤ 7 * (i : Int) := by omega
      have d3 : i < 10 := by omega
      have d4 : i = 9 → l[i] ≤ 1 := fun h => by omega
      have d5 : i ≠ 9 := by omega
      have d6 : n + (i + 1) = 9 := by omega
      have d7 : 2 * n + 2 < k := by omega
      rw [if_neg (show ¬ (false = true) by decide), if_pos d0, if_pos d1, rd_eq l i hlen, hw, hw2, if_pos d2, ht, hw1]
      have e9 := or_shl i acc l[i] d3 h0 h1 ⟨hb0, hb1⟩ d4
      rw [and127 _ ⟨hb0, hb1⟩, hw] at e9
      rw [e9]
      clear e9
      have hp : (0 : Int) < 128 ^ i := Int.pow_pos (by decide)
      by_cases c : l[i] < 128
      · have hl128 : l[i] % 128 = l[i] := by omega
        rw [if_pos c, hl128]
        by_cases z : l[i] = 0
        · rw [if_pos z]
          by_cases p : (i : Int) > 0
          · rw [if_pos p, if_pos (show (i = 9 ∧ l[i] > 1) ∨ (0 < i ∧ l[i] = 0) from Or.inr ⟨by omega, z⟩)]
          · rw [if_neg p, if_neg (show ¬ ((i = 9 ∧ l[i] > 1) ∨ (0 < i ∧ l[i] = 0)) from fun h => h.elim (fun h => by omega) (fun h => by omega)), if_pos c]
            simp
        · rw [if_neg z, if_neg (show ¬ ((i = 9 ∧ l[i] > 1) ∨ (0 < i ∧ l[i] = 0)) from fun h => h.elim (fun h => by omega) (fun h => z h.2)), if_pos c]
          simp
      · have hm : l[i] % 128 = l[i] - 128 := by omega
        have hs : acc + (l[i] - 128) * 128 ^ i < 128 ^ (i + 1) := by
          rw [Int.pow_succ]
          have : (l[i] - 128) * 128 ^ i ≤ 127 * 128 ^ i := Int.mul_le_mul_of_nonneg_right (by omega) (by omega)
          omega
        have hs0 : 0 ≤ (l[i] - 128) * 128 ^ i := Int.mul_nonneg (by omega) (by omega)
        rw [if_neg c, hm, if_neg (show ¬ ((i = 9 ∧ l[i] > 1) ∨ (0 < i ∧ l[i] = 0)) from fun h => h.elim (fun h => by omega) (fun h => by omega)), if_neg c]
        exact ih (i + 1) _ k d6 (Int.add_nonneg h0 hs0) hs d7
    · rw [if_neg (by omega), List.drop_of_length_le (by omega)]
      rfl
theorem ref_get_eq (l : List Int) (hl : Bytes l) (k : Nat) (hk : 21 ≤ k) : tallymanref1_Get.f k l = some (dec 10 0 0 l) := by
  simp only [tallymanref1_Get.f]
  have := ref_get_l0 l hl 9 0 0 k (by omega) (by omega) (by simp) (by omega)
  simpa using this
theorem dec_range (n : Nat) : ∀ (i : Nat) (acc : Int) (l : List Int), 0 ≤ (dec n i acc l).2.1 ∧ (dec n i acc l).2.1 ≤ i + l.length := by
  induction n with
  | zero => intro i acc l; first | (simp [dec]; done) | (simp [dec]; omega)
  | succ n ih =>
    intro i acc l
    cases l with
    | nil => first | (simp [dec]; done) | (simp [dec]; omega)
    | cons b l =>
      rw [dec]
      split
      · first | (simp; done) | (simp; omega)
      · split
        · first | (simp; done) | (simp; omega)
        · have := ih (i + 1) (acc + (b - 128) * 128 ^ i) l
          simp at this ⊢
          omega
def getB (l : List Int) (m : Int) : List Int × Int × Int :=
  let d := dec 10 0 0 l
  if d.2.2 = 0 then (if m < 0 ∨ d.1 > m then ([], 0, 2) else if (l.length : Int) - d.2.1 < d.1 then ([], 0, 3) else ((l.take (d.2.1 + d.1).toNat).drop d.2.1.toNat, d.2.1 + d.1, 0)) else ([], 0, d.2.2)
theorem getB_bytes (l : List Int) (hl : Bytes l) (m : Int) : Bytes (getB l m).1 := by
  unfold getB
  dsimp only
  split
  · split
    · exact Bytes.nil
    · split
      · exact Bytes.nil
      · exact (hl.take _).drop _
  · exact Bytes.nil
theorem both_getB (l : List Int) (hl : Bytes l) (hn : l.length ≤ 1000000) (m : Int) (m0 : -9223372036854775808 ≤ m) (m1 : m < 9223372036854775808) (k : Nat) (hk : 40 ≤ k) :
    num_GetBytes.f k l m = some (getB l m) ∧ tallymanref1_GetBytes.f k l m = some (getB l m) := by
  obtain ⟨k, rfl⟩ : ∃ m, k = m + 1 := ⟨k - 1, by omega⟩
  have hr := dec_range 10 0 0 l
  simp only [num_GetBytes.f, tallymanref1_GetBytes.f, getB]
  rw [get_eq l hl _ (by omega), ref_get_eq l hl _ (by omega), Option.bind_some, Option.bind_some]
  by_cases c : (dec 10 0 0 l).2.2 = 0
  · obtain ⟨u, u0, u1, e, hle, ht⟩ := get_back l hl c
    rw [e] at hr ⊢
    dsimp only at hr ⊢
    generalize (enc 9 u).length = n at *
    rw [if_pos rfl, if_pos rfl]
    by_cases cm : m < 0
    · rw [if_pos cm, if_pos cm, if_pos (show m < 0 ∨ u > m from Or.inl cm), num_GetBytes.j0, tallymanref1_GetBytes.j0, if_pos rfl, if_pos rfl]
      simp
    · have em : IntKind.u64.wrap m = m := by rw [IntKind.wrap_u64]; omega
      rw [if_neg cm, if_neg cm, em, num_GetBytes.j0, tallymanref1_GetBytes.j0]
      by_cases cv : u > m
      · rw [if_pos (decide_eq_true cv), if_pos (decide_eq_true cv), if_pos (show m < 0 ∨ u > m from Or.inr cv)]
        simp
      · have el : IntKind.u64.wrap (wrap64 ((l.length : Int) - (n : Int))) = (l.length : Int) - n := by rw [IntKind.wrap_u64]; unfold wrap64; omega
        have cvd : ¬ (decide (u > m) = true) := by simpa using cv
        rw [if_neg cvd, if_neg cvd, if_neg (show ¬ (m < 0 ∨ u > m) from fun h => h.elim cm cv), el]
        by_cases cl : (l.length : Int) - n < u
        · rw [if_pos cl, if_pos cl, if_pos cl]
          simp
        · have ew : wrap64 u = u := by unfold wrap64; omega
          have ew2 : wrap64 ((n : Int) + u) = n + u := by unfold wrap64; omega
          have hlen : ((l.take ((n : Int) + u).toNat).drop (n : Int).toNat).length ≤ l.length := by simp; omega
          have z1 : (0 : Int) ≤ (n : Int) := Int.natCast_nonneg n
          have z2 : (n : Int) ≤ (n : Int) + u := by omega
          have z3 : (n : Int) + u ≤ (l.length : Int) := by omega
          have z4 : ([] : List Int).length + ((l.take ((n : Int) + u).toNat).drop (n : Int).toNat).length < 140737488355328 := by simp only [List.length_nil, Nat.zero_add]; omega
          rw [if_neg cl, if_neg cl, if_neg cl, Option.bind_some, ew, ew2, if_pos z1, if_pos z1, if_pos z2, if_pos z2, if_pos z3, if_pos z3, clone_eq _ (by omega), Option.bind_some, if_pos z4, List.nil_append]
          simp
  · rw [if_neg c, if_neg c, if_neg c]
    simp
theorem ref_fold_eq (v : Int) (h0 : -9223372036854775808 ≤ v) (h1 : v < 9223372036854775808) : tallymanref1_Fold.f v = some (fold v) := by
  simp only [tallymanref1_Fold.f, fold, IntKind.wrap_u64]
  by_cases c : v < 0
  · rw [if_pos c, if_pos c]
    unfold wrap64
    congr 1
    omega
  · rw [if_neg c, if_neg c]
    congr 1
    omega
theorem ref_unfold_eq (v : Int) (h0 : 0 ≤ v) (h1 : v < 18446744073709551616) : tallymanref1_Unfold.f v = some (unfold_ v) := by
  simp only [tallymanref1_Unfold.f, unfold_, IntKind.wrap_u64]
  rw [Int.tmod_eq_emod_of_nonneg h0, Int.tdiv_eq_ediv_of_nonneg h0]
  by_cases c : v % 2 = 1
  · rw [if_pos c, if_pos c]
    unfold wrap64
    congr 1
    omega
  · rw [if_neg c, if_neg c]
    unfold wrap64
    congr 1
    omega
end Go.Proofs.Ytlaojndlelcdaaa.Pure
