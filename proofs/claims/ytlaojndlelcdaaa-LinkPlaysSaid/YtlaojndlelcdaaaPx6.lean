/- Written by pp.py, a program of this session over the printer of the kit: what the functions of the program compute, and that they do so; of a law: its row, without a condition. -/
import Derived.Test.YtlaojndlelcdaaaPx0
namespace Go.Proofs.Ytlaojndlelcdaaa.P
open Go.RowKit Go.Proofs.YtlaojndlelcdaaaW.PrintWords Go.Proofs.YtlaojndlelcdaaaW.PrintLast Go.Proofs.YtlaojndlelcdaaaW.PrintMore
attribute [local go_sem] max2_int min2_int max_two min_two max_three min_three max_four min_four   -- for this text's walks alone
set_option linter.unusedVariables false
set_option linter.unusedSimpArgs false

/-! ### tallymanref1_Get: function 28 -/
mutual
def tallymanref1_Get.l0 : Nat → List Int → Int → Int → Option (Int × Int × Int)
  | 0, _, _, _ => none
  | k + 1, x0, x5, x6 => if x6 < (x0.length : Int) then (if x6 = 9 then (if 0 ≤ x6 then (tallymanref1_Get.j1 k x0 x5 x6 (decide ((rd x0 x6) > 1))) else (none)) else (tallymanref1_Get.j1 k x0 x5 x6 false)) else (some (0, 0, 3))
def tallymanref1_Get.j1 : Nat → List Int → Int → Int → Bool → Option (Int × Int × Int)
  | 0, _, _, _, _ => none
  | k + 1, x0, x5, x6, x21 => if x21 = true then (some (0, 0, 2)) else (if 0 ≤ x6 then (if x6 < (x0.length : Int) then (if 0 ≤ (IntKind.u64.wrap (wrap64 (7 * x6))) then (if (rd x0 x6) < 128 then (if (rd x0 x6) = 0 then (if x6 > 0 then (some (0, 0, 2)) else (some (Go.bits .or .u64 x5 (shl .u64 (IntKind.u64.wrap (Int.tmod (rd x0 x6) 128)) (IntKind.u64.wrap (wrap64 (7 * x6)))), wrap64 (x6 + 1), 0))) else (some (Go.bits .or .u64 x5 (shl .u64 (IntKind.u64.wrap (Int.tmod (rd x0 x6) 128)) (IntKind.u64.wrap (wrap64 (7 * x6)))), wrap64 (x6 + 1), 0))) else (tallymanref1_Get.l0 k x0 (Go.bits .or .u64 x5 (shl .u64 (IntKind.u64.wrap (Int.tmod (rd x0 x6) 128)) (IntKind.u64.wrap (wrap64 (7 * x6))))) (wrap64 (x6 + 1)))) else (none)) else (none)) else (none))
end
def tallymanref1_Get.f (k : Nat) (l0 : List Int) : Option (Int × Int × Int) := tallymanref1_Get.l0 k l0 0 0
theorem tallymanref1_Get.mono_l : ∀ k, (∀ y0 y1 y2, LeO (tallymanref1_Get.l0 k y0 y1 y2) (tallymanref1_Get.l0 (k + 1) y0 y1 y2)) ∧ (∀ y0 y1 y2 y3, LeO (tallymanref1_Get.j1 k y0 y1 y2 y3) (tallymanref1_Get.j1 (k + 1) y0 y1 y2 y3))
  | 0 => ⟨fun _ _ _ r h => by simp [tallymanref1_Get.l0] at h, fun _ _ _ _ r h => by simp [tallymanref1_Get.j1] at h⟩
  | k + 1 => by
    obtain ⟨ih0, ih1⟩ := tallymanref1_Get.mono_l k
    refine ⟨?_, ?_⟩
    · intro y0 y1 y2
      unfold tallymanref1_Get.l0
      repeat' first
      | (with_reducible exact ih0 _ _ _)
      | (with_reducible exact ih1 _ _ _ _)
      | (with_reducible exact LeO.refl _)
      | (with_reducible exact LeO.none _)
      | (with_reducible refine LeO.ite ?_ ?_)
      | (with_reducible refine LeO.bind ?_ (fun _ => ?_))
      | exact ih0 _ _ _
      | exact ih1 _ _ _ _
      | exact LeO.none _
      | refine LeO.ite ?_ ?_
      | refine LeO.bind ?_ (fun _ => ?_)
    · intro y0 y1 y2 y3
      unfold tallymanref1_Get.j1
      repeat' first
      | (with_reducible exact ih0 _ _ _)
      | (with_reducible exact ih1 _ _ _ _)
      | (with_reducible exact LeO.refl _)
      | (with_reducible exact LeO.none _)
      | (with_reducible refine LeO.ite ?_ ?_)
      | (with_reducible refine LeO.bind ?_ (fun _ => ?_))
      | exact ih0 _ _ _
      | exact ih1 _ _ _ _
      | exact LeO.none _
      | refine LeO.ite ?_ ?_
      | refine LeO.bind ?_ (fun _ => ?_)
theorem tallymanref1_Get.mono : ∀ a0 k, LeO (tallymanref1_Get.f k a0) (tallymanref1_Get.f (k + 1) a0) := by
  intro a0 k
  obtain ⟨ih0, ih1⟩ := tallymanref1_Get.mono_l k
  unfold tallymanref1_Get.f
  repeat' first
      | (with_reducible exact ih0 _ _ _)
      | (with_reducible exact ih1 _ _ _ _)
      | (with_reducible exact LeO.refl _)
      | (with_reducible exact LeO.none _)
      | (with_reducible refine LeO.ite ?_ ?_)
      | (with_reducible refine LeO.bind ?_ (fun _ => ?_))
      | exact ih0 _ _ _
      | exact ih1 _ _ _ _
      | exact LeO.none _
      | refine LeO.ite ?_ ?_
      | refine LeO.bind ?_ (fun _ => ?_)
set_option maxHeartbeats 8000000 in
set_option maxRecDepth 100000 in
theorem tallymanref1_Get.calls (k : Nat) (A0 : Option Addr) (c0 : Nat) (l0 : List Int) (r1 : Int) (r2 : Int) (r3 : Int) (w : World) (hr0 : Kd.C (Kd.int .u8) w A0 l0.length l0) (hc0 : l0.length ≤ c0) (h : tallymanref1_Get.f k l0 = some (r1, r2, r3)) :
    Calls Try.prog 28 #[.slice A0 l0.length c0] w fun e w' => e = .returned (.tuple #[.int .u64 r1, .int .i64 r2, .int .i64 r3]) ∧ Drawn0 w w' := by
  have HR0 := Aside0.mk hr0
  have HC0 := Aside0.mk hc0
  clear hr0 hc0
  have H : (tallymanref1_Get.l0 k l0 0 0) = some (r1, r2, r3) := h
  clear h
  have H' := Aside0.mk H
  clear H
  go_enter Try.func28, Try.ntmps28
  go_wp2
  go_loopg [5, 6] k (fun kq v5 v6 w' => ∃ (x5_1 : Int) (x6_1 : Int), v5 = .int .u64 x5_1 ∧ v6 = .int .i64 x6_1 ∧ Aside0 (tallymanref1_Get.l0 kq l0 x5_1 x6_1 = some (r1, r2, r3)) ∧ Aside0 (kq ≤ k) ∧ Drawn0 w w')
  case atStart => exact ⟨(0), (0), (by first | rfl | (simp; done) | (simp [*]; done)), (by first | rfl | (simp; done) | (simp [*]; done)), H', ⟨Nat.le_refl _⟩, by repeat (first | exact Drawn0.refl _ | apply Drawn0.step)⟩
  case round =>
    clear H'
    obtain ⟨x5_1, x6_1, rfl, rfl, HA, HK1, ⟨m1, rfl⟩⟩ := hrel
    cases gk with
    | zero => exact absurd HA.out (by simp [tallymanref1_Get.l0])
    | succ k1 =>
      have H := HA.out
      clear HA
      simp only [tallymanref1_Get.l0] at H
      by_cases c2 : x6_1 < (l0.length : Int)
      · rw [if_pos c2] at H
        have c2b0 : decide (x6_1 < (l0.length : Int)) = true := decide_eq_true c2
        clear c2
        have HC3 := Aside0.mk H
        clear H
        go_upto_region 5 with (fail)
        go_cut [21] (fun v21 wc => ∃ (kq : Nat) (x21_2 : Bool), v21 = .bool x21_2 ∧ Aside0 (tallymanref1_Get.j1 kq l0 x5_1 x6_1 x21_2 = some (r1, r2, r3)) ∧ Aside0 (kq ≤ k1) ∧ Drawn0 w wc)
        case first =>
          have H := HC3.out
          clear HC3
          by_cases c4 : x6_1 = 9
          · rw [if_pos c4] at H
            have c4b0 : (x6_1 == 9) = true := beq_iff_eq.mpr c4
            have c4b1 : (x6_1 != 9) = false := bne_eq_false_iff_eq.mpr c4
            clear c4
            (first | rw [c4b0] | (simp only [i64_w, i32_w]; rw [c4b0]) | skip)
            by_cases c5 : 0 ≤ x6_1
            · rw [if_pos c5] at H
              have c5b0 : decide (0 ≤ x6_1) = true := decide_eq_true c5
              clear c5
              have H' := Aside0.mk H
              clear H
              have p228 : 0 ≤ (x6_1 : Int) := of_decide_eq_true (by first | (with_reducible assumption) | assumption)
              have q228 : x6_1 < (l0.length : Int) := of_decide_eq_true (by first | (with_reducible assumption) | assumption)
              obtain ⟨ad228, e228, hx228_0⟩ := Kd.at_int HR0.out x6_1 p228 q228
              cases e228
              replace p228 := eq_true p228
              replace q228 := eq_true q228
              go_wp2
              go_meet
              case rel => exact ⟨_, (decide ((rd l0 x6_1) > 1)), (by first | rfl | (simp; done) | (simp [*]; done)), H', ⟨by have := HK1.out; first | omega | exact Nat.le_refl _⟩, by repeat (first | exact Drawn0.refl _ | apply Drawn0.step)⟩
            · rw [if_neg c5] at H
              exact absurd H (by simp)
          · rw [if_neg c4] at H
            have c4b0 : (x6_1 == 9) = false := beq_eq_false_iff_ne.mpr c4
            have c4b1 : (x6_1 != 9) = true := bne_iff_ne.mpr c4
            (first | rw [c4b0] | (simp only [i64_w, i32_w]; rw [c4b0]) | skip)
            have H' := Aside0.mk H
            clear H
            go_wp2
            go_meet
            case rel => exact ⟨_, (false), (by first | rfl | (simp; done) | (simp [*]; done)), H', ⟨by have := HK1.out; first | omega | exact Nat.le_refl _⟩, by repeat (first | exact Drawn0.refl _ | apply Drawn0.step)⟩
        case rest =>
          clear HC3
          try clear c2
          try clear c2b0
          try clear p2
          try clear q2
          try clear hx2
          try clear c4
          try clear c4b0
          try clear c4b1
          try clear c5
          try clear c5b0
          try clear hx228_0
          try clear p228
          try clear q228
          obtain ⟨kq, x21_2, rfl, HA, HJ2, ⟨mc2, rfl⟩⟩ := hcut
          cases kq with
          | zero => exact absurd HA.out (by simp [tallymanref1_Get.j1])
          | succ kj2 =>
            have H := HA.out
            clear HA
            simp only [tallymanref1_Get.j1] at H
            by_cases c6 : x21_2 = true
            · subst c6
              have H1 : (some (0, 0, 2)) = some (r1, r2, r3) := by rw [if_pos rfl] at H; exact H
              clear H
              have H := H1
              clear H1
              simp only [Option.some.injEq, Prod.mk.injEq] at H
              obtain ⟨rfl, rfl, rfl⟩ := H
              go_wp2
              go_ret3
              exact ⟨by first | rfl | (simp; done) | (simp [*]; done), by repeat (first | exact Drawn0.refl _ | apply Drawn0.step)⟩
            · replace c6 := Bool.eq_false_iff.mpr c6
              subst c6
              have H1 : (if 0 ≤ x6_1 then (if x6_1 < (l0.length : Int) then (if 0 ≤ (IntKind.u64.wrap (wrap64 (7 * x6_1))) then (if (rd l0 x6_1) < 128 then (if (rd l0 x6_1) = 0 then (if x6_1 > 0 then (some (0, 0, 2)) else (some (Go.bits .or .u64 x5_1 (shl .u64 (IntKind.u64.wrap (Int.tmod (rd l0 x6_1) 128)) (IntKind.u64.wrap (wrap64 (7 * x6_1)))), wrap64 (x6_1 + 1), 0))) else (some (Go.bits .or .u64 x5_1 (shl .u64 (IntKind.u64.wrap (Int.tmod (rd l0 x6_1) 128)) (IntKind.u64.wrap (wrap64 (7 * x6_1)))), wrap64 (x6_1 + 1), 0))) else (tallymanref1_Get.l0 kj2 l0 (Go.bits .or .u64 x5_1 (shl .u64 (IntKind.u64.wrap (Int.tmod (rd l0 x6_1) 128)) (IntKind.u64.wrap (wrap64 (7 * x6_1))))) (wrap64 (x6_1 + 1)))) else (none)) else (none)) else (none)) = some (r1, r2, r3) := by rw [if_neg (show ¬ (false = true) by decide)] at H; exact H
              clear H
              have H := H1
              clear H1
              by_cases c7 : 0 ≤ x6_1
              · rw [if_pos c7] at H
                have c7b0 : decide (0 ≤ x6_1) = true := decide_eq_true c7
                clear c7
                by_cases c8 : x6_1 < (l0.length : Int)
                · rw [if_pos c8] at H
                  have c8b0 : decide (x6_1 < (l0.length : Int)) = true := decide_eq_true c8
                  clear c8
                  obtain ⟨ji9, hji9⟩ : ∃ j_ : Int, (IntKind.u64.wrap (wrap64 (7 * x6_1))) = j_ := ⟨_, rfl⟩
                  replace H : (if 0 ≤ (ji9) then (if (rd l0 x6_1) < 128 then (if (rd l0 x6_1) = 0 then (if x6_1 > 0 then (some (0, 0, 2)) else (some (Go.bits .or .u64 x5_1 (shl .u64 (IntKind.u64.wrap (Int.tmod (rd l0 x6_1) 128)) (ji9)), wrap64 (x6_1 + 1), 0))) else (some (Go.bits .or .u64 x5_1 (shl .u64 (IntKind.u64.wrap (Int.tmod (rd l0 x6_1) 128)) (ji9)), wrap64 (x6_1 + 1), 0))) else (tallymanref1_Get.l0 kj2 l0 (Go.bits .or .u64 x5_1 (shl .u64 (IntKind.u64.wrap (Int.tmod (rd l0 x6_1) 128)) (ji9))) (wrap64 (x6_1 + 1)))) else (none)) = some (r1, r2, r3) := by first | (rw [hji9] at H; exact H) | (simp only [hji9] at H ⊢; exact H)
                  by_cases c10 : 0 ≤ (ji9)
                  · rw [if_pos c10] at H
                    have c10b0 := eq_true c10
                    have c10b1 : decide (0 ≤ (ji9)) = true := decide_eq_true c10
                    clear c10
                    obtain ⟨ji11, hji11⟩ : ∃ j_ : Int, (shl .u64 (IntKind.u64.wrap (Int.tmod (rd l0 x6_1) 128)) (ji9)) = j_ := ⟨_, rfl⟩
                    replace H : (if (rd l0 x6_1) < 128 then (if (rd l0 x6_1) = 0 then (if x6_1 > 0 then (some (0, 0, 2)) else (some (Go.bits .or .u64 x5_1 (ji11), wrap64 (x6_1 + 1), 0))) else (some (Go.bits .or .u64 x5_1 (ji11), wrap64 (x6_1 + 1), 0))) else (tallymanref1_Get.l0 kj2 l0 (Go.bits .or .u64 x5_1 (ji11)) (wrap64 (x6_1 + 1)))) = some (r1, r2, r3) := by first | (rw [hji11] at H; exact H) | (simp only [hji11] at H ⊢; exact H)
                    have hji11_ : (IntKind.u64.wrap ((IntKind.u64.wrap (Int.tmod (rd l0 x6_1) 128)) * 2 ^ min (ji9).toNat 64)) = ji11 := hji11
                    have hji11z : (ji9) ≤ 64 → (IntKind.u64.wrap ((IntKind.u64.wrap (Int.tmod (rd l0 x6_1) 128)) * 2 ^ (ji9).toNat)) = ji11 := shl_small hji11
                    by_cases c12 : (rd l0 x6_1) < 128
                    · rw [if_pos c12] at H
                      have c12b0 : decide ((rd l0 x6_1) < 128) = true := decide_eq_true c12
                      clear c12
                      by_cases c13 : (rd l0 x6_1) = 0
                      · rw [if_pos c13] at H
                        have c13b0 : ((rd l0 x6_1) == 0) = true := beq_iff_eq.mpr c13
                        have c13b1 : ((rd l0 x6_1) != 0) = false := bne_eq_false_iff_eq.mpr c13
                        clear c13
                        by_cases c14 : x6_1 > 0
                        · rw [if_pos c14] at H
                          have c14b0 : decide (0 < x6_1) = true := decide_eq_true c14
                          clear c14
                          simp only [Option.some.injEq, Prod.mk.injEq] at H
                          obtain ⟨rfl, rfl, rfl⟩ := H
                          have p229 : 0 ≤ (x6_1 : Int) := of_decide_eq_true (by first | (with_reducible assumption) | assumption)
                          have q229 : x6_1 < (l0.length : Int) := of_decide_eq_true (by first | (with_reducible assumption) | assumption)
                          obtain ⟨ad229, e229, hx229_0⟩ := Kd.at_int HR0.out x6_1 p229 q229
                          cases e229
                          replace p229 := eq_true p229
                          replace q229 := eq_true q229
                          have p230 : 0 ≤ (x6_1 : Int) := of_decide_eq_true (by first | (with_reducible assumption) | assumption)
                          have q230 : x6_1 < (l0.length : Int) := of_decide_eq_true (by first | (with_reducible assumption) | assumption)
                          obtain ⟨ad230, e230, hx230_0⟩ := Kd.at_int HR0.out x6_1 p230 q230
                          obtain rfl : ad229 = ad230 := (by injection e230)
                          replace p230 := eq_true p230
                          replace q230 := eq_true q230
                          have p231 : 0 ≤ (x6_1 : Int) := of_decide_eq_true (by first | (with_reducible assumption) | assumption)
                          have q231 : x6_1 < (l0.length : Int) := of_decide_eq_true (by first | (with_reducible assumption) | assumption)
                          obtain ⟨ad231, e231, hx231_0⟩ := Kd.at_int HR0.out x6_1 p231 q231
                          obtain rfl : ad229 = ad231 := (by injection e231)
                          replace p231 := eq_true p231
                          replace q231 := eq_true q231
                          go_wp2
                          go_ret3
                          exact ⟨by first | rfl | (simp; done) | (simp only [← hji9, ← hji11] <;> (first | rfl | simp)) | (simp [*]; done), by repeat (first | exact Drawn0.refl _ | apply Drawn0.step)⟩
                        · rw [if_neg c14] at H
                          have c14b0 : decide (0 < x6_1) = false := decide_eq_false c14
                          clear c14
                          simp only [Option.some.injEq, Prod.mk.injEq] at H
                          obtain ⟨rfl, rfl, rfl⟩ := H
                          have p229 : 0 ≤ (x6_1 : Int) := of_decide_eq_true (by first | (with_reducible assumption) | assumption)
                          have q229 : x6_1 < (l0.length : Int) := of_decide_eq_true (by first | (with_reducible assumption) | assumption)
                          obtain ⟨ad229, e229, hx229_0⟩ := Kd.at_int HR0.out x6_1 p229 q229
                          cases e229
                          replace p229 := eq_true p229
                          replace q229 := eq_true q229
                          have p230 : 0 ≤ (x6_1 : Int) := of_decide_eq_true (by first | (with_reducible assumption) | assumption)
                          have q230 : x6_1 < (l0.length : Int) := of_decide_eq_true (by first | (with_reducible assumption) | assumption)
                          obtain ⟨ad230, e230, hx230_0⟩ := Kd.at_int HR0.out x6_1 p230 q230
                          obtain rfl : ad229 = ad230 := (by injection e230)
                          replace p230 := eq_true p230
                          replace q230 := eq_true q230
                          have p231 : 0 ≤ (x6_1 : Int) := of_decide_eq_true (by first | (with_reducible assumption) | assumption)
                          have q231 : x6_1 < (l0.length : Int) := of_decide_eq_true (by first | (with_reducible assumption) | assumption)
                          obtain ⟨ad231, e231, hx231_0⟩ := Kd.at_int HR0.out x6_1 p231 q231
                          obtain rfl : ad229 = ad231 := (by injection e231)
                          replace p231 := eq_true p231
                          replace q231 := eq_true q231
                          go_wp2
                          go_ret3
                          exact ⟨by first | rfl | (simp; done) | (simp only [← hji9, ← hji11] <;> (first | rfl | simp)) | (simp [*]; done), by repeat (first | exact Drawn0.refl _ | apply Drawn0.step)⟩
                      · rw [if_neg c13] at H
                        have c13b0 : ((rd l0 x6_1) == 0) = false := beq_eq_false_iff_ne.mpr c13
                        have c13b1 : ((rd l0 x6_1) != 0) = true := bne_iff_ne.mpr c13
                        simp only [Option.some.injEq, Prod.mk.injEq] at H
                        obtain ⟨rfl, rfl, rfl⟩ := H
                        have p229 : 0 ≤ (x6_1 : Int) := of_decide_eq_true (by first | (with_reducible assumption) | assumption)
                        have q229 : x6_1 < (l0.length : Int) := of_decide_eq_true (by first | (with_reducible assumption) | assumption)
                        obtain ⟨ad229, e229, hx229_0⟩ := Kd.at_int HR0.out x6_1 p229 q229
                        cases e229
                        replace p229 := eq_true p229
                        replace q229 := eq_true q229
                        have p230 : 0 ≤ (x6_1 : Int) := of_decide_eq_true (by first | (with_reducible assumption) | assumption)
                        have q230 : x6_1 < (l0.length : Int) := of_decide_eq_true (by first | (with_reducible assumption) | assumption)
                        obtain ⟨ad230, e230, hx230_0⟩ := Kd.at_int HR0.out x6_1 p230 q230
                        obtain rfl : ad229 = ad230 := (by injection e230)
                        replace p230 := eq_true p230
                        replace q230 := eq_true q230
                        have p231 : 0 ≤ (x6_1 : Int) := of_decide_eq_true (by first | (with_reducible assumption) | assumption)
                        have q231 : x6_1 < (l0.length : Int) := of_decide_eq_true (by first | (with_reducible assumption) | assumption)
                        obtain ⟨ad231, e231, hx231_0⟩ := Kd.at_int HR0.out x6_1 p231 q231
                        obtain rfl : ad229 = ad231 := (by injection e231)
                        replace p231 := eq_true p231
                        replace q231 := eq_true q231
                        go_wp2
                        go_ret3
                        exact ⟨by first | rfl | (simp; done) | (simp only [← hji9, ← hji11] <;> (first | rfl | simp)) | (simp [*]; done), by repeat (first | exact Drawn0.refl _ | apply Drawn0.step)⟩
                    · rw [if_neg c12] at H
                      have c12b0 : decide ((rd l0 x6_1) < 128) = false := decide_eq_false c12
                      clear c12
                      have H' := Aside0.mk H
                      clear H
                      have p229 : 0 ≤ (x6_1 : Int) := of_decide_eq_true (by first | (with_reducible assumption) | assumption)
                      have q229 : x6_1 < (l0.length : Int) := of_decide_eq_true (by first | (with_reducible assumption) | assumption)
                      obtain ⟨ad229, e229, hx229_0⟩ := Kd.at_int HR0.out x6_1 p229 q229
                      cases e229
                      replace p229 := eq_true p229
                      replace q229 := eq_true q229
                      have p230 : 0 ≤ (x6_1 : Int) := of_decide_eq_true (by first | (with_reducible assumption) | assumption)
                      have q230 : x6_1 < (l0.length : Int) := of_decide_eq_true (by first | (with_reducible assumption) | assumption)
                      obtain ⟨ad230, e230, hx230_0⟩ := Kd.at_int HR0.out x6_1 p230 q230
                      obtain rfl : ad229 = ad230 := (by injection e230)
                      replace p230 := eq_true p230
                      replace q230 := eq_true q230
                      go_wp2
                      go_roundg kj2
                      case measure => have := HK1.out; have := HJ2.out; omega
                      case rel => exact ⟨(Go.bits .or .u64 x5_1 (ji11)), (wrap64 (x6_1 + 1)), (by first | rfl | (simp; done) | (simp only [← hji11] <;> (first | rfl | simp)) | (simp [*]; done)), (by first | rfl | (simp; done) | (simp [*]; done)), H', ⟨by have := HK1.out; have := HJ2.out; omega⟩, by repeat (first | exact Drawn0.refl _ | apply Drawn0.step)⟩
                  · rw [if_neg c10] at H
                    exact absurd H (by simp)
                · rw [if_neg c8] at H
                  exact absurd H (by simp)
              · rw [if_neg c7] at H
                exact absurd H (by simp)
      · rw [if_neg c2] at H
        have c2b0 : decide (x6_1 < (l0.length : Int)) = false := decide_eq_false c2
        clear c2
        simp only [Option.some.injEq, Prod.mk.injEq] at H
        obtain ⟨rfl, rfl, rfl⟩ := H
        go_wp2
        go_ret3
        exact ⟨by first | rfl | (simp; done) | (simp [*]; done), by repeat (first | exact Drawn0.refl _ | apply Drawn0.step)⟩

/-! ### tallymanref1_GetBytes: function 29 -/
def tallymanref1_GetBytes.j0 : Nat → List Int → Int → Int → Bool → Option (List Int × Int × Int)
  | 0, _, _, _, _ => none
  | k + 1, x0, x7, x8, x26 => if x26 = true then (some (([] : List Int), 0, 2)) else (if (IntKind.u64.wrap (wrap64 ((x0.length : Int) - x8))) < x7 then (some (([] : List Int), 0, 3)) else ((some (([] : List Int) : List Int)).bind fun y235 => (if 0 ≤ x8 then (if x8 ≤ (wrap64 (x8 + (wrap64 (x7)))) then (if (wrap64 (x8 + (wrap64 (x7)))) ≤ (x0.length : Int) then (if y235.length + ((x0.take ((wrap64 (x8 + (wrap64 (x7)))) : Int).toNat).drop (x8 : Int).toNat).length < 140737488355328 then (some ((y235 ++ ((x0.take ((wrap64 (x8 + (wrap64 (x7)))) : Int).toNat).drop (x8 : Int).toNat)), wrap64 (x8 + (wrap64 (x7))), 0)) else (none)) else (none)) else (none)) else (none))))
def tallymanref1_GetBytes.f (k : Nat) (l0 : List Int) (a1 : Int) : Option (List Int × Int × Int) := (tallymanref1_Get.f k l0).bind fun bt232 => (if bt232.2.2 = 0 then (if a1 < 0 then (tallymanref1_GetBytes.j0 k l0 bt232.1 bt232.2.1 true) else (tallymanref1_GetBytes.j0 k l0 bt232.1 bt232.2.1 (decide (bt232.1 > (IntKind.u64.wrap (a1)))))) else (some (([] : List Int), 0, bt232.2.2)))
theorem tallymanref1_GetBytes.mono_l : ∀ k, (∀ y0 y1 y2 y3, LeO (tallymanref1_GetBytes.j0 k y0 y1 y2 y3) (tallymanref1_GetBytes.j0 (k + 1) y0 y1 y2 y3))
  | 0 => fun _ _ _ _ r h => by simp [tallymanref1_GetBytes.j0] at h
  | k + 1 => by
    have ih0 := tallymanref1_GetBytes.mono_l k
    · intro y0 y1 y2 y3
      unfold tallymanref1_GetBytes.j0
      repeat' first
      | (with_reducible exact ih0 _ _ _ _)
      | (with_reducible exact tallymanref1_Get.mono _ _)
      | (with_reducible exact LeO.refl _)
      | (with_reducible exact LeO.none _)
      | (with_reducible refine LeO.ite ?_ ?_)
      | (with_reducible refine LeO.bind ?_ (fun _ => ?_))
      | exact ih0 _ _ _ _
      | exact tallymanref1_Get.mono _ _
      | exact LeO.none _
      | refine LeO.ite ?_ ?_
      | refine LeO.bind ?_ (fun _ => ?_)
theorem tallymanref1_GetBytes.mono : ∀ a0 a1 k, LeO (tallymanref1_GetBytes.f k a0 a1) (tallymanref1_GetBytes.f (k + 1) a0 a1) := by
  intro a0 a1 k
  have ih0 := tallymanref1_GetBytes.mono_l k
  unfold tallymanref1_GetBytes.f
  repeat' first
      | (with_reducible exact ih0 _ _ _ _)
      | (with_reducible exact tallymanref1_Get.mono _ _)
      | (with_reducible exact LeO.refl _)
      | (with_reducible exact LeO.none _)
      | (with_reducible refine LeO.ite ?_ ?_)
      | (with_reducible refine LeO.bind ?_ (fun _ => ?_))
      | exact ih0 _ _ _ _
      | exact tallymanref1_Get.mono _ _
      | exact LeO.none _
      | refine LeO.ite ?_ ?_
      | refine LeO.bind ?_ (fun _ => ?_)
set_option maxHeartbeats 8000000 in
set_option maxRecDepth 100000 in
theorem tallymanref1_GetBytes.calls (k : Nat) (A0 : Option Addr) (c0 : Nat) (l0 : List Int) (a1 : Int) (r1 : List Int) (r2 : Int) (r3 : Int) (w : World) (hr0 : Kd.C (Kd.int .u8) w A0 l0.length l0) (hc0 : l0.length ≤ c0) (h : tallymanref1_GetBytes.f k l0 a1 = some (r1, r2, r3)) :
    Calls Try.prog 29 #[.slice A0 l0.length c0, .int .i64 a1] w fun e w' => ∃ v0_ : Value, e = .returned (.tuple #[v0_, .int .i64 r2, .int .i64 r3]) ∧ Kd.R (Kd.int .u8) 5 w' w.heap.size (fun _ => True) v0_ r1 ∧ Below w.heap.size w w' := by
  have HR0 := Aside0.mk hr0
  have HC0 := Aside0.mk hc0
  clear hr0 hc0
  have HB := Aside0.mk (Below.refl w.heap.size w)
  have H : ((tallymanref1_Get.f k l0).bind fun bt232 => (if bt232.2.2 = 0 then (if a1 < 0 then (tallymanref1_GetBytes.j0 k l0 bt232.1 bt232.2.1 true) else (tallymanref1_GetBytes.j0 k l0 bt232.1 bt232.2.1 (decide (bt232.1 > (IntKind.u64.wrap (a1)))))) else (some (([] : List Int), 0, bt232.2.2)))) = some (r1, r2, r3) := h
  clear h
  replace H := Option.bind_eq_some_iff.mp H
  obtain ⟨⟨t232, t233, t234⟩, A30, H⟩ := H
  replace H : (if t234 = 0 then (if a1 < 0 then (tallymanref1_GetBytes.j0 k l0 t232 t233 true) else (tallymanref1_GetBytes.j0 k l0 t232 t233 (decide (t232 > (IntKind.u64.wrap (a1)))))) else (some (([] : List Int), 0, t234))) = some (r1, r2, r3) := H
  have A3 := Aside0.mk A30
  clear A30
  by_cases c4 : t234 = 0
  · rw [if_pos c4] at H
    have c4b0 : (t234 == 0) = true := beq_iff_eq.mpr c4
    have c4b1 : (t234 != 0) = false := bne_eq_false_iff_eq.mpr c4
    clear c4
    have HC5 := Aside0.mk H
    clear H
    go_enter Try.func29, Try.ntmps29
    go_upto_region 4 with (first | ((with_reducible refine gate_callee (f := 28) rfl ?_); refine goesL_ (some 12) rfl rfl Try.func28 (by kernel_rfl) rfl #[.slice A0 l0.length c0] rfl (by (try simp only [List.map_toArray, List.map_cons, List.map_nil]); first | done | rfl | (simp only [List.length_drop, List.length_take]; rfl)) ?_; (with_reducible refine (tallymanref1_Get.calls k _ _ l0 t232 t233 t234 _ ?side1 ?side2 A3.out).mono ?_); (case side1 => repeat (first | exact HR0.out | (with_reducible refine Kd.C_alloc ?_ _) | (with_reducible refine Kd.C_drewN ?_ _) | (with_reducible refine Kd.C_drew ?_))); (case side2 => exact HC0.out); rintro e w' ⟨rfl, ⟨nd, rfl⟩⟩; refine ⟨_, rfl, ?_⟩))
    (try simp only [Act.put, List.setIfInBounds_toArray, List.set_cons_zero, List.set_cons_succ])
    go_cut [26] (fun v26 wc => ∃ (kq : Nat) (x26_4 : Bool), v26 = .bool x26_4 ∧ Aside0 (tallymanref1_GetBytes.j0 kq l0 t232 t233 x26_4 = some (r1, r2, r3)) ∧ Aside0 (kq ≤ k) ∧ Aside0 (Below w.heap.size w wc))
    case first =>
      have H := HC5.out
      clear HC5
      by_cases c6 : a1 < 0
      · rw [if_pos c6] at H
        have c6b0 : decide (a1 < 0) = true := decide_eq_true c6
        clear c6
        (first | rw [c6b0] | (simp only [i64_w, i32_w]; rw [c6b0]) | skip)
        have H' := Aside0.mk H
        clear H
        go_wp2
        go_meet
        case rel => exact ⟨_, (true), (by first | rfl | (simp; done) | (simp [*]; done)), H', ⟨by first | omega | exact Nat.le_refl _⟩, ⟨by repeat (first | (with_reducible first | exact HB.out | apply below_alloc | apply pw_below_drewN | apply below_drew1) | exact HB.out)⟩⟩
      · rw [if_neg c6] at H
        have c6b0 : decide (a1 < 0) = false := decide_eq_false c6
        clear c6
        (first | rw [c6b0] | (simp only [i64_w, i32_w]; rw [c6b0]) | skip)
        have H' := Aside0.mk H
        clear H
        go_wp2
        go_meet
        case rel => exact ⟨_, (decide (t232 > (IntKind.u64.wrap (a1)))), (by first | rfl | (simp; done) | (simp [*]; done)), H', ⟨by first | omega | exact Nat.le_refl _⟩, ⟨by repeat (first | (with_reducible first | exact HB.out | apply below_alloc | apply pw_below_drewN | apply below_drew1) | exact HB.out)⟩⟩
    case rest =>
      clear HC5
      try clear c2
      try clear p2
      try clear c4
      try clear c4b0
      try clear c4b1
      try clear c6
      try clear c6b0
      obtain ⟨kq, x26_4, rfl, HA, HJ4, HB⟩ := hcut
      cases kq with
      | zero => exact absurd HA.out (by simp [tallymanref1_GetBytes.j0])
      | succ kj4 =>
        have H := HA.out
        clear HA
        simp only [tallymanref1_GetBytes.j0] at H
        by_cases c7 : x26_4 = true
        · subst c7
          have H1 : (some (([] : List Int), 0, 2)) = some (r1, r2, r3) := by rw [if_pos rfl] at H; exact H
          clear H
          have H := H1
          clear H1
          simp only [Option.some.injEq, Prod.mk.injEq] at H
          obtain ⟨rfl, rfl, rfl⟩ := H
          go_wp2
          go_ret3
          exact ⟨_, by first | rfl | (simp [errW_none, errW_some] <;> rfl) | (simp [*, errW_none, errW_some] <;> rfl), by first | exact Kd.R_nil _ _ _ _ _ | exact Kd.N_nil _ _ _ _ _ | exact Kd.V_nil _ _ _ _ _ | exact Kd.Q_nil _ _ _ _ _ | exact Kd.S_nil _ _ _ _ _, by repeat (first | (with_reducible first | exact HB.out | apply below_alloc | apply pw_below_drewN | apply below_drew1) | exact HB.out)⟩
        · replace c7 := Bool.eq_false_iff.mpr c7
          subst c7
          have H1 : (if (IntKind.u64.wrap (wrap64 ((l0.length : Int) - t233))) < t232 then (some (([] : List Int), 0, 3)) else ((some (([] : List Int) : List Int)).bind fun y235 => (if 0 ≤ t233 then (if t233 ≤ (wrap64 (t233 + (wrap64 (t232)))) then (if (wrap64 (t233 + (wrap64 (t232)))) ≤ (l0.length : Int) then (if y235.length + ((l0.take ((wrap64 (t233 + (wrap64 (t232)))) : Int).toNat).drop (t233 : Int).toNat).length < 140737488355328 then (some ((y235 ++ ((l0.take ((wrap64 (t233 + (wrap64 (t232)))) : Int).toNat).drop (t233 : Int).toNat)), wrap64 (t233 + (wrap64 (t232))), 0)) else (none)) else (none)) else (none)) else (none)))) = some (r1, r2, r3) := by rw [if_neg (show ¬ (false = true) by decide)] at H; exact H
          clear H
          have H := H1
          clear H1
          by_cases c8 : (IntKind.u64.wrap (wrap64 ((l0.length : Int) - t233))) < t232
          · rw [if_pos c8] at H
            have c8b0 : decide ((IntKind.u64.wrap (wrap64 ((l0.length : Int) - t233))) < t232) = true := decide_eq_true c8
            clear c8
            simp only [Option.some.injEq, Prod.mk.injEq] at H
            obtain ⟨rfl, rfl, rfl⟩ := H
            go_wp2
            go_ret3
            exact ⟨_, by first | rfl | (simp [errW_none, errW_some] <;> rfl) | (simp [*, errW_none, errW_some] <;> rfl), by first | exact Kd.R_nil _ _ _ _ _ | exact Kd.N_nil _ _ _ _ _ | exact Kd.V_nil _ _ _ _ _ | exact Kd.Q_nil _ _ _ _ _ | exact Kd.S_nil _ _ _ _ _, by repeat (first | (with_reducible first | exact HB.out | apply below_alloc | apply pw_below_drewN | apply below_drew1) | exact HB.out)⟩
          · rw [if_neg c8] at H
            have c8b0 : decide ((IntKind.u64.wrap (wrap64 ((l0.length : Int) - t233))) < t232) = false := decide_eq_false c8
            clear c8
            obtain ⟨y235, hy235⟩ : ∃ y_ : List Int, y_ = (([] : List Int)) := ⟨_, rfl⟩
            replace H : (if 0 ≤ t233 then (if t233 ≤ (wrap64 (t233 + (wrap64 (t232)))) then (if (wrap64 (t233 + (wrap64 (t232)))) ≤ (l0.length : Int) then (if y235.length + ((l0.take ((wrap64 (t233 + (wrap64 (t232)))) : Int).toNat).drop (t233 : Int).toNat).length < 140737488355328 then (some ((y235 ++ ((l0.take ((wrap64 (t233 + (wrap64 (t232)))) : Int).toNat).drop (t233 : Int).toNat)), wrap64 (t233 + (wrap64 (t232))), 0)) else (none)) else (none)) else (none)) else (none)) = some (r1, r2, r3) := by first | (rw [hy235]; with_reducible exact H) | (have H2_ := (Option.bind_some _ _).symm.trans H; rw [hy235]; with_reducible exact H2_) | (have H2_ := (Option.bind_some _ _).symm.trans H; with_reducible exact H2_) | with_reducible exact H | (rw [hy235]; exact H) | exact H
            have Ny235 := Aside0.mk hy235
            clear hy235
            by_cases c9 : 0 ≤ t233
            · rw [if_pos c9] at H
              have c9b0 := eq_true c9
              have c9b1 : decide (0 ≤ t233) = true := decide_eq_true c9
              clear c9
              by_cases c10 : t233 ≤ (wrap64 (t233 + (wrap64 (t232))))
              · rw [if_pos c10] at H
                have c10b0 := eq_true c10
                have c10b1 : decide (t233 ≤ (wrap64 (t233 + (wrap64 (t232))))) = true := decide_eq_true c10
                by_cases c11 : (wrap64 (t233 + (wrap64 (t232)))) ≤ (l0.length : Int)
                · rw [if_pos c11] at H
                  have c11b0 := eq_true c11
                  have c11b1 : decide ((wrap64 (t233 + (wrap64 (t232)))) ≤ (l0.length : Int)) = true := decide_eq_true c11
                  by_cases c12 : y235.length + ((l0.take ((wrap64 (t233 + (wrap64 (t232)))) : Int).toNat).drop (t233 : Int).toNat).length < 140737488355328
                  · rw [if_pos c12] at H
                    have LMc12 := Aside0.mk c12
                    clear c12
                    obtain ⟨y239, hy239⟩ : ∃ y_ : List Int, y_ = (y235 ++ ((l0.take ((wrap64 (t233 + (wrap64 (t232)))) : Int).toNat).drop (t233 : Int).toNat)) := ⟨_, rfl⟩
                    replace H : (some (y239, wrap64 (t233 + (wrap64 (t232))), 0)) = some (r1, r2, r3) := by first | (rw [hy239]; with_reducible exact H) | (have H2_ := (Option.bind_some _ _).symm.trans H; rw [hy239]; with_reducible exact H2_) | (have H2_ := (Option.bind_some _ _).symm.trans H; with_reducible exact H2_) | with_reducible exact H | (rw [hy239]; exact H) | exact H
                    have Ny239 := Aside0.mk hy239
                    clear hy239
                    simp only [Option.some.injEq, Prod.mk.injEq] at H
                    obtain ⟨rfl, rfl, rfl⟩ := H
                    go_wp2_with (first | ((with_reducible refine gate_dst (N := 34) rfl ?_); refine Kd.R_lit (Kd.int .u8) _ 5 ?hg (N := 34) ?hd (xs := ([] : List Int)) (inner := []) (ok := fun _ => True) (okp := fun _ => True) ?hr ?hp (fun _ hk => hk) trivial (Below.refl _ _) (Nat.le_refl _) (by simp) ?_; (case hd => rfl); (case hg => rfl); (case hr => first | (go_simp; done) | (go_simp; rfl)); (case hp => exact (Reps.none _ _)); intro v236 w13 ho14 hb hg_ hnew_; clear hg_ hnew_; (first | rw [← Ny235.out] at ho14 | (simp only [Int.reduceToNat] at ho14; rw [← Ny235.out] at ho14)); have n0_ := Aside0.mk (Kd.R_lower ho14 (below_size (by repeat (first | (with_reducible first | exact HB.out | apply below_alloc | apply pw_below_drewN | apply below_drew1) | exact HB.out)))); have n1_ := Aside0.mk (below_step (by repeat (first | (with_reducible first | exact HB.out | apply below_alloc | apply pw_below_drewN | apply below_drew1) | exact HB.out)) hb); clear HB; have HO237 := n0_; have HB := n1_; clear n0_ n1_; clear hb ho14; obtain ⟨i015, hi015, _, hsz15, _⟩ := info_parts info5; obtain ⟨A15, hcut15, hA15, hC15⟩ := print_mid_of (P := Try.prog) (Value.int .u8) 0 24 5 .i64 .i64 Try.underlying24 hi015 hsz15 A0 c0 l0 t233 (wrap64 (t233 + (wrap64 (t232)))) (of_decide_eq_true (by first | (with_reducible assumption) | assumption)) (by first | omega | exact of_decide_eq_true (by first | (with_reducible assumption) | assumption)) (of_decide_eq_true (by first | (with_reducible assumption) | assumption)) HC0.out; have HR238 := Aside0.mk (Kd.C_of_reads (h1 := fun _ => rfl) (hA15 _ (Kd.reads_of_C HR0.out))); have HC238 := Aside0.mk hC15; clear hA15 hC15 hi015 hsz15) | ((with_reducible refine gate_builtin (b := .append) (xs := #[.tmp 34, .tmp 41]) rfl ?_); at_builtin; refine Kd.R_append_rows (Kd.int .u8) (w0 := w) w.heap.size rfl (.tmp 34) (.tmp 41) 24 5 (.int .u8 0) 1 rfl Try.underlying24 info5 rfl (by decide) (by omega) v236 y235 ((l0.take ((wrap64 (t233 + (wrap64 (t232)))) : Int).toNat).drop (t233 : Int).toNat) _ _ _ (fun _ => True) (fun _ => False) rfl rfl ?aO ?aR (fun _ _ h => h) (fun _ h => h.elim) ?aF ?aB ?aS ?aL ?_; (case aR => first | (rw [← show ((l0.take ((wrap64 (t233 + (wrap64 (t232)))) : Int).toNat).drop (t233 : Int).toNat).length = ((wrap64 (t233 + (wrap64 (t232)))).toNat - t233.toNat) from (by rw [List.length_drop, List.length_take]; have h_ : ((wrap64 (t233 + (wrap64 (t232)))) : Int) ≤ (l0.length : Int) := of_decide_eq_true (by first | (with_reducible assumption) | assumption); omega)]; repeat (first | exact (Kd.C_below HR238.out HB.out) | (with_reducible refine Kd.C_alloc ?_ _) | (with_reducible refine Kd.C_drewN ?_ _) | (with_reducible refine Kd.C_drew ?_))) | (repeat (first | exact (Kd.C_below HR238.out HB.out) | (with_reducible refine Kd.C_alloc ?_ _) | (with_reducible refine Kd.C_drewN ?_ _) | (with_reducible refine Kd.C_drew ?_)))); (case aB => exact (by repeat (first | (with_reducible first | exact HB.out | apply below_alloc | apply pw_below_drewN | apply below_drew1) | exact HB.out))); (case aF => exact (fun _ _ => trivial)); (case aO => exact (by (with_reducible repeat (first | apply Kd.R_alloc | apply Kd.R_drewN | apply Kd.R_drew)); exact HO237.out)); (case aS => exact (below_size (by repeat (first | (with_reducible first | exact HB.out | apply below_alloc | apply pw_below_drewN | apply below_drew1) | exact HB.out)))); (case aL => have := LMc12.out; have hlx_ := (show ((l0.take ((wrap64 (t233 + (wrap64 (t232)))) : Int).toNat).drop (t233 : Int).toNat).length = ((wrap64 (t233 + (wrap64 (t232)))).toNat - t233.toNat) from (by rw [List.length_drop, List.length_take]; have h_ : ((wrap64 (t233 + (wrap64 (t232)))) : Int) ≤ (l0.length : Int) := of_decide_eq_true (by first | (with_reducible assumption) | assumption); omega)); omega); intro v240 w16 ho hb hg hat; rw [← Ny239.out] at ho; have n0_ := Aside0.mk (hb); have n1_ := Aside0.mk (ho); clear HB; clear HO237; have HB := n0_; have HO241 := n1_; clear n0_ n1_; clear ho hb hg hat))
                    go_ret3
                    exact ⟨_, by first | rfl | (simp [errW_none, errW_some] <;> rfl) | (simp [*, errW_none, errW_some] <;> rfl), by (with_reducible repeat (first | apply Kd.R_alloc | apply Kd.R_drewN | apply Kd.R_drew)); exact HO241.out, by repeat (first | (with_reducible first | exact HB.out | apply below_alloc | apply pw_below_drewN | apply below_drew1) | exact HB.out)⟩
                  · rw [if_neg c12] at H
                    exact absurd H (by simp)
                · rw [if_neg c11] at H
                  exact absurd H (by simp)
              · rw [if_neg c10] at H
                exact absurd H (by simp)
            · rw [if_neg c9] at H
              exact absurd H (by simp)
  · rw [if_neg c4] at H
    have c4b0 : (t234 == 0) = false := beq_eq_false_iff_ne.mpr c4
    have c4b1 : (t234 != 0) = true := bne_iff_ne.mpr c4
    simp only [Option.some.injEq, Prod.mk.injEq] at H
    obtain ⟨rfl, rfl, rfl⟩ := H
    go_enter Try.func29, Try.ntmps29
    go_wp2_with (first | ((with_reducible refine gate_callee (f := 28) rfl ?_); refine goesL_ (some 12) rfl rfl Try.func28 (by kernel_rfl) rfl #[.slice A0 l0.length c0] rfl (by (try simp only [List.map_toArray, List.map_cons, List.map_nil]); first | done | rfl | (simp only [List.length_drop, List.length_take]; rfl)) ?_; (with_reducible refine (tallymanref1_Get.calls k _ _ l0 t232 t233 t234 _ ?side1 ?side2 A3.out).mono ?_); (case side1 => repeat (first | exact HR0.out | (with_reducible refine Kd.C_alloc ?_ _) | (with_reducible refine Kd.C_drewN ?_ _) | (with_reducible refine Kd.C_drew ?_))); (case side2 => exact HC0.out); rintro e w' ⟨rfl, ⟨nd, rfl⟩⟩; refine ⟨_, rfl, ?_⟩))
    go_ret3
    exact ⟨_, by first | rfl | (simp [errW_none, errW_some] <;> rfl) | (simp [*, errW_none, errW_some] <;> rfl), by first | exact Kd.R_nil _ _ _ _ _ | exact Kd.N_nil _ _ _ _ _ | exact Kd.V_nil _ _ _ _ _ | exact Kd.Q_nil _ _ _ _ _ | exact Kd.S_nil _ _ _ _ _, by repeat (first | (with_reducible first | exact HB.out | apply below_alloc | apply pw_below_drewN | apply below_drew1) | exact HB.out)⟩

end Go.Proofs.Ytlaojndlelcdaaa.P
