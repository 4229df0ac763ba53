/- Written by pp.py, a program of this session over the printer of the kit: what the functions of the program compute, and that they do so; of a law: its row, without a condition. -/
import Derived.Test.YtlaojndlelcdaaaPx0
import Derived.Test.YtlaojndlelcdaaaPx1
import Derived.Test.YtlaojndlelcdaaaPx2
import Derived.Test.YtlaojndlelcdaaaPx11
import Derived.Test.YtlaojndlelcdaaaPx14
namespace Go.Proofs.Ytlaojndlelcdaaa.P
open Go.RowKit Go.Proofs.YtlaojndlelcdaaaW.PrintWords Go.Proofs.YtlaojndlelcdaaaW.PrintLast Go.Proofs.YtlaojndlelcdaaaW.PrintMore
attribute [local go_sem] max2_int min2_int max_two min_two max_three min_three max_four min_four   -- for this text's walks alone
set_option linter.unusedVariables false
set_option linter.unusedSimpArgs false

/-! ### frame_Get: function 51 -/
def frame_Get.j0 : Nat → List Int → Bool → Option (Bool × Int × List Int × Int)
  | 0, _, _ => none
  | k + 1, x4, x33 => if x33 = true then (some (false, 0, ([] : List Int), 2)) else (if 1 ≤ (x4.length : Int) then ((num_Get.f k (x4.drop 1)).bind fun bt539 => (if 0 < (x4.length : Int) then (if 0 ≤ (wrap64 (1 + bt539.2.1)) then (if (wrap64 (1 + bt539.2.1)) ≤ (x4.length : Int) then ((bytes_Clone.f (x4.drop ((wrap64 (1 + bt539.2.1)) : Int).toNat)).bind fun t547 => (if bt539.2.2 = 0 then ((frame_Good.f ((rd x4 0) == 65) bt539.1 t547).bind fun t551 => (if t551 = true then (some (((rd x4 0) == 65), bt539.1, t547, 0)) else (some (false, 0, ([] : List Int), 2)))) else (some (false, 0, ([] : List Int), 2)))) else (none)) else (none)) else (none))) else (none))
def frame_Get.f (k : Nat) (l0 : List Int) : Option (Bool × Int × List Int × Int) := (poly_Open.f k l0).bind fun bt529 => (if bt529.2 = true then (if (bt529.1.length : Int) = 0 then (frame_Get.j0 k bt529.1 true) else (if 0 < (bt529.1.length : Int) then (if (rd bt529.1 0) = 65 then (frame_Get.j0 k bt529.1 false) else (frame_Get.j0 k bt529.1 ((rd bt529.1 0) != 70))) else (none))) else (frame_Get.j0 k bt529.1 true))
theorem frame_Get.mono_l : ∀ k, (∀ y0 y1, LeO (frame_Get.j0 k y0 y1) (frame_Get.j0 (k + 1) y0 y1))
  | 0 => fun _ _ r h => by simp [frame_Get.j0] at h
  | k + 1 => by
    have ih0 := frame_Get.mono_l k
    · intro y0 y1
      unfold frame_Get.j0
      repeat' first
      | (with_reducible exact ih0 _ _)
      | (with_reducible exact num_Get.mono _ _)
      | (with_reducible exact poly_Open.mono _ _)
      | (with_reducible exact LeO.refl _)
      | (with_reducible exact LeO.none _)
      | (with_reducible refine LeO.ite ?_ ?_)
      | (with_reducible refine LeO.bind ?_ (fun _ => ?_))
      | exact ih0 _ _
      | exact num_Get.mono _ _
      | exact poly_Open.mono _ _
      | exact LeO.none _
      | refine LeO.ite ?_ ?_
      | refine LeO.bind ?_ (fun _ => ?_)
theorem frame_Get.mono : ∀ a0 k, LeO (frame_Get.f k a0) (frame_Get.f (k + 1) a0) := by
  intro a0 k
  have ih0 := frame_Get.mono_l k
  unfold frame_Get.f
  repeat' first
      | (with_reducible exact ih0 _ _)
      | (with_reducible exact num_Get.mono _ _)
      | (with_reducible exact poly_Open.mono _ _)
      | (with_reducible exact LeO.refl _)
      | (with_reducible exact LeO.none _)
      | (with_reducible refine LeO.ite ?_ ?_)
      | (with_reducible refine LeO.bind ?_ (fun _ => ?_))
      | exact ih0 _ _
      | exact num_Get.mono _ _
      | exact poly_Open.mono _ _
      | exact LeO.none _
      | refine LeO.ite ?_ ?_
      | refine LeO.bind ?_ (fun _ => ?_)
def frame_Get.T5 : Bool × List (List Nat × List Nat) := (true, [([], []), ([0], [0]), ([1], [1]), ([2], [2]), ([], []), ([], []), ([], []), ([6], [6]), ([5, 7], [5, 7]), ([8], [8]), ([3, 4, 9], [3, 4, 9]), ([], []), ([11, 10, 9, 0, 1, 2, 3, 4, 5, 6, 7, 8, 9, 10, 11], [10, 11])])
def frame_Get.B5 : List Nat := [0, 1, 3, 7, 0, 0, 0, 64, 224, 480, 1023, 0, 4095]
theorem frame_Get.tab5 : rtab .any (opsOf Try.f51 5) = frame_Get.T5 := by kernel_rfl
theorem frame_Get.bits5 : waitsOk frame_Get.T5.2 frame_Get.B5 = true := by kernel_rfl
set_option maxHeartbeats 8000000 in
set_option maxRecDepth 100000 in
theorem frame_Get.calls (k : Nat) (A0 : Option Addr) (c0 : Nat) (l0 : List Int) (r1 : Bool) (r2 : Int) (r3 : List Int) (r4 : Int) (w : World) (hr0 : Kd.C (Kd.int .u8) w A0 l0.length l0) (hc0 : l0.length ≤ c0) (h : frame_Get.f k l0 = some (r1, r2, r3, r4)) :
    Calls Try.prog 51 #[.slice A0 l0.length c0] w fun e w' => ∃ v2_ : Value, e = .returned (.tuple #[.agg #[.bool r1, .int .u64 r2, v2_], .int .i64 r4]) ∧ Kd.R (Kd.int .u8) 5 w' w.heap.size (fun _ => True) v2_ r3 ∧ Below w.heap.size w w' := by
  have hu69 := Try.underlying69
  have HR0 := Aside0.mk hr0
  have HC0 := Aside0.mk hc0
  clear hr0 hc0
  have HB := Aside0.mk (Below.refl w.heap.size w)
  have H : ((poly_Open.f k l0).bind fun bt529 => (if bt529.2 = true then (if (bt529.1.length : Int) = 0 then (frame_Get.j0 k bt529.1 true) else (if 0 < (bt529.1.length : Int) then (if (rd bt529.1 0) = 65 then (frame_Get.j0 k bt529.1 false) else (frame_Get.j0 k bt529.1 ((rd bt529.1 0) != 70))) else (none))) else (frame_Get.j0 k bt529.1 true))) = some (r1, r2, r3, r4) := h
  clear h
  replace H := Option.bind_eq_some_iff.mp H
  obtain ⟨⟨t529, t530⟩, A20, H⟩ := H
  replace H : (if t530 = true then (if (t529.length : Int) = 0 then (frame_Get.j0 k t529 true) else (if 0 < (t529.length : Int) then (if (rd t529 0) = 65 then (frame_Get.j0 k t529 false) else (frame_Get.j0 k t529 ((rd t529 0) != 70))) else (none))) else (frame_Get.j0 k t529 true)) = some (r1, r2, r3, r4) := H
  have A2 := Aside0.mk A20
  clear A20
  have HC3 := Aside0.mk H
  clear H
  go_enter Try.func51, Try.ntmps51
  go_upto_region 2 with (first | ((with_reducible refine gate_dst (N := 2) rfl ?_); (try (refine gate_guard (by rfl) ?_; dsimp only)); refine box_event ?hg (N := 2) ?hd (cs := #[.bool false, .int .u64 0, .slice none 0 0]) (t := 69) ?hr ?_; (case hd => rfl); (case hg => rfl); (case hr => first | (go_simp; done) | (go_simp; rfl)); intro gb528 hg w4 hbox hb; have n0_ := Aside0.mk (below_step (by repeat (first | (with_reducible first | exact HB.out | apply below_alloc | apply pw_below_drewN | apply below_drew1) | exact HB.out)) hb); have n1_ := Aside0.mk (hbox); have n2_ := Aside0.mk ((by rw [hg]; exact (below_size (by repeat (first | (with_reducible first | exact HB.out | apply below_alloc | apply pw_below_drewN | apply below_drew1) | exact HB.out))) : w.heap.size ≤ gb528)); have n3_ := Aside0.mk ((by rw [hg]; exact (below_size (by repeat (first | (with_reducible first | exact HB.out | apply below_alloc | apply pw_below_drewN | apply below_drew1) | exact HB.out))) : w.heap.size ≤ gb528)); clear HB; have HB := n0_; have BK528 := n1_; have GW528 := n2_; have GE528 := n3_; clear n0_ n1_ n2_ n3_; clear hb hbox hg) | ((with_reducible refine gate_callee (f := 37) rfl ?_); refine goesL_ (some 12) rfl rfl Try.func37 (by kernel_rfl) rfl #[.slice A0 l0.length c0] rfl (by (try simp only [List.map_toArray, List.map_cons, List.map_nil]); first | done | rfl | (simp only [List.length_drop, List.length_take]; rfl)) ?_; (with_reducible refine (poly_Open.calls k _ _ l0 t529 t530 _ ?side1 ?side2 A2.out).mono ?_); (case side1 => repeat (first | exact (Kd.C_below HR0.out HB.out) | (with_reducible refine Kd.C_alloc ?_ _) | (with_reducible refine Kd.C_drewN ?_ _) | (with_reducible refine Kd.C_drew ?_))); (case side2 => exact HC0.out); rintro e w5 ⟨v531, rfl, ho0, hb⟩; refine ⟨_, rfl, ?_⟩; have n0_ := Aside0.mk (Kd.R_lower ho0 (below_size (by repeat (first | (with_reducible first | exact HB.out | apply below_alloc | apply pw_below_drewN | apply below_drew1 | refine below_set ?_ GE528.out) | exact HB.out)))); have n1_ := Aside0.mk (blk_below (g := gb528) (o := .cells #[.bool false, .int .u64 0, .slice none 0 0] 69 (0, 0)) (by (with_reducible repeat (first | refine blk_drewN ?_ _ | refine blk_drew ?_ | refine blk_alloc ?_ _)); exact BK528.out) hb); have n2_ := Aside0.mk (below_step (by repeat (first | (with_reducible first | exact HB.out | apply below_alloc | apply pw_below_drewN | apply below_drew1 | refine below_set ?_ GE528.out) | exact HB.out)) hb); clear BK528; clear HB; have HO532 := n0_; have BK528 := n1_; have HB := n2_; clear n0_ n1_ n2_; (try clear hb); (try clear hb2); (try clear hk); (try clear hi); (try clear ho0)))
  (try simp only [Act.put, List.setIfInBounds_toArray, List.set_cons_zero, List.set_cons_succ])
  go_cut [33] (fun v33 wc => ∃ (kq : Nat) (x33_2 : Bool), v33 = .bool x33_2 ∧ Aside0 (frame_Get.j0 kq t529 x33_2 = some (r1, r2, r3, r4)) ∧ Aside0 (kq ≤ k) ∧ Aside0 (Kd.R (Kd.int .u8) 5 wc w.heap.size (fun _ => True) v531 t529) ∧ Aside0 (wc.heap[gb528]? = some (.cells #[.bool false, .int .u64 0, (.slice none 0 0)] 69 (0, 0))) ∧ Aside0 (Below w.heap.size w wc))
  case first =>
    have H := HC3.out
    clear HC3
    by_cases c6 : t530 = true
    · subst c6
      have H1 : (if (t529.length : Int) = 0 then (frame_Get.j0 k t529 true) else (if 0 < (t529.length : Int) then (if (rd t529 0) = 65 then (frame_Get.j0 k t529 false) else (frame_Get.j0 k t529 ((rd t529 0) != 70))) else (none))) = some (r1, r2, r3, r4) := by rw [if_pos rfl] at H; exact H
      clear H
      have H := H1
      clear H1
      by_cases c7 : (t529.length : Int) = 0
      · rw [if_pos c7] at H
        have c7b0 : ((t529.length : Int) == 0) = true := beq_iff_eq.mpr c7
        have c7b1 : ((t529.length : Int) != 0) = false := bne_eq_false_iff_eq.mpr c7
        clear c7
        (first | rw [c7b0] | (simp only [i64_w, i32_w]; rw [c7b0]) | skip)
        have H' := Aside0.mk H
        clear H
        obtain ⟨Ao8, co8, eo8⟩ := Kd.R_slice HO532.out
        subst eo8
        go_wp2
        go_meet
        case rel => exact ⟨_, (true), (by first | rfl | (simp; done) | (simp [*]; done)), H', ⟨by first | omega | exact Nat.le_refl _⟩, ⟨by (with_reducible repeat (first | apply Kd.R_alloc | apply Kd.R_drewN | apply Kd.R_drew)); exact HO532.out⟩, ⟨by (with_reducible repeat (first | refine blk_drewN ?_ _ | refine blk_drew ?_ | refine blk_alloc ?_ _)); exact BK528.out⟩, ⟨by repeat (first | (with_reducible first | exact HB.out | apply below_alloc | apply pw_below_drewN | apply below_drew1 | refine below_set ?_ GE528.out) | exact HB.out)⟩⟩
      · rw [if_neg c7] at H
        have c7b0 : ((t529.length : Int) == 0) = false := beq_eq_false_iff_ne.mpr c7
        have c7b1 : ((t529.length : Int) != 0) = true := bne_iff_ne.mpr c7
        have c7b2 : ¬ (t529 = []) := fun h_ => c7 (by rw [h_]; rfl)
        (first | rw [c7b0] | (simp only [i64_w, i32_w]; rw [c7b0]) | skip)
        by_cases c9 : 0 < (t529.length : Int)
        · rw [if_pos c9] at H
          have c9b0 : decide (0 < (t529.length : Int)) = true := decide_eq_true c9
          have c9b1 : decide (0 < t529.length) = true := decide_eq_true (by omega)
          clear c9
          by_cases c10 : (rd t529 0) = 65
          · rw [if_pos c10] at H
            have c10b0 : ((rd t529 0) == 65) = true := beq_iff_eq.mpr c10
            have c10b1 : ((rd t529 0) != 65) = false := bne_eq_false_iff_eq.mpr c10
            clear c10
            have H' := Aside0.mk H
            clear H
            obtain ⟨Ao11, co11, eo11⟩ := Kd.R_slice HO532.out
            subst eo11
            have p533 : 0 ≤ (0 : Int) := (by omega)
            have q533 : 0 < (t529.length : Int) := of_decide_eq_true (by first | (with_reducible assumption) | assumption)
            obtain ⟨ad533, e533, hx533_0⟩ := Kd.at_int (Kd.R_reads' HO532.out).2.2 0 p533 q533
            cases e533
            have qi533 : (0 < t529.length) = True := eq_true (by omega)
            (try rw [show ((0 : Int)).toNat = 0 from rfl] at hx533_0)
            (try rw [Addr.add_zero'] at hx533_0)
            replace p533 := eq_true p533
            replace q533 := eq_true q533
            go_wp2
            go_meet
            case rel => exact ⟨_, (false), (by first | rfl | (simp; done) | (simp [*]; done)), H', ⟨by first | omega | exact Nat.le_refl _⟩, ⟨by (with_reducible repeat (first | apply Kd.R_alloc | apply Kd.R_drewN | apply Kd.R_drew)); exact HO532.out⟩, ⟨by (with_reducible repeat (first | refine blk_drewN ?_ _ | refine blk_drew ?_ | refine blk_alloc ?_ _)); exact BK528.out⟩, ⟨by repeat (first | (with_reducible first | exact HB.out | apply below_alloc | apply pw_below_drewN | apply below_drew1 | refine below_set ?_ GE528.out) | exact HB.out)⟩⟩
          · rw [if_neg c10] at H
            have c10b0 : ((rd t529 0) == 65) = false := beq_eq_false_iff_ne.mpr c10
            have c10b1 : ((rd t529 0) != 65) = true := bne_iff_ne.mpr c10
            have H' := Aside0.mk H
            clear H
            obtain ⟨Ao12, co12, eo12⟩ := Kd.R_slice HO532.out
            subst eo12
            have p533 : 0 ≤ (0 : Int) := (by omega)
            have q533 : 0 < (t529.length : Int) := of_decide_eq_true (by first | (with_reducible assumption) | assumption)
            obtain ⟨ad533, e533, hx533_0⟩ := Kd.at_int (Kd.R_reads' HO532.out).2.2 0 p533 q533
            cases e533
            have qi533 : (0 < t529.length) = True := eq_true (by omega)
            (try rw [show ((0 : Int)).toNat = 0 from rfl] at hx533_0)
            (try rw [Addr.add_zero'] at hx533_0)
            replace p533 := eq_true p533
            replace q533 := eq_true q533
            have p534 : 0 ≤ (0 : Int) := (by omega)
            have q534 : 0 < (t529.length : Int) := of_decide_eq_true (by first | (with_reducible assumption) | assumption)
            obtain ⟨ad534, e534, hx534_0⟩ := Kd.at_int (Kd.R_reads' HO532.out).2.2 0 p534 q534
            obtain rfl : ad533 = ad534 := (by injection e534)
            have qi534 : (0 < t529.length) = True := eq_true (by omega)
            (try rw [show ((0 : Int)).toNat = 0 from rfl] at hx534_0)
            (try rw [Addr.add_zero'] at hx534_0)
            replace p534 := eq_true p534
            replace q534 := eq_true q534
            go_wp2
            go_meet
            case rel => exact ⟨_, (((rd t529 0) != 70)), (by first | rfl | (simp; done) | (simp [*]; done)), H', ⟨by first | omega | exact Nat.le_refl _⟩, ⟨by (with_reducible repeat (first | apply Kd.R_alloc | apply Kd.R_drewN | apply Kd.R_drew)); exact HO532.out⟩, ⟨by (with_reducible repeat (first | refine blk_drewN ?_ _ | refine blk_drew ?_ | refine blk_alloc ?_ _)); exact BK528.out⟩, ⟨by repeat (first | (with_reducible first | exact HB.out | apply below_alloc | apply pw_below_drewN | apply below_drew1 | refine below_set ?_ GE528.out) | exact HB.out)⟩⟩
        · rw [if_neg c9] at H
          exact absurd H (by simp)
    · replace c6 := Bool.eq_false_iff.mpr c6
      subst c6
      have H1 : (frame_Get.j0 k t529 true) = some (r1, r2, r3, r4) := by rw [if_neg (show ¬ (false = true) by decide)] at H; exact H
      clear H
      have H := H1
      clear H1
      have H' := Aside0.mk H
      clear H
      go_wp2
      go_meet
      case rel => exact ⟨_, (true), (by first | rfl | (simp; done) | (simp [*]; done)), H', ⟨by first | omega | exact Nat.le_refl _⟩, ⟨by (with_reducible repeat (first | apply Kd.R_alloc | apply Kd.R_drewN | apply Kd.R_drew)); exact HO532.out⟩, ⟨by (with_reducible repeat (first | refine blk_drewN ?_ _ | refine blk_drew ?_ | refine blk_alloc ?_ _)); exact BK528.out⟩, ⟨by repeat (first | (with_reducible first | exact HB.out | apply below_alloc | apply pw_below_drewN | apply below_drew1 | refine below_set ?_ GE528.out) | exact HB.out)⟩⟩
  case rest =>
    clear HC3
    try clear c1
    try clear p2
    try clear c3
    try clear c5
    try clear p5
    try clear q5
    try clear hx5
    try clear qi5
    try clear c6
    try clear c7
    try clear c7b0
    try clear c7b1
    try clear c7b2
    try clear c9
    try clear c9b0
    try clear c9b1
    try clear c10
    try clear c10b0
    try clear c10b1
    try clear hx533_0
    try clear hx534_0
    try clear p533
    try clear p534
    try clear q533
    try clear q534
    obtain ⟨kq, x33_2, rfl, HA, HJ2, HO_4, BK528, HB⟩ := hcut
    cases kq with
    | zero => exact absurd HA.out (by simp [frame_Get.j0])
    | succ kj2 =>
      have H := HA.out
      clear HA
      simp only [frame_Get.j0] at H
      by_cases c13 : x33_2 = true
      · subst c13
        have H1 : (some (false, 0, ([] : List Int), 2)) = some (r1, r2, r3, r4) := by rw [if_pos rfl] at H; exact H
        clear H
        have H := H1
        clear H1
        simp only [Option.some.injEq, Prod.mk.injEq] at H
        obtain ⟨rfl, rfl, rfl, rfl⟩ := H
        have hcz14_0 : wc.cell? ⟨gb528, 0, none⟩ = some (.bool false) := (blk_cell BK528.out 0).trans rfl
        have hcz14_1 : wc.cell? ⟨gb528, 1, none⟩ = some (.int .u64 0) := (blk_cell BK528.out 1).trans rfl
        have hcz14_2 : wc.cell? ⟨gb528, 2, none⟩ = some (.slice none 0 0) := (blk_cell BK528.out 2).trans rfl
        have hfz14_0 := blk_frozen BK528.out 0
        have hfz14_1 := blk_frozen BK528.out 1
        have hfz14_2 := blk_frozen BK528.out 2
        go_wp2
        refine bodyPost_ret (results_ct rfl _ _ gb528 69 #[.bool false, .int .u64 0, .slice none 0 0] (0, 0) _ rfl (by (with_reducible repeat (first | refine blk_drewN ?_ _ | refine blk_drew ?_ | refine blk_alloc ?_ _)); refine blk_put (cs := #[.bool false, .int .u64 0, .slice none 0 0]) ?_ 2 _ rfl; (with_reducible repeat (first | refine blk_drewN ?_ _ | refine blk_drew ?_ | refine blk_alloc ?_ _)); refine blk_put (cs := #[.bool false, .int .u64 0, .slice none 0 0]) ?_ 1 _ rfl; (with_reducible repeat (first | refine blk_drewN ?_ _ | refine blk_drew ?_ | refine blk_alloc ?_ _)); refine blk_put (cs := #[.bool false, .int .u64 0, .slice none 0 0]) ?_ 0 _ rfl; (with_reducible repeat (first | refine blk_drewN ?_ _ | refine blk_drew ?_ | refine blk_alloc ?_ _)); exact BK528.out) Try.underlying69 rfl (by kernel_rfl)) rfl ?_
        exact ⟨_, by first | rfl | (simp [errW_none, errW_some] <;> rfl) | (simp [*, errW_none, errW_some] <;> rfl), by first | exact Kd.R_nil _ _ _ _ _ | exact Kd.N_nil _ _ _ _ _ | exact Kd.V_nil _ _ _ _ _ | exact Kd.Q_nil _ _ _ _ _ | exact Kd.S_nil _ _ _ _ _, by repeat (first | (with_reducible first | exact HB.out | apply below_alloc | apply pw_below_drewN | apply below_drew1 | refine below_set ?_ GE528.out) | exact HB.out)⟩
      · replace c13 := Bool.eq_false_iff.mpr c13
        subst c13
        have H1 : (if 1 ≤ (t529.length : Int) then ((num_Get.f kj2 (t529.drop 1)).bind fun bt539 => (if 0 < (t529.length : Int) then (if 0 ≤ (wrap64 (1 + bt539.2.1)) then (if (wrap64 (1 + bt539.2.1)) ≤ (t529.length : Int) then ((bytes_Clone.f (t529.drop ((wrap64 (1 + bt539.2.1)) : Int).toNat)).bind fun t547 => (if bt539.2.2 = 0 then ((frame_Good.f ((rd t529 0) == 65) bt539.1 t547).bind fun t551 => (if t551 = true then (some (((rd t529 0) == 65), bt539.1, t547, 0)) else (some (false, 0, ([] : List Int), 2)))) else (some (false, 0, ([] : List Int), 2)))) else (none)) else (none)) else (none))) else (none)) = some (r1, r2, r3, r4) := by rw [if_neg (show ¬ (false = true) by decide)] at H; exact H
        clear H
        have H := H1
        clear H1
        by_cases c15 : 1 ≤ (t529.length : Int)
        · rw [if_pos c15] at H
          have c15b0 := eq_true c15
          have c15b1 : decide (1 ≤ (t529.length : Int)) = true := decide_eq_true c15
          clear c15
          obtain ⟨y535, hy535⟩ : ∃ y_ : List Int, y_ = (t529.drop 1) := ⟨_, rfl⟩
          replace H : ((num_Get.f kj2 y535).bind fun bt539 => (if 0 < (t529.length : Int) then (if 0 ≤ (wrap64 (1 + bt539.2.1)) then (if (wrap64 (1 + bt539.2.1)) ≤ (t529.length : Int) then ((bytes_Clone.f (t529.drop ((wrap64 (1 + bt539.2.1)) : Int).toNat)).bind fun t547 => (if bt539.2.2 = 0 then ((frame_Good.f ((rd t529 0) == 65) bt539.1 t547).bind fun t551 => (if t551 = true then (some (((rd t529 0) == 65), bt539.1, t547, 0)) else (some (false, 0, ([] : List Int), 2)))) else (some (false, 0, ([] : List Int), 2)))) else (none)) else (none)) else (none))) = some (r1, r2, r3, r4) := by first | (rw [hy535]; with_reducible exact H) | (have H2_ := (Option.bind_some _ _).symm.trans H; rw [hy535]; with_reducible exact H2_) | (have H2_ := (Option.bind_some _ _).symm.trans H; with_reducible exact H2_) | with_reducible exact H | (rw [hy535]; exact H) | exact H
          have Ny535 := Aside0.mk hy535
          clear hy535
          replace H := Option.bind_eq_some_iff.mp H
          obtain ⟨⟨t539, t540, t541⟩, A160, H⟩ := H
          replace H : (if 0 < (t529.length : Int) then (if 0 ≤ (wrap64 (1 + t540)) then (if (wrap64 (1 + t540)) ≤ (t529.length : Int) then ((bytes_Clone.f (t529.drop ((wrap64 (1 + t540)) : Int).toNat)).bind fun t547 => (if t541 = 0 then ((frame_Good.f ((rd t529 0) == 65) t539 t547).bind fun t551 => (if t551 = true then (some (((rd t529 0) == 65), t539, t547, 0)) else (some (false, 0, ([] : List Int), 2)))) else (some (false, 0, ([] : List Int), 2)))) else (none)) else (none)) else (none)) = some (r1, r2, r3, r4) := H
          have A16 := Aside0.mk A160
          clear A160
          by_cases c17 : 0 < (t529.length : Int)
          · rw [if_pos c17] at H
            have c17b0 : decide (0 < (t529.length : Int)) = true := decide_eq_true c17
            have c17b1 : decide (0 < t529.length) = true := decide_eq_true (by omega)
            clear c17
            obtain ⟨ji18, hji18⟩ : ∃ j_ : Int, (wrap64 (1 + t540)) = j_ := ⟨_, rfl⟩
            replace H : (if 0 ≤ (ji18) then (if (ji18) ≤ (t529.length : Int) then ((bytes_Clone.f (t529.drop ((ji18) : Int).toNat)).bind fun t547 => (if t541 = 0 then ((frame_Good.f ((rd t529 0) == 65) t539 t547).bind fun t551 => (if t551 = true then (some (((rd t529 0) == 65), t539, t547, 0)) else (some (false, 0, ([] : List Int), 2)))) else (some (false, 0, ([] : List Int), 2)))) else (none)) else (none)) = some (r1, r2, r3, r4) := by first | (rw [hji18] at H; exact H) | (simp only [hji18] at H ⊢; exact H)
            (try rw [hji18] at A16)
            have hji18w : (IntKind.i64.wrap (1 + t540)) = ji18 := (i64_w _).trans hji18
            by_cases c19 : 0 ≤ (ji18)
            · rw [if_pos c19] at H
              have c19b0 := eq_true c19
              have c19b1 : decide (0 ≤ (ji18)) = true := decide_eq_true c19
              clear c19
              by_cases c20 : (ji18) ≤ (t529.length : Int)
              · rw [if_pos c20] at H
                have c20b0 := eq_true c20
                have c20b1 : decide ((ji18) ≤ (t529.length : Int)) = true := decide_eq_true c20
                clear c20
                obtain ⟨y543, hy543⟩ : ∃ y_ : List Int, y_ = (t529.drop ((ji18) : Int).toNat) := ⟨_, rfl⟩
                replace H : ((bytes_Clone.f y543).bind fun t547 => (if t541 = 0 then ((frame_Good.f ((rd t529 0) == 65) t539 t547).bind fun t551 => (if t551 = true then (some (((rd t529 0) == 65), t539, t547, 0)) else (some (false, 0, ([] : List Int), 2)))) else (some (false, 0, ([] : List Int), 2)))) = some (r1, r2, r3, r4) := by first | (rw [hy543]; with_reducible exact H) | (have H2_ := (Option.bind_some _ _).symm.trans H; rw [hy543]; with_reducible exact H2_) | (have H2_ := (Option.bind_some _ _).symm.trans H; with_reducible exact H2_) | with_reducible exact H | (rw [hy543]; exact H) | exact H
                have Ny543 := Aside0.mk hy543
                clear hy543
                replace H := Option.bind_eq_some_iff.mp H
                obtain ⟨t547, A210, H⟩ := H
                replace H : (if t541 = 0 then ((frame_Good.f ((rd t529 0) == 65) t539 t547).bind fun t551 => (if t551 = true then (some (((rd t529 0) == 65), t539, t547, 0)) else (some (false, 0, ([] : List Int), 2)))) else (some (false, 0, ([] : List Int), 2))) = some (r1, r2, r3, r4) := H
                have A21 := Aside0.mk A210
                clear A210
                by_cases c22 : t541 = 0
                · rw [if_pos c22] at H
                  have c22b0 : (t541 == 0) = true := beq_iff_eq.mpr c22
                  have c22b1 : (t541 != 0) = false := bne_eq_false_iff_eq.mpr c22
                  clear c22
                  replace H := Option.bind_eq_some_iff.mp H
                  obtain ⟨t551, A230, H⟩ := H
                  replace H : (if t551 = true then (some (((rd t529 0) == 65), t539, t547, 0)) else (some (false, 0, ([] : List Int), 2))) = some (r1, r2, r3, r4) := H
                  have A23 := Aside0.mk A230
                  clear A230
                  by_cases c24 : t551 = true
                  · subst c24
                    have H1 : (some (((rd t529 0) == 65), t539, t547, 0)) = some (r1, r2, r3, r4) := by rw [if_pos rfl] at H; exact H
                    clear H
                    have H := H1
                    clear H1
                    simp only [Option.some.injEq, Prod.mk.injEq] at H
                    obtain ⟨rfl, rfl, rfl, rfl⟩ := H
                    obtain ⟨Ao26, co26, eo26⟩ := Kd.R_slice HO_4.out
                    subst eo26
                    have q25 : (1 : Int) ≤ ((t529.length : Int) : Int) := of_decide_eq_true (by first | (with_reducible assumption) | assumption)
                    obtain ⟨i025, hi025, _, hsz25, _⟩ := info_parts info5
                    have hroom25 : t529.length ≤ co26 := (Kd.R_reads' HO_4.out).2.1
                    have hC25 : Kd.C (Kd.int .u8) _ Ao26 t529.length t529 := (Kd.R_reads' HO_4.out).2.2
                    have hcut25 := cut_from (P := Try.prog) 24 5 .i64 Try.underlying24 hi025 1 hsz25 Ao26 t529.length co26 1 (by omega) q25
                    have hr25 := Kd.C_drop (m := (1 : Int).toNat) (c := co26) hC25 (by omega) hroom25
                    obtain ⟨A25, hA25⟩ : ∃ A1, A1 = (if co26 = (1 : Int).toNat then Ao26 else (Ao26 : Option Addr).map (·.add ((1 : Int).toNat * 1))) := ⟨_, rfl⟩
                    obtain ⟨c25, hc25⟩ : ∃ c1, c1 = co26 - (1 : Int).toNat := ⟨_, rfl⟩
                    have hy25 : y535.length = t529.length - (1 : Int).toNat := (by rw [Ny535.out, List.length_drop] <;> omega)
                    rw [show (t529).drop (1 : Int).toNat = y535 from Ny535.out.symm] at hr25
                    replace hr25 : Kd.C (Kd.int .u8) _ A25 y535.length y535 := (by rw [hA25]; exact hr25)
                    rw [← hy25, ← hA25, ← hc25] at hcut25
                    have HR538 := Aside0.mk hr25
                    have HC538 := Aside0.mk (show y535.length ≤ c25 from by rw [hy25, hc25]; exact Nat.sub_le_sub_right hroom25 _)
                    clear hr25 hC25 hroom25 hi025 hsz25 hc25
                    have KY25 := Aside0.mk hy25
                    have KA25 := Aside0.mk hA25
                    clear hy25 hA25
                    have KL25 := Aside0.mk (show 1 ≤ t529.length from by omega)
                    replace q25 := eq_true q25
                    try go_wp2_with (first | ((with_reducible refine gate_callee (f := 24) rfl ?_); refine goesL_ (some 38) rfl rfl Try.func24 (by kernel_rfl) rfl #[.slice A25 y535.length c25] rfl (by (try simp only [List.map_toArray, List.map_cons, List.map_nil]); first | done | rfl | (simp only [List.length_drop, List.length_take]; rfl)) ?_; (with_reducible refine (num_Get.calls kj2 _ _ y535 t539 t540 t541 _ ?side1 ?side2 A16.out).mono ?_); (case side1 => repeat (first | exact (by repeat (first | (with_reducible exact HR538.out) | (with_reducible refine Kd.C_alloc ?_ _) | (with_reducible refine Kd.C_drewN ?_ _) | (with_reducible refine Kd.C_drew ?_) | exact HR538.out)) | (with_reducible refine Kd.C_alloc ?_ _) | (with_reducible refine Kd.C_drewN ?_ _) | (with_reducible refine Kd.C_drew ?_))); (case side2 => exact HC538.out); rintro e w' ⟨rfl, ⟨nd, rfl⟩⟩; refine ⟨_, rfl, ?_⟩; (try (rw [drewN_self wc]; generalize hq_ : World.drewN wc _ = wc; have n0_ : Aside0 (Kd.R (Kd.int .u8) 5 wc w.heap.size (fun _ => True) (.slice Ao26 t529.length co26) t529) := ⟨by rw [← hq_]; exact (by (with_reducible repeat (first | apply Kd.R_alloc | apply Kd.R_drewN | apply Kd.R_drew)); exact HO_4.out)⟩; have n1_ : Aside0 (wc.heap[gb528]? = some (.cells #[.bool false, .int .u64 0, .slice none 0 0] 69 (0, 0))) := ⟨by rw [← hq_]; exact (by (with_reducible repeat (first | refine blk_drewN ?_ _ | refine blk_drew ?_ | refine blk_alloc ?_ _)); exact BK528.out)⟩; have n2_ : Aside0 (Below w.heap.size w wc) := ⟨by rw [← hq_]; exact (by repeat (first | (with_reducible first | exact HB.out | apply below_alloc | apply pw_below_drewN | apply below_drew1 | refine below_set ?_ GE528.out) | exact HB.out))⟩; have n3_ : Aside0 (Kd.C (Kd.int .u8) wc A25 y535.length y535) := ⟨by rw [← hq_]; exact (by repeat (first | (with_reducible exact HR538.out) | (with_reducible refine Kd.C_alloc ?_ _) | (with_reducible refine Kd.C_drewN ?_ _) | (with_reducible refine Kd.C_drew ?_) | exact HR538.out))⟩; clear HO_4 BK528 HB HR538 hq_; have HO_4 := n0_; have BK528 := n1_; have HB := n2_; have HR538 := n3_; clear n0_ n1_ n2_ n3_))))
                    have n0_ := Aside0.mk (Kd.R_drew HO_4.out)
                    have n1_ := Aside0.mk (blk_drew BK528.out)
                    have n2_ := Aside0.mk (Kd.C_drew HR538.out)
                    have n3_ := Aside0.mk (below_drew1 HB.out)
                    clear HO_4
                    clear BK528
                    clear HR538
                    clear HB
                    have HO_4 := n0_
                    have BK528 := n1_
                    have HR538 := n2_
                    have HB := n3_
                    clear n0_ n1_ n2_ n3_
                    have p542 : 0 ≤ (0 : Int) := (by omega)
                    have q542 : 0 < (t529.length : Int) := of_decide_eq_true (by first | (with_reducible assumption) | assumption)
                    obtain ⟨ad542, e542, hx542_0⟩ := Kd.at_int (Kd.R_reads' HO_4.out).2.2 0 p542 q542
                    cases e542
                    have qi542 : (0 < t529.length) = True := eq_true (by omega)
                    (try rw [show ((0 : Int)).toNat = 0 from rfl] at hx542_0)
                    (try rw [Addr.add_zero'] at hx542_0)
                    replace p542 := eq_true p542
                    replace q542 := eq_true q542
                    have q28 : ((ji18) : Int) ≤ ((t529.length : Int) : Int) := of_decide_eq_true (by first | (with_reducible assumption) | assumption)
                    obtain ⟨i028, hi028, _, hsz28, _⟩ := info_parts info5
                    have hroom28 : t529.length ≤ co26 := (Kd.R_reads' HO_4.out).2.1
                    have hC28 : Kd.C (Kd.int .u8) _ (some ad542) t529.length t529 := (Kd.R_reads' HO_4.out).2.2
                    have q028 : (0 : Int) ≤ ((ji18) : Int) := of_decide_eq_true (by first | (with_reducible assumption) | assumption)
                    have hcut28 := cut_from (P := Try.prog) 24 5 .i64 Try.underlying24 hi028 1 hsz28 (some ad542) t529.length co26 (ji18) q028 q28
                    have hr28 := Kd.C_drop (m := ((ji18) : Int).toNat) (c := co26) hC28 (by omega) hroom28
                    obtain ⟨A28, hA28⟩ : ∃ A1, A1 = (if co26 = ((ji18) : Int).toNat then (some ad542) else ((some ad542) : Option Addr).map (·.add (((ji18) : Int).toNat * 1))) := ⟨_, rfl⟩
                    obtain ⟨c28, hc28⟩ : ∃ c1, c1 = co26 - ((ji18) : Int).toNat := ⟨_, rfl⟩
                    have hy28 : y543.length = t529.length - ((ji18) : Int).toNat := (by rw [Ny543.out, List.length_drop] <;> omega)
                    rw [show (t529).drop ((ji18) : Int).toNat = y543 from Ny543.out.symm] at hr28
                    replace hr28 : Kd.C (Kd.int .u8) _ A28 y543.length y543 := (by rw [hA28]; exact hr28)
                    rw [← hy28, ← hA28, ← hc28] at hcut28
                    have HR546 := Aside0.mk hr28
                    have HC546 := Aside0.mk (show y543.length ≤ c28 from by rw [hy28, hc28]; exact Nat.sub_le_sub_right hroom28 _)
                    clear hr28 hC28 hroom28 hi028 hsz28 hc28
                    have KY28 := Aside0.mk hy28
                    have KA28 := Aside0.mk hA28
                    clear hy28 hA28
                    have KL28 := Aside0.mk (show ((ji18) : Int).toNat ≤ t529.length from by omega)
                    replace q28 := eq_true q28
                    refine start_ (n := 13) (S := fun w' => w'.cell? ad542 = some (.int .u8 (rd t529 0))) (ds := []) #[false, false, false, false, false, false, false, false, false, false, false, false, false] (by kernel_rfl) rfl rfl (hx542_0) (fun hHeld => ?_); refine with_tabW frame_Get.tab5 frame_Get.bits5 (fun HT_ HW_ => ?_)
                    generalize wc.drew = w27 at HO_4 BK528 HR538 HB HR546 hx542_0 hHeld ⊢
                    refine pure_ (i := 0) (N := some 42) (v := ?_) (a' := ?_) #[true, false, false, false, false, false, false, false, false, false, false, false, false] rfl rfl (any_of HT_.out (by kernel_rfl)) (fun _ _ _ h => h) (Or.inl ⟨by rfl, ?_⟩) ?_ ?_
                    rotate_left
                    · intro w'
                      go_simp
                      with_reducible rfl
                    rotate_left
                    · simp only [Act.put, List.setIfInBounds_toArray, List.set_cons_zero, List.set_cons_succ, i64_w, i32_w]
                      rfl
                    refine pure_ (i := 1) (N := some 43) (v := ?_) (a' := ?_) #[true, true, false, false, false, false, false, false, false, false, false, false, false] rfl rfl (any_of HT_.out (by kernel_rfl)) (fun _ _ _ h => h) (Or.inl ⟨by rfl, ?_⟩) ?_ ?_
                    rotate_left
                    · intro w'
                      go_simp
                      with_reducible rfl
                    rotate_left
                    · simp only [Act.put, List.setIfInBounds_toArray, List.set_cons_zero, List.set_cons_succ, i64_w, i32_w]
                      rfl
                    refine pure_ (i := 4) (N := some 46) (v := ?_) (a' := ?_) #[true, true, false, false, true, false, false, false, false, false, false, false, false] rfl rfl (any_of HT_.out (by kernel_rfl)) (fun _ _ _ h => h) (Or.inl ⟨by rfl, ?_⟩) ?_ ?_
                    rotate_left
                    · intro w'
                      go_simp
                      with_reducible rfl
                    rotate_left
                    · simp only [Act.put, List.setIfInBounds_toArray, List.set_cons_zero, List.set_cons_succ, i64_w, i32_w]
                      rfl
                    refine pure_ (i := 5) (N := some 47) (v := ?_) (a' := ?_) #[true, true, false, false, true, true, false, false, false, false, false, false, false] rfl rfl (any_of HT_.out (by kernel_rfl)) (fun _ _ _ h => h) (Or.inl ⟨by rfl, ?_⟩) ?_ ?_
                    rotate_left
                    · intro w'
                      go_simp
                      with_reducible rfl
                    rotate_left
                    · simp only [Act.put, List.setIfInBounds_toArray, List.set_cons_zero, List.set_cons_succ, i64_w, i32_w]
                      rfl
                    refine pure_ (i := 6) (N := some 48) (v := ?_) (a' := ?_) #[true, true, false, false, true, true, true, false, false, false, false, false, false] rfl rfl (any_of HT_.out (by kernel_rfl)) (fun _ _ _ h => h) (Or.inl ⟨by rfl, ?_⟩) ?_ ?_
                    rotate_left
                    · intro w'
                      go_simp
                      with_reducible rfl
                    rotate_left
                    · simp only [Act.put, List.setIfInBounds_toArray, List.set_cons_zero, List.set_cons_succ, i64_w, i32_w]
                      rfl
                    refine pure_ (i := 7) (N := some 49) (v := ?_) (a' := ?_) #[true, true, false, false, true, true, true, true, false, false, false, false, false] rfl rfl (any_of HT_.out (by kernel_rfl)) (fun _ _ _ h => h) (Or.inl ⟨by rfl, ?_⟩) ?_ ?_
                    rotate_left
                    · intro w'
                      go_simp
                      with_reducible rfl
                    rotate_left
                    · simp only [Act.put, List.setIfInBounds_toArray, List.set_cons_zero, List.set_cons_succ, i64_w, i32_w]
                      rfl
                    refine pure_ (i := 8) (N := some 50) (v := ?_) (a' := ?_) #[true, true, false, false, true, true, true, true, true, false, false, false, false] rfl rfl (any_of HT_.out (by kernel_rfl)) (fun _ _ _ h => h) (Or.inl ⟨by rfl, ?_⟩) ?_ ?_
                    rotate_left
                    · intro w'
                      go_simp
                      with_reducible rfl
                    rotate_left
                    · simp only [Act.put, List.setIfInBounds_toArray, List.set_cons_zero, List.set_cons_succ, i64_w, i32_w]
                      rfl
                    refine take_ (i := 2) (N := some 44) (v := ?_) (a' := ?_) #[true, true, true, false, true, true, true, true, true, false, false, false, false] rfl rfl (take_ofW HT_.out HW_.out (by kernel_rfl)) (fun _ _ _ h => h) (Or.inl ⟨by rfl, ?_⟩) hHeld ?_ ?_
                    rotate_left
                    · intro w' s0
                      go_simp
                      with_reducible rfl
                    rotate_left
                    · simp only [Act.put, List.setIfInBounds_toArray, List.set_cons_zero, List.set_cons_succ, i64_w, i32_w]
                      rfl
                    refine pure_ (i := 3) (N := some 45) (v := ?_) (a' := ?_) #[true, true, true, true, true, true, true, true, true, false, false, false, false] rfl rfl (any_of HT_.out (by kernel_rfl)) (fun _ _ _ h => h) (Or.inl ⟨by rfl, ?_⟩) ?_ ?_
                    rotate_left
                    · intro w'
                      go_simp
                      with_reducible rfl
                    rotate_left
                    · simp only [Act.put, List.setIfInBounds_toArray, List.set_cons_zero, List.set_cons_succ, i64_w, i32_w]
                      rfl
                    refine join_ (σ := Value × Nat) 1 #[true, true, true, true, true, true, true, true, true, true, true, true, false] (fun s_ => [(51, s_.1), (9, .pointer (some ⟨s_.2, 0, none⟩)), (52, .agg #[.bool ((rd t529 0) == 65), .int .u64 t539, s_.1])]) (fun s_ w' => (w'.cell? ad542 = some (.int .u8 (rd t529 0))) ∧ (Kd.R (Kd.int .u8) 5 w' w.heap.size (fun k_ => some k_ ≠ (.slice (some ad542) t529.length co26 : Value).ownBlock) s_.1 t547) ∧ (Kd.R (Kd.int .u8) 5 w' w.heap.size (fun k_ => some k_ ≠ (s_.1 : Value).ownBlock) (.slice (some ad542) t529.length co26) t529) ∧ (w'.heap[gb528]? = some (.cells #[.bool false, .int .u64 0, .slice none 0 0] 69 (0, 0))) ∧ (w'.heap[s_.2]? = some (.cells #[.bool false, .int .u64 0, .slice none 0 0] 69 (0, 0))) ∧ (w.heap.size ≤ s_.2) ∧ (w.heap.size ≤ s_.2) ∧ (gb528 ≠ s_.2) ∧ (s_.2 ≠ gb528) ∧ (Below w.heap.size w w')) ?_ ?_
                    rotate_left
                    · intro hCont
                      refine two_ (i := 9) (j := 11) (Ni := some 51) (Nj := some 9) #[true, true, true, true, true, true, true, true, true, true, false, false, false] #[true, true, true, true, true, true, true, true, true, false, false, true, false] rfl rfl rfl rfl (two_of HT_.out (by kernel_rfl)) (by decide) (by decide) (fun K hK => ?_) (fun K hK => ?_)
                      · skip
                        refine goes_ Try.func68 (by kernel_rfl) rfl #[.slice A28 y543.length c28] (by rfl) rfl rfl (by (try simp only [List.map_toArray, List.map_cons, List.map_nil]); first | done | rfl | (simp only [List.length_drop, List.length_take]; rfl)) ?_
                        with_reducible refine (bytes_Clone.calls _ _ y543 t547 _ ?side1 ?side2 A21.out).mono ?_
                        (case side1 => repeat (first | exact (by repeat (first | (with_reducible exact HR546.out) | (with_reducible refine Kd.C_alloc ?_ _) | (with_reducible refine Kd.C_drewN ?_ _) | (with_reducible refine Kd.C_drew ?_) | exact HR546.out)) | (with_reducible refine Kd.C_alloc ?_ _) | (with_reducible refine Kd.C_drewN ?_ _) | (with_reducible refine Kd.C_drew ?_)))
                        (case side2 => exact HC546.out)
                        rintro e w29 ⟨v548, rfl, ho0, hb⟩
                        have HS0_ := (hb.cell (World.block_lt_of_cell? _ _ (hHeld))).trans (hHeld)
                        refine ⟨_, rfl, ?_⟩
                        have n0_ := Aside0.mk (Kd.R_elder' (by (with_reducible repeat (first | apply Kd.R_alloc | apply Kd.R_drewN | apply Kd.R_drew)); exact HO_4.out) (Kd.R_base ho0) hb)
                        have n1_ := Aside0.mk (Kd.R_lower (Kd.R_new' ho0 (Kd.R_lt (by (with_reducible repeat (first | apply Kd.R_alloc | apply Kd.R_drewN | apply Kd.R_drew)); exact HO_4.out))) (below_size (by repeat (first | (with_reducible first | exact HB.out | apply below_alloc | apply pw_below_drewN | apply below_drew1 | refine below_set ?_ GE528.out) | exact HB.out))))
                        have n2_ := Aside0.mk (blk_below (g := gb528) (o := .cells #[.bool false, .int .u64 0, .slice none 0 0] 69 (0, 0)) (by (with_reducible repeat (first | refine blk_drewN ?_ _ | refine blk_drew ?_ | refine blk_alloc ?_ _)); exact BK528.out) hb)
                        have n3_ := Aside0.mk (Kd.C_below (by repeat (first | (with_reducible exact HR538.out) | (with_reducible refine Kd.C_alloc ?_ _) | (with_reducible refine Kd.C_drewN ?_ _) | (with_reducible refine Kd.C_drew ?_) | exact HR538.out)) hb)
                        have n4_ := Aside0.mk (Kd.C_below (by repeat (first | (with_reducible exact HR546.out) | (with_reducible refine Kd.C_alloc ?_ _) | (with_reducible refine Kd.C_drewN ?_ _) | (with_reducible refine Kd.C_drew ?_) | exact HR546.out)) hb)
                        have n5_ := Aside0.mk (below_step (by repeat (first | (with_reducible first | exact HB.out | apply below_alloc | apply pw_below_drewN | apply below_drew1 | refine below_set ?_ GE528.out) | exact HB.out)) hb)
                        clear HO_4
                        clear BK528
                        clear HR538
                        clear HR546
                        clear HB
                        have HO_4 := n0_
                        have HO549 := n1_
                        have BK528 := n2_
                        have HR538 := n3_
                        have HR546 := n4_
                        have HB := n5_
                        clear n0_ n1_ n2_ n3_ n4_ n5_
                        (try clear hb)
                        (try clear hb2)
                        (try clear hk)
                        (try clear hi)
                        (try clear ho0)
                        obtain ⟨Ao30, co30, eo30⟩ := Kd.R_slice HO549.out
                        (first | subst eo30 | (injection eo30 with f1_ f2_ f3_; have f4_ := f1_.symm; have f5_ := f3_.symm; clear f1_ f2_ f3_; subst f4_; subst f5_))
                        refine hK.out _ _ (HS0_) (fun hHeld => ?_)
                        clear hK K
                        refine norm_ (a' := ?_) ?_ ?_
                        rotate_left
                        · show Act.put _ (some 51) _ = _
                          simp only [Act.put, List.setIfInBounds_toArray, List.set_cons_zero, List.set_cons_succ, i64_w, i32_w]
                          rfl
                        refine pure_ (i := 10) (N := some 52) (v := ?_) (a' := ?_) #[true, true, true, true, true, true, true, true, true, true, true, false, false] rfl rfl (any_of HT_.out (by kernel_rfl)) (fun _ _ _ h => h) (Or.inl ⟨by rfl, ?_⟩) ?_ ?_
                        rotate_left
                        · intro w'
                          go_simp
                          with_reducible rfl
                        rotate_left
                        · simp only [Act.put, List.setIfInBounds_toArray, List.set_cons_zero, List.set_cons_succ, i64_w, i32_w]
                          rfl
                        refine one_ (i := 11) (N := some 9) #[true, true, true, true, true, true, true, true, true, true, true, true, false] rfl rfl (one_of HT_.out (by kernel_rfl)) (by decide) (fun K hK => ?_)
                        refine box_step ?hg (N := 9) ?hd (cs := #[.bool false, .int .u64 0, .slice none 0 0]) (t := 69) ?hr ?_; (case hd => rfl); (case hg => rfl); (case hr => first | (go_simp; done) | (go_simp; rfl))
                        intro gb550 hg w31 hbox hb
                        have HS0_ := (hb.cell (World.block_lt_of_cell? _ _ (hHeld))).trans (hHeld)
                        have n0_ := Aside0.mk (Kd.R_below (by (with_reducible repeat (first | apply Kd.R_alloc | apply Kd.R_drewN | apply Kd.R_drew)); exact HO_4.out) hb)
                        have n1_ := Aside0.mk (Kd.R_below (by (with_reducible repeat (first | apply Kd.R_alloc | apply Kd.R_drewN | apply Kd.R_drew)); exact HO549.out) hb)
                        have n2_ := Aside0.mk (blk_below (g := gb528) (o := .cells #[.bool false, .int .u64 0, .slice none 0 0] 69 (0, 0)) (by (with_reducible repeat (first | refine blk_drewN ?_ _ | refine blk_drew ?_ | refine blk_alloc ?_ _)); exact BK528.out) hb)
                        have n3_ := Aside0.mk (Kd.C_below (by repeat (first | (with_reducible exact HR538.out) | (with_reducible refine Kd.C_alloc ?_ _) | (with_reducible refine Kd.C_drewN ?_ _) | (with_reducible refine Kd.C_drew ?_) | exact HR538.out)) hb)
                        have n4_ := Aside0.mk (Kd.C_below (by repeat (first | (with_reducible exact HR546.out) | (with_reducible refine Kd.C_alloc ?_ _) | (with_reducible refine Kd.C_drewN ?_ _) | (with_reducible refine Kd.C_drew ?_) | exact HR546.out)) hb)
                        have n5_ := Aside0.mk (below_step (by repeat (first | (with_reducible first | exact HB.out | apply below_alloc | apply pw_below_drewN | apply below_drew1 | refine below_set ?_ GE528.out) | exact HB.out)) hb)
                        have n6_ := Aside0.mk (hbox)
                        have n7_ := Aside0.mk ((by rw [hg]; exact (below_size (by repeat (first | (with_reducible first | exact HB.out | apply below_alloc | apply pw_below_drewN | apply below_drew1 | refine below_set ?_ GE528.out) | exact HB.out))) : w.heap.size ≤ gb550))
                        have n8_ := Aside0.mk ((by rw [hg]; exact (below_size (by repeat (first | (with_reducible first | exact HB.out | apply below_alloc | apply pw_below_drewN | apply below_drew1 | refine below_set ?_ GE528.out) | exact HB.out))) : w.heap.size ≤ gb550))
                        have n9_ := Aside0.mk ((by rw [hg]; exact Nat.ne_of_lt (blk_lt (g := gb528) (o := .cells #[.bool false, .int .u64 0, .slice none 0 0] 69 (0, 0)) (by (with_reducible repeat (first | refine blk_drewN ?_ _ | refine blk_drew ?_ | refine blk_alloc ?_ _)); exact BK528.out)) : gb528 ≠ gb550))
                        have n10_ := Aside0.mk ((by rw [hg]; exact Nat.ne_of_gt (blk_lt (g := gb528) (o := .cells #[.bool false, .int .u64 0, .slice none 0 0] 69 (0, 0)) (by (with_reducible repeat (first | refine blk_drewN ?_ _ | refine blk_drew ?_ | refine blk_alloc ?_ _)); exact BK528.out)) : gb550 ≠ gb528))
                        clear HO_4
                        clear HO549
                        clear BK528
                        clear HR538
                        clear HR546
                        clear HB
                        have HO_4 := n0_
                        have HO549 := n1_
                        have BK528 := n2_
                        have HR538 := n3_
                        have HR546 := n4_
                        have HB := n5_
                        have BK550 := n6_
                        have GW550 := n7_
                        have GE550 := n8_
                        have NB528_550 := n9_
                        have NB550_528 := n10_
                        clear n0_ n1_ n2_ n3_ n4_ n5_ n6_ n7_ n8_ n9_ n10_
                        clear hb hbox hg
                        refine hK.out _ _ (HS0_) (fun hHeld => ?_)
                        clear hK K
                        refine norm_ (a' := ?_) ?_ ?_
                        rotate_left
                        · show Act.put _ (some 9) _ = _
                          simp only [Act.put, List.setIfInBounds_toArray, List.set_cons_zero, List.set_cons_succ, i64_w, i32_w]
                          rfl
                        exact norm_ (by simp only [putAll, Act.put, List.setIfInBounds_toArray, List.set_cons_zero, List.set_cons_succ]) (hCont (.slice Ao30 t547.length co30, gb550) _ ⟨hHeld, (by (with_reducible repeat (first | apply Kd.R_alloc | apply Kd.R_drewN | apply Kd.R_drew)); exact Kd.R_mono HO549.out (fun _ hk => hk.2)), (by (with_reducible repeat (first | apply Kd.R_alloc | apply Kd.R_drewN | apply Kd.R_drew)); exact Kd.R_mono HO_4.out (fun _ hk => hk.2)), (by (with_reducible repeat (first | refine blk_drewN ?_ _ | refine blk_drew ?_ | refine blk_alloc ?_ _)); exact BK528.out), (by (with_reducible repeat (first | refine blk_drewN ?_ _ | refine blk_drew ?_ | refine blk_alloc ?_ _)); exact BK550.out), GW550.out, GE550.out, NB528_550.out, NB550_528.out, (by repeat (first | (with_reducible first | exact HB.out | apply below_alloc | apply pw_below_drewN | apply below_drew1 | refine below_set ?_ GE528.out | refine below_set ?_ GE550.out) | exact HB.out))⟩)
                      · skip
                        refine box_step ?hg (N := 9) ?hd (cs := #[.bool false, .int .u64 0, .slice none 0 0]) (t := 69) ?hr ?_; (case hd => rfl); (case hg => rfl); (case hr => first | (go_simp; done) | (go_simp; rfl))
                        intro gb550 hg w29 hbox hb
                        have HS0_ := (hb.cell (World.block_lt_of_cell? _ _ (hHeld))).trans (hHeld)
                        have n0_ := Aside0.mk (Kd.R_below (by (with_reducible repeat (first | apply Kd.R_alloc | apply Kd.R_drewN | apply Kd.R_drew)); exact HO_4.out) hb)
                        have n1_ := Aside0.mk (blk_below (g := gb528) (o := .cells #[.bool false, .int .u64 0, .slice none 0 0] 69 (0, 0)) (by (with_reducible repeat (first | refine blk_drewN ?_ _ | refine blk_drew ?_ | refine blk_alloc ?_ _)); exact BK528.out) hb)
                        have n2_ := Aside0.mk (Kd.C_below (by repeat (first | (with_reducible exact HR538.out) | (with_reducible refine Kd.C_alloc ?_ _) | (with_reducible refine Kd.C_drewN ?_ _) | (with_reducible refine Kd.C_drew ?_) | exact HR538.out)) hb)
                        have n3_ := Aside0.mk (Kd.C_below (by repeat (first | (with_reducible exact HR546.out) | (with_reducible refine Kd.C_alloc ?_ _) | (with_reducible refine Kd.C_drewN ?_ _) | (with_reducible refine Kd.C_drew ?_) | exact HR546.out)) hb)
                        have n4_ := Aside0.mk (below_step (by repeat (first | (with_reducible first | exact HB.out | apply below_alloc | apply pw_below_drewN | apply below_drew1 | refine below_set ?_ GE528.out) | exact HB.out)) hb)
                        have n5_ := Aside0.mk (hbox)
                        have n6_ := Aside0.mk ((by rw [hg]; exact (below_size (by repeat (first | (with_reducible first | exact HB.out | apply below_alloc | apply pw_below_drewN | apply below_drew1 | refine below_set ?_ GE528.out) | exact HB.out))) : w.heap.size ≤ gb550))
                        have n7_ := Aside0.mk ((by rw [hg]; exact (below_size (by repeat (first | (with_reducible first | exact HB.out | apply below_alloc | apply pw_below_drewN | apply below_drew1 | refine below_set ?_ GE528.out) | exact HB.out))) : w.heap.size ≤ gb550))
                        have n8_ := Aside0.mk ((by rw [hg]; exact Nat.ne_of_lt (blk_lt (g := gb528) (o := .cells #[.bool false, .int .u64 0, .slice none 0 0] 69 (0, 0)) (by (with_reducible repeat (first | refine blk_drewN ?_ _ | refine blk_drew ?_ | refine blk_alloc ?_ _)); exact BK528.out)) : gb528 ≠ gb550))
                        have n9_ := Aside0.mk ((by rw [hg]; exact Nat.ne_of_gt (blk_lt (g := gb528) (o := .cells #[.bool false, .int .u64 0, .slice none 0 0] 69 (0, 0)) (by (with_reducible repeat (first | refine blk_drewN ?_ _ | refine blk_drew ?_ | refine blk_alloc ?_ _)); exact BK528.out)) : gb550 ≠ gb528))
                        clear HO_4
                        clear BK528
                        clear HR538
                        clear HR546
                        clear HB
                        have HO_4 := n0_
                        have BK528 := n1_
                        have HR538 := n2_
                        have HR546 := n3_
                        have HB := n4_
                        have BK550 := n5_
                        have GW550 := n6_
                        have GE550 := n7_
                        have NB528_550 := n8_
                        have NB550_528 := n9_
                        clear n0_ n1_ n2_ n3_ n4_ n5_ n6_ n7_ n8_ n9_
                        clear hb hbox hg
                        refine hK.out _ _ (HS0_) (fun hHeld => ?_)
                        clear hK K
                        refine norm_ (a' := ?_) ?_ ?_
                        rotate_left
                        · show Act.put _ (some 9) _ = _
                          simp only [Act.put, List.setIfInBounds_toArray, List.set_cons_zero, List.set_cons_succ, i64_w, i32_w]
                          rfl
                        refine one_ (i := 9) (N := some 51) #[true, true, true, true, true, true, true, true, true, true, false, true, false] rfl rfl (one_of HT_.out (by kernel_rfl)) (by decide) (fun K hK => ?_)
                        refine goes_ Try.func68 (by kernel_rfl) rfl #[.slice A28 y543.length c28] (by rfl) rfl rfl (by (try simp only [List.map_toArray, List.map_cons, List.map_nil]); first | done | rfl | (simp only [List.length_drop, List.length_take]; rfl)) ?_
                        with_reducible refine (bytes_Clone.calls _ _ y543 t547 _ ?side1 ?side2 A21.out).mono ?_
                        (case side1 => repeat (first | exact (by repeat (first | (with_reducible exact HR546.out) | (with_reducible refine Kd.C_alloc ?_ _) | (with_reducible refine Kd.C_drewN ?_ _) | (with_reducible refine Kd.C_drew ?_) | exact HR546.out)) | (with_reducible refine Kd.C_alloc ?_ _) | (with_reducible refine Kd.C_drewN ?_ _) | (with_reducible refine Kd.C_drew ?_)))
                        (case side2 => exact HC546.out)
                        rintro e w30 ⟨v548, rfl, ho0, hb⟩
                        have HS0_ := (hb.cell (World.block_lt_of_cell? _ _ (hHeld))).trans (hHeld)
                        refine ⟨_, rfl, ?_⟩
                        have n0_ := Aside0.mk (Kd.R_elder' (by (with_reducible repeat (first | apply Kd.R_alloc | apply Kd.R_drewN | apply Kd.R_drew)); exact HO_4.out) (Kd.R_base ho0) hb)
                        have n1_ := Aside0.mk (Kd.R_lower (Kd.R_new' ho0 (Kd.R_lt (by (with_reducible repeat (first | apply Kd.R_alloc | apply Kd.R_drewN | apply Kd.R_drew)); exact HO_4.out))) (below_size (by repeat (first | (with_reducible first | exact HB.out | apply below_alloc | apply pw_below_drewN | apply below_drew1 | refine below_set ?_ GE528.out | refine below_set ?_ GE550.out) | exact HB.out))))
                        have n2_ := Aside0.mk (blk_below (g := gb528) (o := .cells #[.bool false, .int .u64 0, .slice none 0 0] 69 (0, 0)) (by (with_reducible repeat (first | refine blk_drewN ?_ _ | refine blk_drew ?_ | refine blk_alloc ?_ _)); exact BK528.out) hb)
                        have n3_ := Aside0.mk (Kd.C_below (by repeat (first | (with_reducible exact HR538.out) | (with_reducible refine Kd.C_alloc ?_ _) | (with_reducible refine Kd.C_drewN ?_ _) | (with_reducible refine Kd.C_drew ?_) | exact HR538.out)) hb)
                        have n4_ := Aside0.mk (Kd.C_below (by repeat (first | (with_reducible exact HR546.out) | (with_reducible refine Kd.C_alloc ?_ _) | (with_reducible refine Kd.C_drewN ?_ _) | (with_reducible refine Kd.C_drew ?_) | exact HR546.out)) hb)
                        have n5_ := Aside0.mk (blk_below (g := gb550) (o := .cells #[.bool false, .int .u64 0, .slice none 0 0] 69 (0, 0)) (by (with_reducible repeat (first | refine blk_drewN ?_ _ | refine blk_drew ?_ | refine blk_alloc ?_ _)); exact BK550.out) hb)
                        have n6_ := Aside0.mk (below_step (by repeat (first | (with_reducible first | exact HB.out | apply below_alloc | apply pw_below_drewN | apply below_drew1 | refine below_set ?_ GE528.out | refine below_set ?_ GE550.out) | exact HB.out)) hb)
                        clear HO_4
                        clear BK528
                        clear HR538
                        clear HR546
                        clear BK550
                        clear HB
                        have HO_4 := n0_
                        have HO549 := n1_
                        have BK528 := n2_
                        have HR538 := n3_
                        have HR546 := n4_
                        have BK550 := n5_
                        have HB := n6_
                        clear n0_ n1_ n2_ n3_ n4_ n5_ n6_
                        (try clear hb)
                        (try clear hb2)
                        (try clear hk)
                        (try clear hi)
                        (try clear ho0)
                        obtain ⟨Ao31, co31, eo31⟩ := Kd.R_slice HO549.out
                        (first | subst eo31 | (injection eo31 with f1_ f2_ f3_; have f4_ := f1_.symm; have f5_ := f3_.symm; clear f1_ f2_ f3_; subst f4_; subst f5_))
                        refine hK.out _ _ (HS0_) (fun hHeld => ?_)
                        clear hK K
                        refine norm_ (a' := ?_) ?_ ?_
                        rotate_left
                        · show Act.put _ (some 51) _ = _
                          simp only [Act.put, List.setIfInBounds_toArray, List.set_cons_zero, List.set_cons_succ, i64_w, i32_w]
                          rfl
                        refine pure_ (i := 10) (N := some 52) (v := ?_) (a' := ?_) #[true, true, true, true, true, true, true, true, true, true, true, true, false] rfl rfl (any_of HT_.out (by kernel_rfl)) (fun _ _ _ h => h) (Or.inl ⟨by rfl, ?_⟩) ?_ ?_
                        rotate_left
                        · intro w'
                          go_simp
                          with_reducible rfl
                        rotate_left
                        · simp only [Act.put, List.setIfInBounds_toArray, List.set_cons_zero, List.set_cons_succ, i64_w, i32_w]
                          rfl
                        exact norm_ (by simp only [putAll, Act.put, List.setIfInBounds_toArray, List.set_cons_zero, List.set_cons_succ]) (hCont (.slice Ao31 t547.length co31, gb550) _ ⟨hHeld, (by (with_reducible repeat (first | apply Kd.R_alloc | apply Kd.R_drewN | apply Kd.R_drew)); exact Kd.R_mono HO549.out (fun _ hk => hk.2)), (by (with_reducible repeat (first | apply Kd.R_alloc | apply Kd.R_drewN | apply Kd.R_drew)); exact Kd.R_mono HO_4.out (fun _ hk => hk.2)), (by (with_reducible repeat (first | refine blk_drewN ?_ _ | refine blk_drew ?_ | refine blk_alloc ?_ _)); exact BK528.out), (by (with_reducible repeat (first | refine blk_drewN ?_ _ | refine blk_drew ?_ | refine blk_alloc ?_ _)); exact BK550.out), GW550.out, GE550.out, NB528_550.out, NB550_528.out, (by repeat (first | (with_reducible first | exact HB.out | apply below_alloc | apply pw_below_drewN | apply below_drew1 | refine below_set ?_ GE528.out | refine below_set ?_ GE550.out) | exact HB.out))⟩)
                    rintro ⟨v548, gb550⟩ w32 ⟨hS_, h0_, h1_, h2_, h3_, h4_, h5_, h6_, h7_, h8_⟩
                    have n0_ : Aside0 (Kd.R (Kd.int .u8) 5 w32 w.heap.size (fun k_ => some k_ ≠ (.slice (some ad542) t529.length co26 : Value).ownBlock) v548 t547) := ⟨h0_⟩
                    have n1_ : Aside0 (Kd.R (Kd.int .u8) 5 w32 w.heap.size (fun k_ => some k_ ≠ (v548 : Value).ownBlock) (.slice (some ad542) t529.length co26) t529) := ⟨h1_⟩
                    have n2_ : Aside0 (w32.heap[gb528]? = some (.cells #[.bool false, .int .u64 0, .slice none 0 0] 69 (0, 0))) := ⟨h2_⟩
                    have n3_ : Aside0 (w32.heap[gb550]? = some (.cells #[.bool false, .int .u64 0, .slice none 0 0] 69 (0, 0))) := ⟨h3_⟩
                    have n4_ : Aside0 (w.heap.size ≤ gb550) := ⟨h4_⟩
                    have n5_ : Aside0 (w.heap.size ≤ gb550) := ⟨h5_⟩
                    have n6_ : Aside0 (gb528 ≠ gb550) := ⟨h6_⟩
                    have n7_ : Aside0 (gb550 ≠ gb528) := ⟨h7_⟩
                    have n8_ : Aside0 (Below w.heap.size w w32) := ⟨h8_⟩
                    clear HO_4
                    clear BK528
                    clear HR538
                    clear HB
                    clear h0_ h1_ h2_ h3_ h4_ h5_ h6_ h7_ h8_
                    have HO549 := n0_
                    have HO_4 := n1_
                    have BK528 := n2_
                    have BK550 := n3_
                    have GW550 := n4_
                    have GE550 := n5_
                    have NB528_550 := n6_
                    have NB550_528 := n7_
                    have HB := n8_
                    clear n0_ n1_ n2_ n3_ n4_ n5_ n6_ n7_ n8_
                    have hHeld : w32.cell? ad542 = some (.int .u8 (rd t529 0)) := hS_
                    obtain ⟨Ao33, co33, eo33⟩ := Kd.R_slice HO549.out
                    (first | subst eo33 | (injection eo33 with f1_ f2_ f3_; have f4_ := f1_.symm; have f5_ := f3_.symm; clear f1_ f2_ f3_; subst f4_; subst f5_))
                    refine norm_ (a' := ?_) ?_ ?_
                    rotate_left
                    · simp only [putAll, Act.put, List.setIfInBounds_toArray, List.set_cons_zero, List.set_cons_succ]
                      rfl
                    refine one_ (i := 12) (N := none) #[true, true, true, true, true, true, true, true, true, true, true, true, true] rfl rfl (one_of HT_.out (by kernel_rfl)) (by decide) (fun K hK => ?_)
                    have hs34 : w32.cell? ⟨gb550, 0, none⟩ = some (.bool false) := (blk_cell BK550.out 0).trans rfl
                    have hfs34 := blk_frozen BK550.out 0
                    have hns34_0 := NB528_550.out
                    have hms34_0 := NB550_528.out
                    have hs35 : w32.cell? ⟨gb550, 1, none⟩ = some (.int .u64 0) := (blk_cell BK550.out 1).trans rfl
                    have hfs35 := blk_frozen BK550.out 1
                    have hns35_0 := NB528_550.out
                    have hms35_0 := NB550_528.out
                    have hs36 : w32.cell? ⟨gb550, 2, none⟩ = some (.slice none 0 0) := (blk_cell BK550.out 2).trans rfl
                    have hfs36 := blk_frozen BK550.out 2
                    have hns36_0 := NB528_550.out
                    have hms36_0 := NB550_528.out
                    refine skip_ (w1 := ?_) (by rfl) rfl ?_ ?_
                    rotate_left
                    · go_simp
                      rfl
                    refine hK.out _ _ (((cell_far (p := ⟨gb550, _, none⟩) (by first | exact Kd.own_blk (Kd.R_ne HO_4.out BK550.out (by decide)) | (rw [add_block]; exact Kd.own_blk (Kd.R_ne HO_4.out BK550.out (by decide))) | (show (Addr.add _ _).block ≠ _; rw [add_block]; exact Kd.own_blk (Kd.R_ne HO_4.out BK550.out (by decide))) | (dsimp only; exact Kd.own_blk (Kd.R_ne HO_4.out BK550.out (by decide)))) _).trans (((cell_far (p := ⟨gb550, _, none⟩) (by first | exact Kd.own_blk (Kd.R_ne HO_4.out BK550.out (by decide)) | (rw [add_block]; exact Kd.own_blk (Kd.R_ne HO_4.out BK550.out (by decide))) | (show (Addr.add _ _).block ≠ _; rw [add_block]; exact Kd.own_blk (Kd.R_ne HO_4.out BK550.out (by decide))) | (dsimp only; exact Kd.own_blk (Kd.R_ne HO_4.out BK550.out (by decide)))) _).trans (((cell_far (p := ⟨gb550, _, none⟩) (by first | exact Kd.own_blk (Kd.R_ne HO_4.out BK550.out (by decide)) | (rw [add_block]; exact Kd.own_blk (Kd.R_ne HO_4.out BK550.out (by decide))) | (show (Addr.add _ _).block ≠ _; rw [add_block]; exact Kd.own_blk (Kd.R_ne HO_4.out BK550.out (by decide))) | (dsimp only; exact Kd.own_blk (Kd.R_ne HO_4.out BK550.out (by decide)))) _).trans (hHeld))))))) (fun hHeld => ?_)
                    clear hK K
                    refine done_ (done_of HT_.out (by kernel_rfl)) ?_
                    have hnb37 := NB550_528.out
                    have hnc37 := NB528_550.out
                    have hcz38_0 : w32.cell? ⟨gb550, 0, none⟩ = some (.bool false) := (blk_cell BK550.out 0).trans rfl
                    have hcz38_1 : w32.cell? ⟨gb550, 1, none⟩ = some (.int .u64 0) := (blk_cell BK550.out 1).trans rfl
                    have hcz38_2 : w32.cell? ⟨gb550, 2, none⟩ = some (.slice none 0 0) := (blk_cell BK550.out 2).trans rfl
                    have hfz38_0 := blk_frozen BK550.out 0
                    have hfz38_1 := blk_frozen BK550.out 1
                    have hfz38_2 := blk_frozen BK550.out 2
                    try go_wp2_with (first | (go_at_call 49; (with_reducible refine (frame_Good.calls ((rd t529 0) == 65) t539 _ _ t547 true _ ?side1 ?side2 A23.out).mono ?_); (case side1 => refine (Kd.R_reads' (e := 5) (base := w.heap.size) (ok := fun k_ => some k_ ≠ (.slice (some ad542) t529.length co26 : Value).ownBlock) (n := t547.length) (c := co33) ?_).2.2; exact (by (with_reducible repeat (first | apply Kd.R_alloc | apply Kd.R_drewN | apply Kd.R_drew)); exact (Kd.R_mono (Kd.R_far (p := ⟨gb550, 2, none⟩) (Kd.R_far (p := ⟨gb550, 1, none⟩) (Kd.R_far (p := ⟨gb550, 0, none⟩) (Kd.R_types HO549.out BK550.out (by decide)) (fun _ hk => hk.2) (.bool ((rd t529 0) == 65))) (fun _ hk => hk.2) (.int .u64 t539)) (fun _ hk => hk.2) (.slice Ao33 t547.length co33)) (fun _ h_ => h_.1)))); (case side2 => exact (Kd.R_reads' HO549.out).2.1); rintro e w39 ⟨rfl, hb⟩; have n0_ := Aside0.mk (Kd.R_below (by (with_reducible repeat (first | apply Kd.R_alloc | apply Kd.R_drewN | apply Kd.R_drew)); exact (Kd.R_mono (Kd.R_far (p := ⟨gb550, 2, none⟩) (Kd.R_far (p := ⟨gb550, 1, none⟩) (Kd.R_far (p := ⟨gb550, 0, none⟩) (Kd.R_types HO_4.out BK550.out (by decide)) (fun _ hk => hk.2) (.bool ((rd t529 0) == 65))) (fun _ hk => hk.2) (.int .u64 t539)) (fun _ hk => hk.2) (.slice Ao33 t547.length co33)) (fun _ h_ => h_.1))) hb); have n1_ := Aside0.mk (Kd.R_below (by (with_reducible repeat (first | apply Kd.R_alloc | apply Kd.R_drewN | apply Kd.R_drew)); exact (Kd.R_mono (Kd.R_far (p := ⟨gb550, 2, none⟩) (Kd.R_far (p := ⟨gb550, 1, none⟩) (Kd.R_far (p := ⟨gb550, 0, none⟩) (Kd.R_types HO549.out BK550.out (by decide)) (fun _ hk => hk.2) (.bool ((rd t529 0) == 65))) (fun _ hk => hk.2) (.int .u64 t539)) (fun _ hk => hk.2) (.slice Ao33 t547.length co33)) (fun _ h_ => h_.1))) hb); have n2_ := Aside0.mk (blk_below (g := gb528) (o := .cells #[.bool false, .int .u64 0, .slice none 0 0] 69 (0, 0)) (by (with_reducible repeat (first | refine blk_drewN ?_ _ | refine blk_drew ?_ | refine blk_alloc ?_ _)); refine blk_far ?_ NB528_550.out _; (with_reducible repeat (first | refine blk_drewN ?_ _ | refine blk_drew ?_ | refine blk_alloc ?_ _)); refine blk_far ?_ NB528_550.out _; (with_reducible repeat (first | refine blk_drewN ?_ _ | refine blk_drew ?_ | refine blk_alloc ?_ _)); refine blk_far ?_ NB528_550.out _; (with_reducible repeat (first | refine blk_drewN ?_ _ | refine blk_drew ?_ | refine blk_alloc ?_ _)); exact BK528.out) hb); have n3_ := Aside0.mk (blk_below (g := gb550) (o := .cells #[.bool ((rd t529 0) == 65), .int .u64 t539, .slice Ao33 t547.length co33] 69 (0, 0)) (by (with_reducible repeat (first | refine blk_drewN ?_ _ | refine blk_drew ?_ | refine blk_alloc ?_ _)); refine blk_put (cs := #[.bool ((rd t529 0) == 65), .int .u64 t539, .slice none 0 0]) ?_ 2 _ rfl; (with_reducible repeat (first | refine blk_drewN ?_ _ | refine blk_drew ?_ | refine blk_alloc ?_ _)); refine blk_put (cs := #[.bool ((rd t529 0) == 65), .int .u64 0, .slice none 0 0]) ?_ 1 _ rfl; (with_reducible repeat (first | refine blk_drewN ?_ _ | refine blk_drew ?_ | refine blk_alloc ?_ _)); refine blk_put (cs := #[.bool false, .int .u64 0, .slice none 0 0]) ?_ 0 _ rfl; (with_reducible repeat (first | refine blk_drewN ?_ _ | refine blk_drew ?_ | refine blk_alloc ?_ _)); exact BK550.out) hb); have n4_ := Aside0.mk (below_step (by repeat (first | (with_reducible first | exact HB.out | apply below_alloc | apply pw_below_drewN | apply below_drew1 | refine below_set ?_ GE528.out | refine below_set ?_ GE550.out) | exact HB.out)) hb); clear HO_4; clear HO549; clear BK528; clear BK550; clear HB; have HO_4 := n0_; have HO549 := n1_; have BK528 := n2_; have BK550 := n3_; have HB := n4_; clear n0_ n1_ n2_ n3_ n4_; (try clear hb); (try clear hb2); (try clear hk); (try clear hi); have hcz40_0 : w39.cell? ⟨gb550, 0, none⟩ = some (.bool ((rd t529 0) == 65)) := (blk_cell BK550.out 0).trans rfl; have hcz40_1 : w39.cell? ⟨gb550, 1, none⟩ = some (.int .u64 t539) := (blk_cell BK550.out 1).trans rfl; have hcz40_2 : w39.cell? ⟨gb550, 2, none⟩ = some (.slice Ao33 t547.length co33) := (blk_cell BK550.out 2).trans rfl; have hfz40_0 := blk_frozen BK550.out 0; have hfz40_1 := blk_frozen BK550.out 1; have hfz40_2 := blk_frozen BK550.out 2; have hcz41_0 : w39.cell? ⟨gb528, 0, none⟩ = some (.bool false) := (blk_cell BK528.out 0).trans rfl; have hcz41_1 : w39.cell? ⟨gb528, 1, none⟩ = some (.int .u64 0) := (blk_cell BK528.out 1).trans rfl; have hcz41_2 : w39.cell? ⟨gb528, 2, none⟩ = some (.slice none 0 0) := (blk_cell BK528.out 2).trans rfl; have hfz41_0 := blk_frozen BK528.out 0; have hfz41_1 := blk_frozen BK528.out 1; have hfz41_2 := blk_frozen BK528.out 2))
                    refine bodyPost_ret (results_ct rfl _ _ gb528 69 #[.bool ((rd t529 0) == 65), .int .u64 t539, .slice Ao33 t547.length co33] (0, 0) _ rfl (by (with_reducible repeat (first | refine blk_drewN ?_ _ | refine blk_drew ?_ | refine blk_alloc ?_ _)); refine blk_put (cs := #[.bool ((rd t529 0) == 65), .int .u64 t539, .slice none 0 0]) ?_ 2 _ rfl; (with_reducible repeat (first | refine blk_drewN ?_ _ | refine blk_drew ?_ | refine blk_alloc ?_ _)); refine blk_put (cs := #[.bool ((rd t529 0) == 65), .int .u64 0, .slice none 0 0]) ?_ 1 _ rfl; (with_reducible repeat (first | refine blk_drewN ?_ _ | refine blk_drew ?_ | refine blk_alloc ?_ _)); refine blk_put (cs := #[.bool false, .int .u64 0, .slice none 0 0]) ?_ 0 _ rfl; (with_reducible repeat (first | refine blk_drewN ?_ _ | refine blk_drew ?_ | refine blk_alloc ?_ _)); exact BK528.out) Try.underlying69 rfl (by kernel_rfl)) rfl ?_
                    exact ⟨_, by first | rfl | (simp [errW_none, errW_some] <;> rfl) | (simp only [← hji18]; first | rfl | (simp [errW_none, errW_some] <;> rfl)) | (simp [*, errW_none, errW_some] <;> rfl), by (with_reducible repeat (first | apply Kd.R_alloc | apply Kd.R_drewN | apply Kd.R_drew)); exact Kd.R_mono (Kd.R_far (p := ⟨gb528, 2, none⟩) (Kd.R_far (p := ⟨gb528, 1, none⟩) (Kd.R_far (p := ⟨gb528, 0, none⟩) (Kd.R_types HO549.out BK528.out (by decide)) (fun _ hk => hk.2) (.bool ((rd t529 0) == 65))) (fun _ hk => hk.2) (.int .u64 t539)) (fun _ hk => hk.2) (.slice Ao33 t547.length co33)) (fun _ hk => trivial), by repeat (first | (with_reducible first | exact HB.out | apply below_alloc | apply pw_below_drewN | apply below_drew1 | refine below_set ?_ GE528.out | refine below_set ?_ GE550.out) | exact HB.out)⟩
                  · replace c24 := Bool.eq_false_iff.mpr c24
                    subst c24
                    have H1 : (some (false, 0, ([] : List Int), 2)) = some (r1, r2, r3, r4) := by rw [if_neg (show ¬ (false = true) by decide)] at H; exact H
                    clear H
                    have H := H1
                    clear H1
                    simp only [Option.some.injEq, Prod.mk.injEq] at H
                    obtain ⟨rfl, rfl, rfl, rfl⟩ := H
                    obtain ⟨Ao43, co43, eo43⟩ := Kd.R_slice HO_4.out
                    subst eo43
                    have q42 : (1 : Int) ≤ ((t529.length : Int) : Int) := of_decide_eq_true (by first | (with_reducible assumption) | assumption)
                    obtain ⟨i042, hi042, _, hsz42, _⟩ := info_parts info5
                    have hroom42 : t529.length ≤ co43 := (Kd.R_reads' HO_4.out).2.1
                    have hC42 : Kd.C (Kd.int .u8) _ Ao43 t529.length t529 := (Kd.R_reads' HO_4.out).2.2
                    have hcut42 := cut_from (P := Try.prog) 24 5 .i64 Try.underlying24 hi042 1 hsz42 Ao43 t529.length co43 1 (by omega) q42
                    have hr42 := Kd.C_drop (m := (1 : Int).toNat) (c := co43) hC42 (by omega) hroom42
                    obtain ⟨A42, hA42⟩ : ∃ A1, A1 = (if co43 = (1 : Int).toNat then Ao43 else (Ao43 : Option Addr).map (·.add ((1 : Int).toNat * 1))) := ⟨_, rfl⟩
                    obtain ⟨c42, hc42⟩ : ∃ c1, c1 = co43 - (1 : Int).toNat := ⟨_, rfl⟩
                    have hy42 : y535.length = t529.length - (1 : Int).toNat := (by rw [Ny535.out, List.length_drop] <;> omega)
                    rw [show (t529).drop (1 : Int).toNat = y535 from Ny535.out.symm] at hr42
                    replace hr42 : Kd.C (Kd.int .u8) _ A42 y535.length y535 := (by rw [hA42]; exact hr42)
                    rw [← hy42, ← hA42, ← hc42] at hcut42
                    have HR538 := Aside0.mk hr42
                    have HC538 := Aside0.mk (show y535.length ≤ c42 from by rw [hy42, hc42]; exact Nat.sub_le_sub_right hroom42 _)
                    clear hr42 hC42 hroom42 hi042 hsz42 hc42
                    have KY42 := Aside0.mk hy42
                    have KA42 := Aside0.mk hA42
                    clear hy42 hA42
                    have KL42 := Aside0.mk (show 1 ≤ t529.length from by omega)
                    replace q42 := eq_true q42
                    try go_wp2_with (first | ((with_reducible refine gate_callee (f := 24) rfl ?_); refine goesL_ (some 38) rfl rfl Try.func24 (by kernel_rfl) rfl #[.slice A42 y535.length c42] rfl (by (try simp only [List.map_toArray, List.map_cons, List.map_nil]); first | done | rfl | (simp only [List.length_drop, List.length_take]; rfl)) ?_; (with_reducible refine (num_Get.calls kj2 _ _ y535 t539 t540 t541 _ ?side1 ?side2 A16.out).mono ?_); (case side1 => repeat (first | exact (by repeat (first | (with_reducible exact HR538.out) | (with_reducible refine Kd.C_alloc ?_ _) | (with_reducible refine Kd.C_drewN ?_ _) | (with_reducible refine Kd.C_drew ?_) | exact HR538.out)) | (with_reducible refine Kd.C_alloc ?_ _) | (with_reducible refine Kd.C_drewN ?_ _) | (with_reducible refine Kd.C_drew ?_))); (case side2 => exact HC538.out); rintro e w' ⟨rfl, ⟨nd, rfl⟩⟩; refine ⟨_, rfl, ?_⟩; (try (rw [drewN_self wc]; generalize hq_ : World.drewN wc _ = wc; have n0_ : Aside0 (Kd.R (Kd.int .u8) 5 wc w.heap.size (fun _ => True) (.slice Ao43 t529.length co43) t529) := ⟨by rw [← hq_]; exact (by (with_reducible repeat (first | apply Kd.R_alloc | apply Kd.R_drewN | apply Kd.R_drew)); exact HO_4.out)⟩; have n1_ : Aside0 (wc.heap[gb528]? = some (.cells #[.bool false, .int .u64 0, .slice none 0 0] 69 (0, 0))) := ⟨by rw [← hq_]; exact (by (with_reducible repeat (first | refine blk_drewN ?_ _ | refine blk_drew ?_ | refine blk_alloc ?_ _)); exact BK528.out)⟩; have n2_ : Aside0 (Below w.heap.size w wc) := ⟨by rw [← hq_]; exact (by repeat (first | (with_reducible first | exact HB.out | apply below_alloc | apply pw_below_drewN | apply below_drew1 | refine below_set ?_ GE528.out) | exact HB.out))⟩; have n3_ : Aside0 (Kd.C (Kd.int .u8) wc A42 y535.length y535) := ⟨by rw [← hq_]; exact (by repeat (first | (with_reducible exact HR538.out) | (with_reducible refine Kd.C_alloc ?_ _) | (with_reducible refine Kd.C_drewN ?_ _) | (with_reducible refine Kd.C_drew ?_) | exact HR538.out))⟩; clear HO_4 BK528 HB HR538 hq_; have HO_4 := n0_; have BK528 := n1_; have HB := n2_; have HR538 := n3_; clear n0_ n1_ n2_ n3_))))
                    have n0_ := Aside0.mk (Kd.R_drew HO_4.out)
                    have n1_ := Aside0.mk (blk_drew BK528.out)
                    have n2_ := Aside0.mk (Kd.C_drew HR538.out)
                    have n3_ := Aside0.mk (below_drew1 HB.out)
                    clear HO_4
                    clear BK528
                    clear HR538
                    clear HB
                    have HO_4 := n0_
                    have BK528 := n1_
                    have HR538 := n2_
                    have HB := n3_
                    clear n0_ n1_ n2_ n3_
                    have p542 : 0 ≤ (0 : Int) := (by omega)
                    have q542 : 0 < (t529.length : Int) := of_decide_eq_true (by first | (with_reducible assumption) | assumption)
                    obtain ⟨ad542, e542, hx542_0⟩ := Kd.at_int (Kd.R_reads' HO_4.out).2.2 0 p542 q542
                    cases e542
                    have qi542 : (0 < t529.length) = True := eq_true (by omega)
                    (try rw [show ((0 : Int)).toNat = 0 from rfl] at hx542_0)
                    (try rw [Addr.add_zero'] at hx542_0)
                    replace p542 := eq_true p542
                    replace q542 := eq_true q542
                    have q45 : ((ji18) : Int) ≤ ((t529.length : Int) : Int) := of_decide_eq_true (by first | (with_reducible assumption) | assumption)
                    obtain ⟨i045, hi045, _, hsz45, _⟩ := info_parts info5
                    have hroom45 : t529.length ≤ co43 := (Kd.R_reads' HO_4.out).2.1
                    have hC45 : Kd.C (Kd.int .u8) _ (some ad542) t529.length t529 := (Kd.R_reads' HO_4.out).2.2
                    have q045 : (0 : Int) ≤ ((ji18) : Int) := of_decide_eq_true (by first | (with_reducible assumption) | assumption)
                    have hcut45 := cut_from (P := Try.prog) 24 5 .i64 Try.underlying24 hi045 1 hsz45 (some ad542) t529.length co43 (ji18) q045 q45
                    have hr45 := Kd.C_drop (m := ((ji18) : Int).toNat) (c := co43) hC45 (by omega) hroom45
                    obtain ⟨A45, hA45⟩ : ∃ A1, A1 = (if co43 = ((ji18) : Int).toNat then (some ad542) else ((some ad542) : Option Addr).map (·.add (((ji18) : Int).toNat * 1))) := ⟨_, rfl⟩
                    obtain ⟨c45, hc45⟩ : ∃ c1, c1 = co43 - ((ji18) : Int).toNat := ⟨_, rfl⟩
                    have hy45 : y543.length = t529.length - ((ji18) : Int).toNat := (by rw [Ny543.out, List.length_drop] <;> omega)
                    rw [show (t529).drop ((ji18) : Int).toNat = y543 from Ny543.out.symm] at hr45
                    replace hr45 : Kd.C (Kd.int .u8) _ A45 y543.length y543 := (by rw [hA45]; exact hr45)
                    rw [← hy45, ← hA45, ← hc45] at hcut45
                    have HR546 := Aside0.mk hr45
                    have HC546 := Aside0.mk (show y543.length ≤ c45 from by rw [hy45, hc45]; exact Nat.sub_le_sub_right hroom45 _)
                    clear hr45 hC45 hroom45 hi045 hsz45 hc45
                    have KY45 := Aside0.mk hy45
                    have KA45 := Aside0.mk hA45
                    clear hy45 hA45
                    have KL45 := Aside0.mk (show ((ji18) : Int).toNat ≤ t529.length from by omega)
                    replace q45 := eq_true q45
                    refine start_ (n := 13) (S := fun w' => w'.cell? ad542 = some (.int .u8 (rd t529 0))) (ds := []) #[false, false, false, false, false, false, false, false, false, false, false, false, false] (by kernel_rfl) rfl rfl (hx542_0) (fun hHeld => ?_); refine with_tabW frame_Get.tab5 frame_Get.bits5 (fun HT_ HW_ => ?_)
                    generalize wc.drew = w44 at HO_4 BK528 HR538 HB HR546 hx542_0 hHeld ⊢
                    refine pure_ (i := 0) (N := some 42) (v := ?_) (a' := ?_) #[true, false, false, false, false, false, false, false, false, false, false, false, false] rfl rfl (any_of HT_.out (by kernel_rfl)) (fun _ _ _ h => h) (Or.inl ⟨by rfl, ?_⟩) ?_ ?_
                    rotate_left
                    · intro w'
                      go_simp
                      with_reducible rfl
                    rotate_left
                    · simp only [Act.put, List.setIfInBounds_toArray, List.set_cons_zero, List.set_cons_succ, i64_w, i32_w]
                      rfl
                    refine pure_ (i := 1) (N := some 43) (v := ?_) (a' := ?_) #[true, true, false, false, false, false, false, false, false, false, false, false, false] rfl rfl (any_of HT_.out (by kernel_rfl)) (fun _ _ _ h => h) (Or.inl ⟨by rfl, ?_⟩) ?_ ?_
                    rotate_left
                    · intro w'
                      go_simp
                      with_reducible rfl
                    rotate_left
                    · simp only [Act.put, List.setIfInBounds_toArray, List.set_cons_zero, List.set_cons_succ, i64_w, i32_w]
                      rfl
                    refine pure_ (i := 4) (N := some 46) (v := ?_) (a' := ?_) #[true, true, false, false, true, false, false, false, false, false, false, false, false] rfl rfl (any_of HT_.out (by kernel_rfl)) (fun _ _ _ h => h) (Or.inl ⟨by rfl, ?_⟩) ?_ ?_
                    rotate_left
                    · intro w'
                      go_simp
                      with_reducible rfl
                    rotate_left
                    · simp only [Act.put, List.setIfInBounds_toArray, List.set_cons_zero, List.set_cons_succ, i64_w, i32_w]
                      rfl
                    refine pure_ (i := 5) (N := some 47) (v := ?_) (a' := ?_) #[true, true, false, false, true, true, false, false, false, false, false, false, false] rfl rfl (any_of HT_.out (by kernel_rfl)) (fun _ _ _ h => h) (Or.inl ⟨by rfl, ?_⟩) ?_ ?_
                    rotate_left
                    · intro w'
                      go_simp
                      with_reducible rfl
                    rotate_left
                    · simp only [Act.put, List.setIfInBounds_toArray, List.set_cons_zero, List.set_cons_succ, i64_w, i32_w]
                      rfl
                    refine pure_ (i := 6) (N := some 48) (v := ?_) (a' := ?_) #[true, true, false, false, true, true, true, false, false, false, false, false, false] rfl rfl (any_of HT_.out (by kernel_rfl)) (fun _ _ _ h => h) (Or.inl ⟨by rfl, ?_⟩) ?_ ?_
                    rotate_left
                    · intro w'
                      go_simp
                      with_reducible rfl
                    rotate_left
                    · simp only [Act.put, List.setIfInBounds_toArray, List.set_cons_zero, List.set_cons_succ, i64_w, i32_w]
                      rfl
                    refine pure_ (i := 7) (N := some 49) (v := ?_) (a' := ?_) #[true, true, false, false, true, true, true, true, false, false, false, false, false] rfl rfl (any_of HT_.out (by kernel_rfl)) (fun _ _ _ h => h) (Or.inl ⟨by rfl, ?_⟩) ?_ ?_
                    rotate_left
                    · intro w'
                      go_simp
                      with_reducible rfl
                    rotate_left
                    · simp only [Act.put, List.setIfInBounds_toArray, List.set_cons_zero, List.set_cons_succ, i64_w, i32_w]
                      rfl
                    refine pure_ (i := 8) (N := some 50) (v := ?_) (a' := ?_) #[true, true, false, false, true, true, true, true, true, false, false, false, false] rfl rfl (any_of HT_.out (by kernel_rfl)) (fun _ _ _ h => h) (Or.inl ⟨by rfl, ?_⟩) ?_ ?_
                    rotate_left
                    · intro w'
                      go_simp
                      with_reducible rfl
                    rotate_left
                    · simp only [Act.put, List.setIfInBounds_toArray, List.set_cons_zero, List.set_cons_succ, i64_w, i32_w]
                      rfl
                    refine take_ (i := 2) (N := some 44) (v := ?_) (a' := ?_) #[true, true, true, false, true, true, true, true, true, false, false, false, false] rfl rfl (take_ofW HT_.out HW_.out (by kernel_rfl)) (fun _ _ _ h => h) (Or.inl ⟨by rfl, ?_⟩) hHeld ?_ ?_
                    rotate_left
                    · intro w' s0
                      go_simp
                      with_reducible rfl
                    rotate_left
                    · simp only [Act.put, List.setIfInBounds_toArray, List.set_cons_zero, List.set_cons_succ, i64_w, i32_w]
                      rfl
                    refine pure_ (i := 3) (N := some 45) (v := ?_) (a' := ?_) #[true, true, true, true, true, true, true, true, true, false, false, false, false] rfl rfl (any_of HT_.out (by kernel_rfl)) (fun _ _ _ h => h) (Or.inl ⟨by rfl, ?_⟩) ?_ ?_
                    rotate_left
                    · intro w'
                      go_simp
                      with_reducible rfl
                    rotate_left
                    · simp only [Act.put, List.setIfInBounds_toArray, List.set_cons_zero, List.set_cons_succ, i64_w, i32_w]
                      rfl
                    refine join_ (σ := Value × Nat) 1 #[true, true, true, true, true, true, true, true, true, true, true, true, false] (fun s_ => [(51, s_.1), (9, .pointer (some ⟨s_.2, 0, none⟩)), (52, .agg #[.bool ((rd t529 0) == 65), .int .u64 t539, s_.1])]) (fun s_ w' => (w'.cell? ad542 = some (.int .u8 (rd t529 0))) ∧ (Kd.R (Kd.int .u8) 5 w' w.heap.size (fun k_ => some k_ ≠ (.slice (some ad542) t529.length co43 : Value).ownBlock) s_.1 t547) ∧ (Kd.R (Kd.int .u8) 5 w' w.heap.size (fun k_ => some k_ ≠ (s_.1 : Value).ownBlock) (.slice (some ad542) t529.length co43) t529) ∧ (w'.heap[gb528]? = some (.cells #[.bool false, .int .u64 0, .slice none 0 0] 69 (0, 0))) ∧ (w'.heap[s_.2]? = some (.cells #[.bool false, .int .u64 0, .slice none 0 0] 69 (0, 0))) ∧ (w.heap.size ≤ s_.2) ∧ (w.heap.size ≤ s_.2) ∧ (gb528 ≠ s_.2) ∧ (s_.2 ≠ gb528) ∧ (Below w.heap.size w w')) ?_ ?_
                    rotate_left
                    · intro hCont
                      refine two_ (i := 9) (j := 11) (Ni := some 51) (Nj := some 9) #[true, true, true, true, true, true, true, true, true, true, false, false, false] #[true, true, true, true, true, true, true, true, true, false, false, true, false] rfl rfl rfl rfl (two_of HT_.out (by kernel_rfl)) (by decide) (by decide) (fun K hK => ?_) (fun K hK => ?_)
                      · skip
                        refine goes_ Try.func68 (by kernel_rfl) rfl #[.slice A45 y543.length c45] (by rfl) rfl rfl (by (try simp only [List.map_toArray, List.map_cons, List.map_nil]); first | done | rfl | (simp only [List.length_drop, List.length_take]; rfl)) ?_
                        with_reducible refine (bytes_Clone.calls _ _ y543 t547 _ ?side1 ?side2 A21.out).mono ?_
                        (case side1 => repeat (first | exact (by repeat (first | (with_reducible exact HR546.out) | (with_reducible refine Kd.C_alloc ?_ _) | (with_reducible refine Kd.C_drewN ?_ _) | (with_reducible refine Kd.C_drew ?_) | exact HR546.out)) | (with_reducible refine Kd.C_alloc ?_ _) | (with_reducible refine Kd.C_drewN ?_ _) | (with_reducible refine Kd.C_drew ?_)))
                        (case side2 => exact HC546.out)
                        rintro e w46 ⟨v548, rfl, ho0, hb⟩
                        have HS0_ := (hb.cell (World.block_lt_of_cell? _ _ (hHeld))).trans (hHeld)
                        refine ⟨_, rfl, ?_⟩
                        have n0_ := Aside0.mk (Kd.R_elder' (by (with_reducible repeat (first | apply Kd.R_alloc | apply Kd.R_drewN | apply Kd.R_drew)); exact HO_4.out) (Kd.R_base ho0) hb)
                        have n1_ := Aside0.mk (Kd.R_lower (Kd.R_new' ho0 (Kd.R_lt (by (with_reducible repeat (first | apply Kd.R_alloc | apply Kd.R_drewN | apply Kd.R_drew)); exact HO_4.out))) (below_size (by repeat (first | (with_reducible first | exact HB.out | apply below_alloc | apply pw_below_drewN | apply below_drew1 | refine below_set ?_ GE528.out) | exact HB.out))))
                        have n2_ := Aside0.mk (blk_below (g := gb528) (o := .cells #[.bool false, .int .u64 0, .slice none 0 0] 69 (0, 0)) (by (with_reducible repeat (first | refine blk_drewN ?_ _ | refine blk_drew ?_ | refine blk_alloc ?_ _)); exact BK528.out) hb)
                        have n3_ := Aside0.mk (Kd.C_below (by repeat (first | (with_reducible exact HR538.out) | (with_reducible refine Kd.C_alloc ?_ _) | (with_reducible refine Kd.C_drewN ?_ _) | (with_reducible refine Kd.C_drew ?_) | exact HR538.out)) hb)
                        have n4_ := Aside0.mk (Kd.C_below (by repeat (first | (with_reducible exact HR546.out) | (with_reducible refine Kd.C_alloc ?_ _) | (with_reducible refine Kd.C_drewN ?_ _) | (with_reducible refine Kd.C_drew ?_) | exact HR546.out)) hb)
                        have n5_ := Aside0.mk (below_step (by repeat (first | (with_reducible first | exact HB.out | apply below_alloc | apply pw_below_drewN | apply below_drew1 | refine below_set ?_ GE528.out) | exact HB.out)) hb)
                        clear HO_4
                        clear BK528
                        clear HR538
                        clear HR546
                        clear HB
                        have HO_4 := n0_
                        have HO549 := n1_
                        have BK528 := n2_
                        have HR538 := n3_
                        have HR546 := n4_
                        have HB := n5_
                        clear n0_ n1_ n2_ n3_ n4_ n5_
                        (try clear hb)
                        (try clear hb2)
                        (try clear hk)
                        (try clear hi)
                        (try clear ho0)
                        obtain ⟨Ao47, co47, eo47⟩ := Kd.R_slice HO549.out
                        (first | subst eo47 | (injection eo47 with f1_ f2_ f3_; have f4_ := f1_.symm; have f5_ := f3_.symm; clear f1_ f2_ f3_; subst f4_; subst f5_))
                        refine hK.out _ _ (HS0_) (fun hHeld => ?_)
                        clear hK K
                        refine norm_ (a' := ?_) ?_ ?_
                        rotate_left
                        · show Act.put _ (some 51) _ = _
                          simp only [Act.put, List.setIfInBounds_toArray, List.set_cons_zero, List.set_cons_succ, i64_w, i32_w]
                          rfl
                        refine pure_ (i := 10) (N := some 52) (v := ?_) (a' := ?_) #[true, true, true, true, true, true, true, true, true, true, true, false, false] rfl rfl (any_of HT_.out (by kernel_rfl)) (fun _ _ _ h => h) (Or.inl ⟨by rfl, ?_⟩) ?_ ?_
                        rotate_left
                        · intro w'
                          go_simp
                          with_reducible rfl
                        rotate_left
                        · simp only [Act.put, List.setIfInBounds_toArray, List.set_cons_zero, List.set_cons_succ, i64_w, i32_w]
                          rfl
                        refine one_ (i := 11) (N := some 9) #[true, true, true, true, true, true, true, true, true, true, true, true, false] rfl rfl (one_of HT_.out (by kernel_rfl)) (by decide) (fun K hK => ?_)
                        refine box_step ?hg (N := 9) ?hd (cs := #[.bool false, .int .u64 0, .slice none 0 0]) (t := 69) ?hr ?_; (case hd => rfl); (case hg => rfl); (case hr => first | (go_simp; done) | (go_simp; rfl))
                        intro gb550 hg w48 hbox hb
                        have HS0_ := (hb.cell (World.block_lt_of_cell? _ _ (hHeld))).trans (hHeld)
                        have n0_ := Aside0.mk (Kd.R_below (by (with_reducible repeat (first | apply Kd.R_alloc | apply Kd.R_drewN | apply Kd.R_drew)); exact HO_4.out) hb)
                        have n1_ := Aside0.mk (Kd.R_below (by (with_reducible repeat (first | apply Kd.R_alloc | apply Kd.R_drewN | apply Kd.R_drew)); exact HO549.out) hb)
                        have n2_ := Aside0.mk (blk_below (g := gb528) (o := .cells #[.bool false, .int .u64 0, .slice none 0 0] 69 (0, 0)) (by (with_reducible repeat (first | refine blk_drewN ?_ _ | refine blk_drew ?_ | refine blk_alloc ?_ _)); exact BK528.out) hb)
                        have n3_ := Aside0.mk (Kd.C_below (by repeat (first | (with_reducible exact HR538.out) | (with_reducible refine Kd.C_alloc ?_ _) | (with_reducible refine Kd.C_drewN ?_ _) | (with_reducible refine Kd.C_drew ?_) | exact HR538.out)) hb)
                        have n4_ := Aside0.mk (Kd.C_below (by repeat (first | (with_reducible exact HR546.out) | (with_reducible refine Kd.C_alloc ?_ _) | (with_reducible refine Kd.C_drewN ?_ _) | (with_reducible refine Kd.C_drew ?_) | exact HR546.out)) hb)
                        have n5_ := Aside0.mk (below_step (by repeat (first | (with_reducible first | exact HB.out | apply below_alloc | apply pw_below_drewN | apply below_drew1 | refine below_set ?_ GE528.out) | exact HB.out)) hb)
                        have n6_ := Aside0.mk (hbox)
                        have n7_ := Aside0.mk ((by rw [hg]; exact (below_size (by repeat (first | (with_reducible first | exact HB.out | apply below_alloc | apply pw_below_drewN | apply below_drew1 | refine below_set ?_ GE528.out) | exact HB.out))) : w.heap.size ≤ gb550))
                        have n8_ := Aside0.mk ((by rw [hg]; exact (below_size (by repeat (first | (with_reducible first | exact HB.out | apply below_alloc | apply pw_below_drewN | apply below_drew1 | refine below_set ?_ GE528.out) | exact HB.out))) : w.heap.size ≤ gb550))
                        have n9_ := Aside0.mk ((by rw [hg]; exact Nat.ne_of_lt (blk_lt (g := gb528) (o := .cells #[.bool false, .int .u64 0, .slice none 0 0] 69 (0, 0)) (by (with_reducible repeat (first | refine blk_drewN ?_ _ | refine blk_drew ?_ | refine blk_alloc ?_ _)); exact BK528.out)) : gb528 ≠ gb550))
                        have n10_ := Aside0.mk ((by rw [hg]; exact Nat.ne_of_gt (blk_lt (g := gb528) (o := .cells #[.bool false, .int .u64 0, .slice none 0 0] 69 (0, 0)) (by (with_reducible repeat (first | refine blk_drewN ?_ _ | refine blk_drew ?_ | refine blk_alloc ?_ _)); exact BK528.out)) : gb550 ≠ gb528))
                        clear HO_4
                        clear HO549
                        clear BK528
                        clear HR538
                        clear HR546
                        clear HB
                        have HO_4 := n0_
                        have HO549 := n1_
                        have BK528 := n2_
                        have HR538 := n3_
                        have HR546 := n4_
                        have HB := n5_
                        have BK550 := n6_
                        have GW550 := n7_
                        have GE550 := n8_
                        have NB528_550 := n9_
                        have NB550_528 := n10_
                        clear n0_ n1_ n2_ n3_ n4_ n5_ n6_ n7_ n8_ n9_ n10_
                        clear hb hbox hg
                        refine hK.out _ _ (HS0_) (fun hHeld => ?_)
                        clear hK K
                        refine norm_ (a' := ?_) ?_ ?_
                        rotate_left
                        · show Act.put _ (some 9) _ = _
                          simp only [Act.put, List.setIfInBounds_toArray, List.set_cons_zero, List.set_cons_succ, i64_w, i32_w]
                          rfl
                        exact norm_ (by simp only [putAll, Act.put, List.setIfInBounds_toArray, List.set_cons_zero, List.set_cons_succ]) (hCont (.slice Ao47 t547.length co47, gb550) _ ⟨hHeld, (by (with_reducible repeat (first | apply Kd.R_alloc | apply Kd.R_drewN | apply Kd.R_drew)); exact Kd.R_mono HO549.out (fun _ hk => hk.2)), (by (with_reducible repeat (first | apply Kd.R_alloc | apply Kd.R_drewN | apply Kd.R_drew)); exact Kd.R_mono HO_4.out (fun _ hk => hk.2)), (by (with_reducible repeat (first | refine blk_drewN ?_ _ | refine blk_drew ?_ | refine blk_alloc ?_ _)); exact BK528.out), (by (with_reducible repeat (first | refine blk_drewN ?_ _ | refine blk_drew ?_ | refine blk_alloc ?_ _)); exact BK550.out), GW550.out, GE550.out, NB528_550.out, NB550_528.out, (by repeat (first | (with_reducible first | exact HB.out | apply below_alloc | apply pw_below_drewN | apply below_drew1 | refine below_set ?_ GE528.out | refine below_set ?_ GE550.out) | exact HB.out))⟩)
                      · skip
                        refine box_step ?hg (N := 9) ?hd (cs := #[.bool false, .int .u64 0, .slice none 0 0]) (t := 69) ?hr ?_; (case hd => rfl); (case hg => rfl); (case hr => first | (go_simp; done) | (go_simp; rfl))
                        intro gb550 hg w46 hbox hb
                        have HS0_ := (hb.cell (World.block_lt_of_cell? _ _ (hHeld))).trans (hHeld)
                        have n0_ := Aside0.mk (Kd.R_below (by (with_reducible repeat (first | apply Kd.R_alloc | apply Kd.R_drewN | apply Kd.R_drew)); exact HO_4.out) hb)
                        have n1_ := Aside0.mk (blk_below (g := gb528) (o := .cells #[.bool false, .int .u64 0, .slice none 0 0] 69 (0, 0)) (by (with_reducible repeat (first | refine blk_drewN ?_ _ | refine blk_drew ?_ | refine blk_alloc ?_ _)); exact BK528.out) hb)
                        have n2_ := Aside0.mk (Kd.C_below (by repeat (first | (with_reducible exact HR538.out) | (with_reducible refine Kd.C_alloc ?_ _) | (with_reducible refine Kd.C_drewN ?_ _) | (with_reducible refine Kd.C_drew ?_) | exact HR538.out)) hb)
                        have n3_ := Aside0.mk (Kd.C_below (by repeat (first | (with_reducible exact HR546.out) | (with_reducible refine Kd.C_alloc ?_ _) | (with_reducible refine Kd.C_drewN ?_ _) | (with_reducible refine Kd.C_drew ?_) | exact HR546.out)) hb)
                        have n4_ := Aside0.mk (below_step (by repeat (first | (with_reducible first | exact HB.out | apply below_alloc | apply pw_below_drewN | apply below_drew1 | refine below_set ?_ GE528.out) | exact HB.out)) hb)
                        have n5_ := Aside0.mk (hbox)
                        have n6_ := Aside0.mk ((by rw [hg]; exact (below_size (by repeat (first | (with_reducible first | exact HB.out | apply below_alloc | apply pw_below_drewN | apply below_drew1 | refine below_set ?_ GE528.out) | exact HB.out))) : w.heap.size ≤ gb550))
                        have n7_ := Aside0.mk ((by rw [hg]; exact (below_size (by repeat (first | (with_reducible first | exact HB.out | apply below_alloc | apply pw_below_drewN | apply below_drew1 | refine below_set ?_ GE528.out) | exact HB.out))) : w.heap.size ≤ gb550))
                        have n8_ := Aside0.mk ((by rw [hg]; exact Nat.ne_of_lt (blk_lt (g := gb528) (o := .cells #[.bool false, .int .u64 0, .slice none 0 0] 69 (0, 0)) (by (with_reducible repeat (first | refine blk_drewN ?_ _ | refine blk_drew ?_ | refine blk_alloc ?_ _)); exact BK528.out)) : gb528 ≠ gb550))
                        have n9_ := Aside0.mk ((by rw [hg]; exact Nat.ne_of_gt (blk_lt (g := gb528) (o := .cells #[.bool false, .int .u64 0, .slice none 0 0] 69 (0, 0)) (by (with_reducible repeat (first | refine blk_drewN ?_ _ | refine blk_drew ?_ | refine blk_alloc ?_ _)); exact BK528.out)) : gb550 ≠ gb528))
                        clear HO_4
                        clear BK528
                        clear HR538
                        clear HR546
                        clear HB
                        have HO_4 := n0_
                        have BK528 := n1_
                        have HR538 := n2_
                        have HR546 := n3_
                        have HB := n4_
                        have BK550 := n5_
                        have GW550 := n6_
                        have GE550 := n7_
                        have NB528_550 := n8_
                        have NB550_528 := n9_
                        clear n0_ n1_ n2_ n3_ n4_ n5_ n6_ n7_ n8_ n9_
                        clear hb hbox hg
                        refine hK.out _ _ (HS0_) (fun hHeld => ?_)
                        clear hK K
                        refine norm_ (a' := ?_) ?_ ?_
                        rotate_left
                        · show Act.put _ (some 9) _ = _
                          simp only [Act.put, List.setIfInBounds_toArray, List.set_cons_zero, List.set_cons_succ, i64_w, i32_w]
                          rfl
                        refine one_ (i := 9) (N := some 51) #[true, true, true, true, true, true, true, true, true, true, false, true, false] rfl rfl (one_of HT_.out (by kernel_rfl)) (by decide) (fun K hK => ?_)
                        refine goes_ Try.func68 (by kernel_rfl) rfl #[.slice A45 y543.length c45] (by rfl) rfl rfl (by (try simp only [List.map_toArray, List.map_cons, List.map_nil]); first | done | rfl | (simp only [List.length_drop, List.length_take]; rfl)) ?_
                        with_reducible refine (bytes_Clone.calls _ _ y543 t547 _ ?side1 ?side2 A21.out).mono ?_
                        (case side1 => repeat (first | exact (by repeat (first | (with_reducible exact HR546.out) | (with_reducible refine Kd.C_alloc ?_ _) | (with_reducible refine Kd.C_drewN ?_ _) | (with_reducible refine Kd.C_drew ?_) | exact HR546.out)) | (with_reducible refine Kd.C_alloc ?_ _) | (with_reducible refine Kd.C_drewN ?_ _) | (with_reducible refine Kd.C_drew ?_)))
                        (case side2 => exact HC546.out)
                        rintro e w47 ⟨v548, rfl, ho0, hb⟩
                        have HS0_ := (hb.cell (World.block_lt_of_cell? _ _ (hHeld))).trans (hHeld)
                        refine ⟨_, rfl, ?_⟩
                        have n0_ := Aside0.mk (Kd.R_elder' (by (with_reducible repeat (first | apply Kd.R_alloc | apply Kd.R_drewN | apply Kd.R_drew)); exact HO_4.out) (Kd.R_base ho0) hb)
                        have n1_ := Aside0.mk (Kd.R_lower (Kd.R_new' ho0 (Kd.R_lt (by (with_reducible repeat (first | apply Kd.R_alloc | apply Kd.R_drewN | apply Kd.R_drew)); exact HO_4.out))) (below_size (by repeat (first | (with_reducible first | exact HB.out | apply below_alloc | apply pw_below_drewN | apply below_drew1 | refine below_set ?_ GE528.out | refine below_set ?_ GE550.out) | exact HB.out))))
                        have n2_ := Aside0.mk (blk_below (g := gb528) (o := .cells #[.bool false, .int .u64 0, .slice none 0 0] 69 (0, 0)) (by (with_reducible repeat (first | refine blk_drewN ?_ _ | refine blk_drew ?_ | refine blk_alloc ?_ _)); exact BK528.out) hb)
                        have n3_ := Aside0.mk (Kd.C_below (by repeat (first | (with_reducible exact HR538.out) | (with_reducible refine Kd.C_alloc ?_ _) | (with_reducible refine Kd.C_drewN ?_ _) | (with_reducible refine Kd.C_drew ?_) | exact HR538.out)) hb)
                        have n4_ := Aside0.mk (Kd.C_below (by repeat (first | (with_reducible exact HR546.out) | (with_reducible refine Kd.C_alloc ?_ _) | (with_reducible refine Kd.C_drewN ?_ _) | (with_reducible refine Kd.C_drew ?_) | exact HR546.out)) hb)
                        have n5_ := Aside0.mk (blk_below (g := gb550) (o := .cells #[.bool false, .int .u64 0, .slice none 0 0] 69 (0, 0)) (by (with_reducible repeat (first | refine blk_drewN ?_ _ | refine blk_drew ?_ | refine blk_alloc ?_ _)); exact BK550.out) hb)
                        have n6_ := Aside0.mk (below_step (by repeat (first | (with_reducible first | exact HB.out | apply below_alloc | apply pw_below_drewN | apply below_drew1 | refine below_set ?_ GE528.out | refine below_set ?_ GE550.out) | exact HB.out)) hb)
                        clear HO_4
                        clear BK528
                        clear HR538
                        clear HR546
                        clear BK550
                        clear HB
                        have HO_4 := n0_
                        have HO549 := n1_
                        have BK528 := n2_
                        have HR538 := n3_
                        have HR546 := n4_
                        have BK550 := n5_
                        have HB := n6_
                        clear n0_ n1_ n2_ n3_ n4_ n5_ n6_
                        (try clear hb)
                        (try clear hb2)
                        (try clear hk)
                        (try clear hi)
                        (try clear ho0)
                        obtain ⟨Ao48, co48, eo48⟩ := Kd.R_slice HO549.out
                        (first | subst eo48 | (injection eo48 with f1_ f2_ f3_; have f4_ := f1_.symm; have f5_ := f3_.symm; clear f1_ f2_ f3_; subst f4_; subst f5_))
                        refine hK.out _ _ (HS0_) (fun hHeld => ?_)
                        clear hK K
                        refine norm_ (a' := ?_) ?_ ?_
                        rotate_left
                        · show Act.put _ (some 51) _ = _
                          simp only [Act.put, List.setIfInBounds_toArray, List.set_cons_zero, List.set_cons_succ, i64_w, i32_w]
                          rfl
                        refine pure_ (i := 10) (N := some 52) (v := ?_) (a' := ?_) #[true, true, true, true, true, true, true, true, true, true, true, true, false] rfl rfl (any_of HT_.out (by kernel_rfl)) (fun _ _ _ h => h) (Or.inl ⟨by rfl, ?_⟩) ?_ ?_
                        rotate_left
                        · intro w'
                          go_simp
                          with_reducible rfl
                        rotate_left
                        · simp only [Act.put, List.setIfInBounds_toArray, List.set_cons_zero, List.set_cons_succ, i64_w, i32_w]
                          rfl
                        exact norm_ (by simp only [putAll, Act.put, List.setIfInBounds_toArray, List.set_cons_zero, List.set_cons_succ]) (hCont (.slice Ao48 t547.length co48, gb550) _ ⟨hHeld, (by (with_reducible repeat (first | apply Kd.R_alloc | apply Kd.R_drewN | apply Kd.R_drew)); exact Kd.R_mono HO549.out (fun _ hk => hk.2)), (by (with_reducible repeat (first | apply Kd.R_alloc | apply Kd.R_drewN | apply Kd.R_drew)); exact Kd.R_mono HO_4.out (fun _ hk => hk.2)), (by (with_reducible repeat (first | refine blk_drewN ?_ _ | refine blk_drew ?_ | refine blk_alloc ?_ _)); exact BK528.out), (by (with_reducible repeat (first | refine blk_drewN ?_ _ | refine blk_drew ?_ | refine blk_alloc ?_ _)); exact BK550.out), GW550.out, GE550.out, NB528_550.out, NB550_528.out, (by repeat (first | (with_reducible first | exact HB.out | apply below_alloc | apply pw_below_drewN | apply below_drew1 | refine below_set ?_ GE528.out | refine below_set ?_ GE550.out) | exact HB.out))⟩)
                    rintro ⟨v548, gb550⟩ w49 ⟨hS_, h0_, h1_, h2_, h3_, h4_, h5_, h6_, h7_, h8_⟩
                    have n0_ : Aside0 (Kd.R (Kd.int .u8) 5 w49 w.heap.size (fun k_ => some k_ ≠ (.slice (some ad542) t529.length co43 : Value).ownBlock) v548 t547) := ⟨h0_⟩
                    have n1_ : Aside0 (Kd.R (Kd.int .u8) 5 w49 w.heap.size (fun k_ => some k_ ≠ (v548 : Value).ownBlock) (.slice (some ad542) t529.length co43) t529) := ⟨h1_⟩
                    have n2_ : Aside0 (w49.heap[gb528]? = some (.cells #[.bool false, .int .u64 0, .slice none 0 0] 69 (0, 0))) := ⟨h2_⟩
                    have n3_ : Aside0 (w49.heap[gb550]? = some (.cells #[.bool false, .int .u64 0, .slice none 0 0] 69 (0, 0))) := ⟨h3_⟩
                    have n4_ : Aside0 (w.heap.size ≤ gb550) := ⟨h4_⟩
                    have n5_ : Aside0 (w.heap.size ≤ gb550) := ⟨h5_⟩
                    have n6_ : Aside0 (gb528 ≠ gb550) := ⟨h6_⟩
                    have n7_ : Aside0 (gb550 ≠ gb528) := ⟨h7_⟩
                    have n8_ : Aside0 (Below w.heap.size w w49) := ⟨h8_⟩
                    clear HO_4
                    clear BK528
                    clear HR538
                    clear HB
                    clear h0_ h1_ h2_ h3_ h4_ h5_ h6_ h7_ h8_
                    have HO549 := n0_
                    have HO_4 := n1_
                    have BK528 := n2_
                    have BK550 := n3_
                    have GW550 := n4_
                    have GE550 := n5_
                    have NB528_550 := n6_
                    have NB550_528 := n7_
                    have HB := n8_
                    clear n0_ n1_ n2_ n3_ n4_ n5_ n6_ n7_ n8_
                    have hHeld : w49.cell? ad542 = some (.int .u8 (rd t529 0)) := hS_
                    obtain ⟨Ao50, co50, eo50⟩ := Kd.R_slice HO549.out
                    (first | subst eo50 | (injection eo50 with f1_ f2_ f3_; have f4_ := f1_.symm; have f5_ := f3_.symm; clear f1_ f2_ f3_; subst f4_; subst f5_))
                    refine norm_ (a' := ?_) ?_ ?_
                    rotate_left
                    · simp only [putAll, Act.put, List.setIfInBounds_toArray, List.set_cons_zero, List.set_cons_succ]
                      rfl
                    refine one_ (i := 12) (N := none) #[true, true, true, true, true, true, true, true, true, true, true, true, true] rfl rfl (one_of HT_.out (by kernel_rfl)) (by decide) (fun K hK => ?_)
                    have hs51 : w49.cell? ⟨gb550, 0, none⟩ = some (.bool false) := (blk_cell BK550.out 0).trans rfl
                    have hfs51 := blk_frozen BK550.out 0
                    have hns51_0 := NB528_550.out
                    have hms51_0 := NB550_528.out
                    have hs52 : w49.cell? ⟨gb550, 1, none⟩ = some (.int .u64 0) := (blk_cell BK550.out 1).trans rfl
                    have hfs52 := blk_frozen BK550.out 1
                    have hns52_0 := NB528_550.out
                    have hms52_0 := NB550_528.out
                    have hs53 : w49.cell? ⟨gb550, 2, none⟩ = some (.slice none 0 0) := (blk_cell BK550.out 2).trans rfl
                    have hfs53 := blk_frozen BK550.out 2
                    have hns53_0 := NB528_550.out
                    have hms53_0 := NB550_528.out
                    refine skip_ (w1 := ?_) (by rfl) rfl ?_ ?_
                    rotate_left
                    · go_simp
                      rfl
                    refine hK.out _ _ (((cell_far (p := ⟨gb550, _, none⟩) (by first | exact Kd.own_blk (Kd.R_ne HO_4.out BK550.out (by decide)) | (rw [add_block]; exact Kd.own_blk (Kd.R_ne HO_4.out BK550.out (by decide))) | (show (Addr.add _ _).block ≠ _; rw [add_block]; exact Kd.own_blk (Kd.R_ne HO_4.out BK550.out (by decide))) | (dsimp only; exact Kd.own_blk (Kd.R_ne HO_4.out BK550.out (by decide)))) _).trans (((cell_far (p := ⟨gb550, _, none⟩) (by first | exact Kd.own_blk (Kd.R_ne HO_4.out BK550.out (by decide)) | (rw [add_block]; exact Kd.own_blk (Kd.R_ne HO_4.out BK550.out (by decide))) | (show (Addr.add _ _).block ≠ _; rw [add_block]; exact Kd.own_blk (Kd.R_ne HO_4.out BK550.out (by decide))) | (dsimp only; exact Kd.own_blk (Kd.R_ne HO_4.out BK550.out (by decide)))) _).trans (((cell_far (p := ⟨gb550, _, none⟩) (by first | exact Kd.own_blk (Kd.R_ne HO_4.out BK550.out (by decide)) | (rw [add_block]; exact Kd.own_blk (Kd.R_ne HO_4.out BK550.out (by decide))) | (show (Addr.add _ _).block ≠ _; rw [add_block]; exact Kd.own_blk (Kd.R_ne HO_4.out BK550.out (by decide))) | (dsimp only; exact Kd.own_blk (Kd.R_ne HO_4.out BK550.out (by decide)))) _).trans (hHeld))))))) (fun hHeld => ?_)
                    clear hK K
                    refine done_ (done_of HT_.out (by kernel_rfl)) ?_
                    have hnb54 := NB550_528.out
                    have hnc54 := NB528_550.out
                    have hcz55_0 : w49.cell? ⟨gb550, 0, none⟩ = some (.bool false) := (blk_cell BK550.out 0).trans rfl
                    have hcz55_1 : w49.cell? ⟨gb550, 1, none⟩ = some (.int .u64 0) := (blk_cell BK550.out 1).trans rfl
                    have hcz55_2 : w49.cell? ⟨gb550, 2, none⟩ = some (.slice none 0 0) := (blk_cell BK550.out 2).trans rfl
                    have hfz55_0 := blk_frozen BK550.out 0
                    have hfz55_1 := blk_frozen BK550.out 1
                    have hfz55_2 := blk_frozen BK550.out 2
                    try go_wp2_with (first | (go_at_call 49; (with_reducible refine (frame_Good.calls ((rd t529 0) == 65) t539 _ _ t547 false _ ?side1 ?side2 A23.out).mono ?_); (case side1 => refine (Kd.R_reads' (e := 5) (base := w.heap.size) (ok := fun k_ => some k_ ≠ (.slice (some ad542) t529.length co43 : Value).ownBlock) (n := t547.length) (c := co50) ?_).2.2; exact (by (with_reducible repeat (first | apply Kd.R_alloc | apply Kd.R_drewN | apply Kd.R_drew)); exact (Kd.R_mono (Kd.R_far (p := ⟨gb550, 2, none⟩) (Kd.R_far (p := ⟨gb550, 1, none⟩) (Kd.R_far (p := ⟨gb550, 0, none⟩) (Kd.R_types HO549.out BK550.out (by decide)) (fun _ hk => hk.2) (.bool ((rd t529 0) == 65))) (fun _ hk => hk.2) (.int .u64 t539)) (fun _ hk => hk.2) (.slice Ao50 t547.length co50)) (fun _ h_ => h_.1)))); (case side2 => exact (Kd.R_reads' HO549.out).2.1); rintro e w56 ⟨rfl, hb⟩; have n0_ := Aside0.mk (Kd.R_below (by (with_reducible repeat (first | apply Kd.R_alloc | apply Kd.R_drewN | apply Kd.R_drew)); exact (Kd.R_mono (Kd.R_far (p := ⟨gb550, 2, none⟩) (Kd.R_far (p := ⟨gb550, 1, none⟩) (Kd.R_far (p := ⟨gb550, 0, none⟩) (Kd.R_types HO_4.out BK550.out (by decide)) (fun _ hk => hk.2) (.bool ((rd t529 0) == 65))) (fun _ hk => hk.2) (.int .u64 t539)) (fun _ hk => hk.2) (.slice Ao50 t547.length co50)) (fun _ h_ => h_.1))) hb); have n1_ := Aside0.mk (Kd.R_below (by (with_reducible repeat (first | apply Kd.R_alloc | apply Kd.R_drewN | apply Kd.R_drew)); exact (Kd.R_mono (Kd.R_far (p := ⟨gb550, 2, none⟩) (Kd.R_far (p := ⟨gb550, 1, none⟩) (Kd.R_far (p := ⟨gb550, 0, none⟩) (Kd.R_types HO549.out BK550.out (by decide)) (fun _ hk => hk.2) (.bool ((rd t529 0) == 65))) (fun _ hk => hk.2) (.int .u64 t539)) (fun _ hk => hk.2) (.slice Ao50 t547.length co50)) (fun _ h_ => h_.1))) hb); have n2_ := Aside0.mk (blk_below (g := gb528) (o := .cells #[.bool false, .int .u64 0, .slice none 0 0] 69 (0, 0)) (by (with_reducible repeat (first | refine blk_drewN ?_ _ | refine blk_drew ?_ | refine blk_alloc ?_ _)); refine blk_far ?_ NB528_550.out _; (with_reducible repeat (first | refine blk_drewN ?_ _ | refine blk_drew ?_ | refine blk_alloc ?_ _)); refine blk_far ?_ NB528_550.out _; (with_reducible repeat (first | refine blk_drewN ?_ _ | refine blk_drew ?_ | refine blk_alloc ?_ _)); refine blk_far ?_ NB528_550.out _; (with_reducible repeat (first | refine blk_drewN ?_ _ | refine blk_drew ?_ | refine blk_alloc ?_ _)); exact BK528.out) hb); have n3_ := Aside0.mk (blk_below (g := gb550) (o := .cells #[.bool ((rd t529 0) == 65), .int .u64 t539, .slice Ao50 t547.length co50] 69 (0, 0)) (by (with_reducible repeat (first | refine blk_drewN ?_ _ | refine blk_drew ?_ | refine blk_alloc ?_ _)); refine blk_put (cs := #[.bool ((rd t529 0) == 65), .int .u64 t539, .slice none 0 0]) ?_ 2 _ rfl; (with_reducible repeat (first | refine blk_drewN ?_ _ | refine blk_drew ?_ | refine blk_alloc ?_ _)); refine blk_put (cs := #[.bool ((rd t529 0) == 65), .int .u64 0, .slice none 0 0]) ?_ 1 _ rfl; (with_reducible repeat (first | refine blk_drewN ?_ _ | refine blk_drew ?_ | refine blk_alloc ?_ _)); refine blk_put (cs := #[.bool false, .int .u64 0, .slice none 0 0]) ?_ 0 _ rfl; (with_reducible repeat (first | refine blk_drewN ?_ _ | refine blk_drew ?_ | refine blk_alloc ?_ _)); exact BK550.out) hb); have n4_ := Aside0.mk (below_step (by repeat (first | (with_reducible first | exact HB.out | apply below_alloc | apply pw_below_drewN | apply below_drew1 | refine below_set ?_ GE528.out | refine below_set ?_ GE550.out) | exact HB.out)) hb); clear HO_4; clear HO549; clear BK528; clear BK550; clear HB; have HO_4 := n0_; have HO549 := n1_; have BK528 := n2_; have BK550 := n3_; have HB := n4_; clear n0_ n1_ n2_ n3_ n4_; (try clear hb); (try clear hb2); (try clear hk); (try clear hi); have hcz57_0 : w56.cell? ⟨gb528, 0, none⟩ = some (.bool false) := (blk_cell BK528.out 0).trans rfl; have hcz57_1 : w56.cell? ⟨gb528, 1, none⟩ = some (.int .u64 0) := (blk_cell BK528.out 1).trans rfl; have hcz57_2 : w56.cell? ⟨gb528, 2, none⟩ = some (.slice none 0 0) := (blk_cell BK528.out 2).trans rfl; have hfz57_0 := blk_frozen BK528.out 0; have hfz57_1 := blk_frozen BK528.out 1; have hfz57_2 := blk_frozen BK528.out 2))
                    refine bodyPost_ret (results_ct rfl _ _ gb528 69 #[.bool false, .int .u64 0, .slice none 0 0] (0, 0) _ rfl (by (with_reducible repeat (first | refine blk_drewN ?_ _ | refine blk_drew ?_ | refine blk_alloc ?_ _)); refine blk_put (cs := #[.bool false, .int .u64 0, .slice none 0 0]) ?_ 2 _ rfl; (with_reducible repeat (first | refine blk_drewN ?_ _ | refine blk_drew ?_ | refine blk_alloc ?_ _)); refine blk_put (cs := #[.bool false, .int .u64 0, .slice none 0 0]) ?_ 1 _ rfl; (with_reducible repeat (first | refine blk_drewN ?_ _ | refine blk_drew ?_ | refine blk_alloc ?_ _)); refine blk_put (cs := #[.bool false, .int .u64 0, .slice none 0 0]) ?_ 0 _ rfl; (with_reducible repeat (first | refine blk_drewN ?_ _ | refine blk_drew ?_ | refine blk_alloc ?_ _)); exact BK528.out) Try.underlying69 rfl (by kernel_rfl)) rfl ?_
                    exact ⟨_, by first | rfl | (simp [errW_none, errW_some] <;> rfl) | (simp only [← hji18]; first | rfl | (simp [errW_none, errW_some] <;> rfl)) | (simp [*, errW_none, errW_some] <;> rfl), by first | exact Kd.R_nil _ _ _ _ _ | exact Kd.N_nil _ _ _ _ _ | exact Kd.V_nil _ _ _ _ _ | exact Kd.Q_nil _ _ _ _ _ | exact Kd.S_nil _ _ _ _ _, by repeat (first | (with_reducible first | exact HB.out | apply below_alloc | apply pw_below_drewN | apply below_drew1 | refine below_set ?_ GE528.out | refine below_set ?_ GE550.out) | exact HB.out)⟩
                · rw [if_neg c22] at H
                  have c22b0 : (t541 == 0) = false := beq_eq_false_iff_ne.mpr c22
                  have c22b1 : (t541 != 0) = true := bne_iff_ne.mpr c22
                  simp only [Option.some.injEq, Prod.mk.injEq] at H
                  obtain ⟨rfl, rfl, rfl, rfl⟩ := H
                  obtain ⟨Ao59, co59, eo59⟩ := Kd.R_slice HO_4.out
                  subst eo59
                  have q58 : (1 : Int) ≤ ((t529.length : Int) : Int) := of_decide_eq_true (by first | (with_reducible assumption) | assumption)
                  obtain ⟨i058, hi058, _, hsz58, _⟩ := info_parts info5
                  have hroom58 : t529.length ≤ co59 := (Kd.R_reads' HO_4.out).2.1
                  have hC58 : Kd.C (Kd.int .u8) _ Ao59 t529.length t529 := (Kd.R_reads' HO_4.out).2.2
                  have hcut58 := cut_from (P := Try.prog) 24 5 .i64 Try.underlying24 hi058 1 hsz58 Ao59 t529.length co59 1 (by omega) q58
                  have hr58 := Kd.C_drop (m := (1 : Int).toNat) (c := co59) hC58 (by omega) hroom58
                  obtain ⟨A58, hA58⟩ : ∃ A1, A1 = (if co59 = (1 : Int).toNat then Ao59 else (Ao59 : Option Addr).map (·.add ((1 : Int).toNat * 1))) := ⟨_, rfl⟩
                  obtain ⟨c58, hc58⟩ : ∃ c1, c1 = co59 - (1 : Int).toNat := ⟨_, rfl⟩
                  have hy58 : y535.length = t529.length - (1 : Int).toNat := (by rw [Ny535.out, List.length_drop] <;> omega)
                  rw [show (t529).drop (1 : Int).toNat = y535 from Ny535.out.symm] at hr58
                  replace hr58 : Kd.C (Kd.int .u8) _ A58 y535.length y535 := (by rw [hA58]; exact hr58)
                  rw [← hy58, ← hA58, ← hc58] at hcut58
                  have HR538 := Aside0.mk hr58
                  have HC538 := Aside0.mk (show y535.length ≤ c58 from by rw [hy58, hc58]; exact Nat.sub_le_sub_right hroom58 _)
                  clear hr58 hC58 hroom58 hi058 hsz58 hc58
                  have KY58 := Aside0.mk hy58
                  have KA58 := Aside0.mk hA58
                  clear hy58 hA58
                  have KL58 := Aside0.mk (show 1 ≤ t529.length from by omega)
                  replace q58 := eq_true q58
                  try go_wp2_with (first | ((with_reducible refine gate_callee (f := 24) rfl ?_); refine goesL_ (some 38) rfl rfl Try.func24 (by kernel_rfl) rfl #[.slice A58 y535.length c58] rfl (by (try simp only [List.map_toArray, List.map_cons, List.map_nil]); first | done | rfl | (simp only [List.length_drop, List.length_take]; rfl)) ?_; (with_reducible refine (num_Get.calls kj2 _ _ y535 t539 t540 t541 _ ?side1 ?side2 A16.out).mono ?_); (case side1 => repeat (first | exact (by repeat (first | (with_reducible exact HR538.out) | (with_reducible refine Kd.C_alloc ?_ _) | (with_reducible refine Kd.C_drewN ?_ _) | (with_reducible refine Kd.C_drew ?_) | exact HR538.out)) | (with_reducible refine Kd.C_alloc ?_ _) | (with_reducible refine Kd.C_drewN ?_ _) | (with_reducible refine Kd.C_drew ?_))); (case side2 => exact HC538.out); rintro e w' ⟨rfl, ⟨nd, rfl⟩⟩; refine ⟨_, rfl, ?_⟩; (try (rw [drewN_self wc]; generalize hq_ : World.drewN wc _ = wc; have n0_ : Aside0 (Kd.R (Kd.int .u8) 5 wc w.heap.size (fun _ => True) (.slice Ao59 t529.length co59) t529) := ⟨by rw [← hq_]; exact (by (with_reducible repeat (first | apply Kd.R_alloc | apply Kd.R_drewN | apply Kd.R_drew)); exact HO_4.out)⟩; have n1_ : Aside0 (wc.heap[gb528]? = some (.cells #[.bool false, .int .u64 0, .slice none 0 0] 69 (0, 0))) := ⟨by rw [← hq_]; exact (by (with_reducible repeat (first | refine blk_drewN ?_ _ | refine blk_drew ?_ | refine blk_alloc ?_ _)); exact BK528.out)⟩; have n2_ : Aside0 (Below w.heap.size w wc) := ⟨by rw [← hq_]; exact (by repeat (first | (with_reducible first | exact HB.out | apply below_alloc | apply pw_below_drewN | apply below_drew1 | refine below_set ?_ GE528.out) | exact HB.out))⟩; have n3_ : Aside0 (Kd.C (Kd.int .u8) wc A58 y535.length y535) := ⟨by rw [← hq_]; exact (by repeat (first | (with_reducible exact HR538.out) | (with_reducible refine Kd.C_alloc ?_ _) | (with_reducible refine Kd.C_drewN ?_ _) | (with_reducible refine Kd.C_drew ?_) | exact HR538.out))⟩; clear HO_4 BK528 HB HR538 hq_; have HO_4 := n0_; have BK528 := n1_; have HB := n2_; have HR538 := n3_; clear n0_ n1_ n2_ n3_))))
                  have n0_ := Aside0.mk (Kd.R_drew HO_4.out)
                  have n1_ := Aside0.mk (blk_drew BK528.out)
                  have n2_ := Aside0.mk (Kd.C_drew HR538.out)
                  have n3_ := Aside0.mk (below_drew1 HB.out)
                  clear HO_4
                  clear BK528
                  clear HR538
                  clear HB
                  have HO_4 := n0_
                  have BK528 := n1_
                  have HR538 := n2_
                  have HB := n3_
                  clear n0_ n1_ n2_ n3_
                  have p542 : 0 ≤ (0 : Int) := (by omega)
                  have q542 : 0 < (t529.length : Int) := of_decide_eq_true (by first | (with_reducible assumption) | assumption)
                  obtain ⟨ad542, e542, hx542_0⟩ := Kd.at_int (Kd.R_reads' HO_4.out).2.2 0 p542 q542
                  cases e542
                  have qi542 : (0 < t529.length) = True := eq_true (by omega)
                  (try rw [show ((0 : Int)).toNat = 0 from rfl] at hx542_0)
                  (try rw [Addr.add_zero'] at hx542_0)
                  replace p542 := eq_true p542
                  replace q542 := eq_true q542
                  have q61 : ((ji18) : Int) ≤ ((t529.length : Int) : Int) := of_decide_eq_true (by first | (with_reducible assumption) | assumption)
                  obtain ⟨i061, hi061, _, hsz61, _⟩ := info_parts info5
                  have hroom61 : t529.length ≤ co59 := (Kd.R_reads' HO_4.out).2.1
                  have hC61 : Kd.C (Kd.int .u8) _ (some ad542) t529.length t529 := (Kd.R_reads' HO_4.out).2.2
                  have q061 : (0 : Int) ≤ ((ji18) : Int) := of_decide_eq_true (by first | (with_reducible assumption) | assumption)
                  have hcut61 := cut_from (P := Try.prog) 24 5 .i64 Try.underlying24 hi061 1 hsz61 (some ad542) t529.length co59 (ji18) q061 q61
                  have hr61 := Kd.C_drop (m := ((ji18) : Int).toNat) (c := co59) hC61 (by omega) hroom61
                  obtain ⟨A61, hA61⟩ : ∃ A1, A1 = (if co59 = ((ji18) : Int).toNat then (some ad542) else ((some ad542) : Option Addr).map (·.add (((ji18) : Int).toNat * 1))) := ⟨_, rfl⟩
                  obtain ⟨c61, hc61⟩ : ∃ c1, c1 = co59 - ((ji18) : Int).toNat := ⟨_, rfl⟩
                  have hy61 : y543.length = t529.length - ((ji18) : Int).toNat := (by rw [Ny543.out, List.length_drop] <;> omega)
                  rw [show (t529).drop ((ji18) : Int).toNat = y543 from Ny543.out.symm] at hr61
                  replace hr61 : Kd.C (Kd.int .u8) _ A61 y543.length y543 := (by rw [hA61]; exact hr61)
                  rw [← hy61, ← hA61, ← hc61] at hcut61
                  have HR546 := Aside0.mk hr61
                  have HC546 := Aside0.mk (show y543.length ≤ c61 from by rw [hy61, hc61]; exact Nat.sub_le_sub_right hroom61 _)
                  clear hr61 hC61 hroom61 hi061 hsz61 hc61
                  have KY61 := Aside0.mk hy61
                  have KA61 := Aside0.mk hA61
                  clear hy61 hA61
                  have KL61 := Aside0.mk (show ((ji18) : Int).toNat ≤ t529.length from by omega)
                  replace q61 := eq_true q61
                  refine start_ (n := 13) (S := fun w' => w'.cell? ad542 = some (.int .u8 (rd t529 0))) (ds := []) #[false, false, false, false, false, false, false, false, false, false, false, false, false] (by kernel_rfl) rfl rfl (hx542_0) (fun hHeld => ?_); refine with_tabW frame_Get.tab5 frame_Get.bits5 (fun HT_ HW_ => ?_)
                  generalize wc.drew = w60 at HO_4 BK528 HR538 HB HR546 hx542_0 hHeld ⊢
                  refine pure_ (i := 0) (N := some 42) (v := ?_) (a' := ?_) #[true, false, false, false, false, false, false, false, false, false, false, false, false] rfl rfl (any_of HT_.out (by kernel_rfl)) (fun _ _ _ h => h) (Or.inl ⟨by rfl, ?_⟩) ?_ ?_
                  rotate_left
                  · intro w'
                    go_simp
                    with_reducible rfl
                  rotate_left
                  · simp only [Act.put, List.setIfInBounds_toArray, List.set_cons_zero, List.set_cons_succ, i64_w, i32_w]
                    rfl
                  refine pure_ (i := 1) (N := some 43) (v := ?_) (a' := ?_) #[true, true, false, false, false, false, false, false, false, false, false, false, false] rfl rfl (any_of HT_.out (by kernel_rfl)) (fun _ _ _ h => h) (Or.inl ⟨by rfl, ?_⟩) ?_ ?_
                  rotate_left
                  · intro w'
                    go_simp
                    with_reducible rfl
                  rotate_left
                  · simp only [Act.put, List.setIfInBounds_toArray, List.set_cons_zero, List.set_cons_succ, i64_w, i32_w]
                    rfl
                  refine pure_ (i := 4) (N := some 46) (v := ?_) (a' := ?_) #[true, true, false, false, true, false, false, false, false, false, false, false, false] rfl rfl (any_of HT_.out (by kernel_rfl)) (fun _ _ _ h => h) (Or.inl ⟨by rfl, ?_⟩) ?_ ?_
                  rotate_left
                  · intro w'
                    go_simp
                    with_reducible rfl
                  rotate_left
                  · simp only [Act.put, List.setIfInBounds_toArray, List.set_cons_zero, List.set_cons_succ, i64_w, i32_w]
                    rfl
                  refine pure_ (i := 5) (N := some 47) (v := ?_) (a' := ?_) #[true, true, false, false, true, true, false, false, false, false, false, false, false] rfl rfl (any_of HT_.out (by kernel_rfl)) (fun _ _ _ h => h) (Or.inl ⟨by rfl, ?_⟩) ?_ ?_
                  rotate_left
                  · intro w'
                    go_simp
                    with_reducible rfl
                  rotate_left
                  · simp only [Act.put, List.setIfInBounds_toArray, List.set_cons_zero, List.set_cons_succ, i64_w, i32_w]
                    rfl
                  refine pure_ (i := 6) (N := some 48) (v := ?_) (a' := ?_) #[true, true, false, false, true, true, true, false, false, false, false, false, false] rfl rfl (any_of HT_.out (by kernel_rfl)) (fun _ _ _ h => h) (Or.inl ⟨by rfl, ?_⟩) ?_ ?_
                  rotate_left
                  · intro w'
                    go_simp
                    with_reducible rfl
                  rotate_left
                  · simp only [Act.put, List.setIfInBounds_toArray, List.set_cons_zero, List.set_cons_succ, i64_w, i32_w]
                    rfl
                  refine pure_ (i := 7) (N := some 49) (v := ?_) (a' := ?_) #[true, true, false, false, true, true, true, true, false, false, false, false, false] rfl rfl (any_of HT_.out (by kernel_rfl)) (fun _ _ _ h => h) (Or.inl ⟨by rfl, ?_⟩) ?_ ?_
                  rotate_left
                  · intro w'
                    go_simp
                    with_reducible rfl
                  rotate_left
                  · simp only [Act.put, List.setIfInBounds_toArray, List.set_cons_zero, List.set_cons_succ, i64_w, i32_w]
                    rfl
                  refine pure_ (i := 8) (N := some 50) (v := ?_) (a' := ?_) #[true, true, false, false, true, true, true, true, true, false, false, false, false] rfl rfl (any_of HT_.out (by kernel_rfl)) (fun _ _ _ h => h) (Or.inl ⟨by rfl, ?_⟩) ?_ ?_
                  rotate_left
                  · intro w'
                    go_simp
                    with_reducible rfl
                  rotate_left
                  · simp only [Act.put, List.setIfInBounds_toArray, List.set_cons_zero, List.set_cons_succ, i64_w, i32_w]
                    rfl
                  refine take_ (i := 2) (N := some 44) (v := ?_) (a' := ?_) #[true, true, true, false, true, true, true, true, true, false, false, false, false] rfl rfl (take_ofW HT_.out HW_.out (by kernel_rfl)) (fun _ _ _ h => h) (Or.inl ⟨by rfl, ?_⟩) hHeld ?_ ?_
                  rotate_left
                  · intro w' s0
                    go_simp
                    with_reducible rfl
                  rotate_left
                  · simp only [Act.put, List.setIfInBounds_toArray, List.set_cons_zero, List.set_cons_succ, i64_w, i32_w]
                    rfl
                  refine pure_ (i := 3) (N := some 45) (v := ?_) (a' := ?_) #[true, true, true, true, true, true, true, true, true, false, false, false, false] rfl rfl (any_of HT_.out (by kernel_rfl)) (fun _ _ _ h => h) (Or.inl ⟨by rfl, ?_⟩) ?_ ?_
                  rotate_left
                  · intro w'
                    go_simp
                    with_reducible rfl
                  rotate_left
                  · simp only [Act.put, List.setIfInBounds_toArray, List.set_cons_zero, List.set_cons_succ, i64_w, i32_w]
                    rfl
                  refine join_ (σ := Value × Nat) 1 #[true, true, true, true, true, true, true, true, true, true, true, true, false] (fun s_ => [(51, s_.1), (9, .pointer (some ⟨s_.2, 0, none⟩)), (52, .agg #[.bool ((rd t529 0) == 65), .int .u64 t539, s_.1])]) (fun s_ w' => (w'.cell? ad542 = some (.int .u8 (rd t529 0))) ∧ (Kd.R (Kd.int .u8) 5 w' w.heap.size (fun k_ => some k_ ≠ (.slice (some ad542) t529.length co59 : Value).ownBlock) s_.1 t547) ∧ (Kd.R (Kd.int .u8) 5 w' w.heap.size (fun k_ => some k_ ≠ (s_.1 : Value).ownBlock) (.slice (some ad542) t529.length co59) t529) ∧ (w'.heap[gb528]? = some (.cells #[.bool false, .int .u64 0, .slice none 0 0] 69 (0, 0))) ∧ (w'.heap[s_.2]? = some (.cells #[.bool false, .int .u64 0, .slice none 0 0] 69 (0, 0))) ∧ (w.heap.size ≤ s_.2) ∧ (w.heap.size ≤ s_.2) ∧ (gb528 ≠ s_.2) ∧ (s_.2 ≠ gb528) ∧ (Below w.heap.size w w')) ?_ ?_
                  rotate_left
                  · intro hCont
                    refine two_ (i := 9) (j := 11) (Ni := some 51) (Nj := some 9) #[true, true, true, true, true, true, true, true, true, true, false, false, false] #[true, true, true, true, true, true, true, true, true, false, false, true, false] rfl rfl rfl rfl (two_of HT_.out (by kernel_rfl)) (by decide) (by decide) (fun K hK => ?_) (fun K hK => ?_)
                    · skip
                      refine goes_ Try.func68 (by kernel_rfl) rfl #[.slice A61 y543.length c61] (by rfl) rfl rfl (by (try simp only [List.map_toArray, List.map_cons, List.map_nil]); first | done | rfl | (simp only [List.length_drop, List.length_take]; rfl)) ?_
                      with_reducible refine (bytes_Clone.calls _ _ y543 t547 _ ?side1 ?side2 A21.out).mono ?_
                      (case side1 => repeat (first | exact (by repeat (first | (with_reducible exact HR546.out) | (with_reducible refine Kd.C_alloc ?_ _) | (with_reducible refine Kd.C_drewN ?_ _) | (with_reducible refine Kd.C_drew ?_) | exact HR546.out)) | (with_reducible refine Kd.C_alloc ?_ _) | (with_reducible refine Kd.C_drewN ?_ _) | (with_reducible refine Kd.C_drew ?_)))
                      (case side2 => exact HC546.out)
                      rintro e w62 ⟨v548, rfl, ho0, hb⟩
                      have HS0_ := (hb.cell (World.block_lt_of_cell? _ _ (hHeld))).trans (hHeld)
                      refine ⟨_, rfl, ?_⟩
                      have n0_ := Aside0.mk (Kd.R_elder' (by (with_reducible repeat (first | apply Kd.R_alloc | apply Kd.R_drewN | apply Kd.R_drew)); exact HO_4.out) (Kd.R_base ho0) hb)
                      have n1_ := Aside0.mk (Kd.R_lower (Kd.R_new' ho0 (Kd.R_lt (by (with_reducible repeat (first | apply Kd.R_alloc | apply Kd.R_drewN | apply Kd.R_drew)); exact HO_4.out))) (below_size (by repeat (first | (with_reducible first | exact HB.out | apply below_alloc | apply pw_below_drewN | apply below_drew1 | refine below_set ?_ GE528.out) | exact HB.out))))
                      have n2_ := Aside0.mk (blk_below (g := gb528) (o := .cells #[.bool false, .int .u64 0, .slice none 0 0] 69 (0, 0)) (by (with_reducible repeat (first | refine blk_drewN ?_ _ | refine blk_drew ?_ | refine blk_alloc ?_ _)); exact BK528.out) hb)
                      have n3_ := Aside0.mk (Kd.C_below (by repeat (first | (with_reducible exact HR538.out) | (with_reducible refine Kd.C_alloc ?_ _) | (with_reducible refine Kd.C_drewN ?_ _) | (with_reducible refine Kd.C_drew ?_) | exact HR538.out)) hb)
                      have n4_ := Aside0.mk (Kd.C_below (by repeat (first | (with_reducible exact HR546.out) | (with_reducible refine Kd.C_alloc ?_ _) | (with_reducible refine Kd.C_drewN ?_ _) | (with_reducible refine Kd.C_drew ?_) | exact HR546.out)) hb)
                      have n5_ := Aside0.mk (below_step (by repeat (first | (with_reducible first | exact HB.out | apply below_alloc | apply pw_below_drewN | apply below_drew1 | refine below_set ?_ GE528.out) | exact HB.out)) hb)
                      clear HO_4
                      clear BK528
                      clear HR538
                      clear HR546
                      clear HB
                      have HO_4 := n0_
                      have HO549 := n1_
                      have BK528 := n2_
                      have HR538 := n3_
                      have HR546 := n4_
                      have HB := n5_
                      clear n0_ n1_ n2_ n3_ n4_ n5_
                      (try clear hb)
                      (try clear hb2)
                      (try clear hk)
                      (try clear hi)
                      (try clear ho0)
                      obtain ⟨Ao63, co63, eo63⟩ := Kd.R_slice HO549.out
                      (first | subst eo63 | (injection eo63 with f1_ f2_ f3_; have f4_ := f1_.symm; have f5_ := f3_.symm; clear f1_ f2_ f3_; subst f4_; subst f5_))
                      refine hK.out _ _ (HS0_) (fun hHeld => ?_)
                      clear hK K
                      refine norm_ (a' := ?_) ?_ ?_
                      rotate_left
                      · show Act.put _ (some 51) _ = _
                        simp only [Act.put, List.setIfInBounds_toArray, List.set_cons_zero, List.set_cons_succ, i64_w, i32_w]
                        rfl
                      refine pure_ (i := 10) (N := some 52) (v := ?_) (a' := ?_) #[true, true, true, true, true, true, true, true, true, true, true, false, false] rfl rfl (any_of HT_.out (by kernel_rfl)) (fun _ _ _ h => h) (Or.inl ⟨by rfl, ?_⟩) ?_ ?_
                      rotate_left
                      · intro w'
                        go_simp
                        with_reducible rfl
                      rotate_left
                      · simp only [Act.put, List.setIfInBounds_toArray, List.set_cons_zero, List.set_cons_succ, i64_w, i32_w]
                        rfl
                      refine one_ (i := 11) (N := some 9) #[true, true, true, true, true, true, true, true, true, true, true, true, false] rfl rfl (one_of HT_.out (by kernel_rfl)) (by decide) (fun K hK => ?_)
                      refine box_step ?hg (N := 9) ?hd (cs := #[.bool false, .int .u64 0, .slice none 0 0]) (t := 69) ?hr ?_; (case hd => rfl); (case hg => rfl); (case hr => first | (go_simp; done) | (go_simp; rfl))
                      intro gb550 hg w64 hbox hb
                      have HS0_ := (hb.cell (World.block_lt_of_cell? _ _ (hHeld))).trans (hHeld)
                      have n0_ := Aside0.mk (Kd.R_below (by (with_reducible repeat (first | apply Kd.R_alloc | apply Kd.R_drewN | apply Kd.R_drew)); exact HO_4.out) hb)
                      have n1_ := Aside0.mk (Kd.R_below (by (with_reducible repeat (first | apply Kd.R_alloc | apply Kd.R_drewN | apply Kd.R_drew)); exact HO549.out) hb)
                      have n2_ := Aside0.mk (blk_below (g := gb528) (o := .cells #[.bool false, .int .u64 0, .slice none 0 0] 69 (0, 0)) (by (with_reducible repeat (first | refine blk_drewN ?_ _ | refine blk_drew ?_ | refine blk_alloc ?_ _)); exact BK528.out) hb)
                      have n3_ := Aside0.mk (Kd.C_below (by repeat (first | (with_reducible exact HR538.out) | (with_reducible refine Kd.C_alloc ?_ _) | (with_reducible refine Kd.C_drewN ?_ _) | (with_reducible refine Kd.C_drew ?_) | exact HR538.out)) hb)
                      have n4_ := Aside0.mk (Kd.C_below (by repeat (first | (with_reducible exact HR546.out) | (with_reducible refine Kd.C_alloc ?_ _) | (with_reducible refine Kd.C_drewN ?_ _) | (with_reducible refine Kd.C_drew ?_) | exact HR546.out)) hb)
                      have n5_ := Aside0.mk (below_step (by repeat (first | (with_reducible first | exact HB.out | apply below_alloc | apply pw_below_drewN | apply below_drew1 | refine below_set ?_ GE528.out) | exact HB.out)) hb)
                      have n6_ := Aside0.mk (hbox)
                      have n7_ := Aside0.mk ((by rw [hg]; exact (below_size (by repeat (first | (with_reducible first | exact HB.out | apply below_alloc | apply pw_below_drewN | apply below_drew1 | refine below_set ?_ GE528.out) | exact HB.out))) : w.heap.size ≤ gb550))
                      have n8_ := Aside0.mk ((by rw [hg]; exact (below_size (by repeat (first | (with_reducible first | exact HB.out | apply below_alloc | apply pw_below_drewN | apply below_drew1 | refine below_set ?_ GE528.out) | exact HB.out))) : w.heap.size ≤ gb550))
                      have n9_ := Aside0.mk ((by rw [hg]; exact Nat.ne_of_lt (blk_lt (g := gb528) (o := .cells #[.bool false, .int .u64 0, .slice none 0 0] 69 (0, 0)) (by (with_reducible repeat (first | refine blk_drewN ?_ _ | refine blk_drew ?_ | refine blk_alloc ?_ _)); exact BK528.out)) : gb528 ≠ gb550))
                      have n10_ := Aside0.mk ((by rw [hg]; exact Nat.ne_of_gt (blk_lt (g := gb528) (o := .cells #[.bool false, .int .u64 0, .slice none 0 0] 69 (0, 0)) (by (with_reducible repeat (first | refine blk_drewN ?_ _ | refine blk_drew ?_ | refine blk_alloc ?_ _)); exact BK528.out)) : gb550 ≠ gb528))
                      clear HO_4
                      clear HO549
                      clear BK528
                      clear HR538
                      clear HR546
                      clear HB
                      have HO_4 := n0_
                      have HO549 := n1_
                      have BK528 := n2_
                      have HR538 := n3_
                      have HR546 := n4_
                      have HB := n5_
                      have BK550 := n6_
                      have GW550 := n7_
                      have GE550 := n8_
                      have NB528_550 := n9_
                      have NB550_528 := n10_
                      clear n0_ n1_ n2_ n3_ n4_ n5_ n6_ n7_ n8_ n9_ n10_
                      clear hb hbox hg
                      refine hK.out _ _ (HS0_) (fun hHeld => ?_)
                      clear hK K
                      refine norm_ (a' := ?_) ?_ ?_
                      rotate_left
                      · show Act.put _ (some 9) _ = _
                        simp only [Act.put, List.setIfInBounds_toArray, List.set_cons_zero, List.set_cons_succ, i64_w, i32_w]
                        rfl
                      exact norm_ (by simp only [putAll, Act.put, List.setIfInBounds_toArray, List.set_cons_zero, List.set_cons_succ]) (hCont (.slice Ao63 t547.length co63, gb550) _ ⟨hHeld, (by (with_reducible repeat (first | apply Kd.R_alloc | apply Kd.R_drewN | apply Kd.R_drew)); exact Kd.R_mono HO549.out (fun _ hk => hk.2)), (by (with_reducible repeat (first | apply Kd.R_alloc | apply Kd.R_drewN | apply Kd.R_drew)); exact Kd.R_mono HO_4.out (fun _ hk => hk.2)), (by (with_reducible repeat (first | refine blk_drewN ?_ _ | refine blk_drew ?_ | refine blk_alloc ?_ _)); exact BK528.out), (by (with_reducible repeat (first | refine blk_drewN ?_ _ | refine blk_drew ?_ | refine blk_alloc ?_ _)); exact BK550.out), GW550.out, GE550.out, NB528_550.out, NB550_528.out, (by repeat (first | (with_reducible first | exact HB.out | apply below_alloc | apply pw_below_drewN | apply below_drew1 | refine below_set ?_ GE528.out | refine below_set ?_ GE550.out) | exact HB.out))⟩)
                    · skip
                      refine box_step ?hg (N := 9) ?hd (cs := #[.bool false, .int .u64 0, .slice none 0 0]) (t := 69) ?hr ?_; (case hd => rfl); (case hg => rfl); (case hr => first | (go_simp; done) | (go_simp; rfl))
                      intro gb550 hg w62 hbox hb
                      have HS0_ := (hb.cell (World.block_lt_of_cell? _ _ (hHeld))).trans (hHeld)
                      have n0_ := Aside0.mk (Kd.R_below (by (with_reducible repeat (first | apply Kd.R_alloc | apply Kd.R_drewN | apply Kd.R_drew)); exact HO_4.out) hb)
                      have n1_ := Aside0.mk (blk_below (g := gb528) (o := .cells #[.bool false, .int .u64 0, .slice none 0 0] 69 (0, 0)) (by (with_reducible repeat (first | refine blk_drewN ?_ _ | refine blk_drew ?_ | refine blk_alloc ?_ _)); exact BK528.out) hb)
                      have n2_ := Aside0.mk (Kd.C_below (by repeat (first | (with_reducible exact HR538.out) | (with_reducible refine Kd.C_alloc ?_ _) | (with_reducible refine Kd.C_drewN ?_ _) | (with_reducible refine Kd.C_drew ?_) | exact HR538.out)) hb)
                      have n3_ := Aside0.mk (Kd.C_below (by repeat (first | (with_reducible exact HR546.out) | (with_reducible refine Kd.C_alloc ?_ _) | (with_reducible refine Kd.C_drewN ?_ _) | (with_reducible refine Kd.C_drew ?_) | exact HR546.out)) hb)
                      have n4_ := Aside0.mk (below_step (by repeat (first | (with_reducible first | exact HB.out | apply below_alloc | apply pw_below_drewN | apply below_drew1 | refine below_set ?_ GE528.out) | exact HB.out)) hb)
                      have n5_ := Aside0.mk (hbox)
                      have n6_ := Aside0.mk ((by rw [hg]; exact (below_size (by repeat (first | (with_reducible first | exact HB.out | apply below_alloc | apply pw_below_drewN | apply below_drew1 | refine below_set ?_ GE528.out) | exact HB.out))) : w.heap.size ≤ gb550))
                      have n7_ := Aside0.mk ((by rw [hg]; exact (below_size (by repeat (first | (with_reducible first | exact HB.out | apply below_alloc | apply pw_below_drewN | apply below_drew1 | refine below_set ?_ GE528.out) | exact HB.out))) : w.heap.size ≤ gb550))
                      have n8_ := Aside0.mk ((by rw [hg]; exact Nat.ne_of_lt (blk_lt (g := gb528) (o := .cells #[.bool false, .int .u64 0, .slice none 0 0] 69 (0, 0)) (by (with_reducible repeat (first | refine blk_drewN ?_ _ | refine blk_drew ?_ | refine blk_alloc ?_ _)); exact BK528.out)) : gb528 ≠ gb550))
                      have n9_ := Aside0.mk ((by rw [hg]; exact Nat.ne_of_gt (blk_lt (g := gb528) (o := .cells #[.bool false, .int .u64 0, .slice none 0 0] 69 (0, 0)) (by (with_reducible repeat (first | refine blk_drewN ?_ _ | refine blk_drew ?_ | refine blk_alloc ?_ _)); exact BK528.out)) : gb550 ≠ gb528))
                      clear HO_4
                      clear BK528
                      clear HR538
                      clear HR546
                      clear HB
                      have HO_4 := n0_
                      have BK528 := n1_
                      have HR538 := n2_
                      have HR546 := n3_
                      have HB := n4_
                      have BK550 := n5_
                      have GW550 := n6_
                      have GE550 := n7_
                      have NB528_550 := n8_
                      have NB550_528 := n9_
                      clear n0_ n1_ n2_ n3_ n4_ n5_ n6_ n7_ n8_ n9_
                      clear hb hbox hg
                      refine hK.out _ _ (HS0_) (fun hHeld => ?_)
                      clear hK K
                      refine norm_ (a' := ?_) ?_ ?_
                      rotate_left
                      · show Act.put _ (some 9) _ = _
                        simp only [Act.put, List.setIfInBounds_toArray, List.set_cons_zero, List.set_cons_succ, i64_w, i32_w]
                        rfl
                      refine one_ (i := 9) (N := some 51) #[true, true, true, true, true, true, true, true, true, true, false, true, false] rfl rfl (one_of HT_.out (by kernel_rfl)) (by decide) (fun K hK => ?_)
                      refine goes_ Try.func68 (by kernel_rfl) rfl #[.slice A61 y543.length c61] (by rfl) rfl rfl (by (try simp only [List.map_toArray, List.map_cons, List.map_nil]); first | done | rfl | (simp only [List.length_drop, List.length_take]; rfl)) ?_
                      with_reducible refine (bytes_Clone.calls _ _ y543 t547 _ ?side1 ?side2 A21.out).mono ?_
                      (case side1 => repeat (first | exact (by repeat (first | (with_reducible exact HR546.out) | (with_reducible refine Kd.C_alloc ?_ _) | (with_reducible refine Kd.C_drewN ?_ _) | (with_reducible refine Kd.C_drew ?_) | exact HR546.out)) | (with_reducible refine Kd.C_alloc ?_ _) | (with_reducible refine Kd.C_drewN ?_ _) | (with_reducible refine Kd.C_drew ?_)))
                      (case side2 => exact HC546.out)
                      rintro e w63 ⟨v548, rfl, ho0, hb⟩
                      have HS0_ := (hb.cell (World.block_lt_of_cell? _ _ (hHeld))).trans (hHeld)
                      refine ⟨_, rfl, ?_⟩
                      have n0_ := Aside0.mk (Kd.R_elder' (by (with_reducible repeat (first | apply Kd.R_alloc | apply Kd.R_drewN | apply Kd.R_drew)); exact HO_4.out) (Kd.R_base ho0) hb)
                      have n1_ := Aside0.mk (Kd.R_lower (Kd.R_new' ho0 (Kd.R_lt (by (with_reducible repeat (first | apply Kd.R_alloc | apply Kd.R_drewN | apply Kd.R_drew)); exact HO_4.out))) (below_size (by repeat (first | (with_reducible first | exact HB.out | apply below_alloc | apply pw_below_drewN | apply below_drew1 | refine below_set ?_ GE528.out | refine below_set ?_ GE550.out) | exact HB.out))))
                      have n2_ := Aside0.mk (blk_below (g := gb528) (o := .cells #[.bool false, .int .u64 0, .slice none 0 0] 69 (0, 0)) (by (with_reducible repeat (first | refine blk_drewN ?_ _ | refine blk_drew ?_ | refine blk_alloc ?_ _)); exact BK528.out) hb)
                      have n3_ := Aside0.mk (Kd.C_below (by repeat (first | (with_reducible exact HR538.out) | (with_reducible refine Kd.C_alloc ?_ _) | (with_reducible refine Kd.C_drewN ?_ _) | (with_reducible refine Kd.C_drew ?_) | exact HR538.out)) hb)
                      have n4_ := Aside0.mk (Kd.C_below (by repeat (first | (with_reducible exact HR546.out) | (with_reducible refine Kd.C_alloc ?_ _) | (with_reducible refine Kd.C_drewN ?_ _) | (with_reducible refine Kd.C_drew ?_) | exact HR546.out)) hb)
                      have n5_ := Aside0.mk (blk_below (g := gb550) (o := .cells #[.bool false, .int .u64 0, .slice none 0 0] 69 (0, 0)) (by (with_reducible repeat (first | refine blk_drewN ?_ _ | refine blk_drew ?_ | refine blk_alloc ?_ _)); exact BK550.out) hb)
                      have n6_ := Aside0.mk (below_step (by repeat (first | (with_reducible first | exact HB.out | apply below_alloc | apply pw_below_drewN | apply below_drew1 | refine below_set ?_ GE528.out | refine below_set ?_ GE550.out) | exact HB.out)) hb)
                      clear HO_4
                      clear BK528
                      clear HR538
                      clear HR546
                      clear BK550
                      clear HB
                      have HO_4 := n0_
                      have HO549 := n1_
                      have BK528 := n2_
                      have HR538 := n3_
                      have HR546 := n4_
                      have BK550 := n5_
                      have HB := n6_
                      clear n0_ n1_ n2_ n3_ n4_ n5_ n6_
                      (try clear hb)
                      (try clear hb2)
                      (try clear hk)
                      (try clear hi)
                      (try clear ho0)
                      obtain ⟨Ao64, co64, eo64⟩ := Kd.R_slice HO549.out
                      (first | subst eo64 | (injection eo64 with f1_ f2_ f3_; have f4_ := f1_.symm; have f5_ := f3_.symm; clear f1_ f2_ f3_; subst f4_; subst f5_))
                      refine hK.out _ _ (HS0_) (fun hHeld => ?_)
                      clear hK K
                      refine norm_ (a' := ?_) ?_ ?_
                      rotate_left
                      · show Act.put _ (some 51) _ = _
                        simp only [Act.put, List.setIfInBounds_toArray, List.set_cons_zero, List.set_cons_succ, i64_w, i32_w]
                        rfl
                      refine pure_ (i := 10) (N := some 52) (v := ?_) (a' := ?_) #[true, true, true, true, true, true, true, true, true, true, true, true, false] rfl rfl (any_of HT_.out (by kernel_rfl)) (fun _ _ _ h => h) (Or.inl ⟨by rfl, ?_⟩) ?_ ?_
                      rotate_left
                      · intro w'
                        go_simp
                        with_reducible rfl
                      rotate_left
                      · simp only [Act.put, List.setIfInBounds_toArray, List.set_cons_zero, List.set_cons_succ, i64_w, i32_w]
                        rfl
                      exact norm_ (by simp only [putAll, Act.put, List.setIfInBounds_toArray, List.set_cons_zero, List.set_cons_succ]) (hCont (.slice Ao64 t547.length co64, gb550) _ ⟨hHeld, (by (with_reducible repeat (first | apply Kd.R_alloc | apply Kd.R_drewN | apply Kd.R_drew)); exact Kd.R_mono HO549.out (fun _ hk => hk.2)), (by (with_reducible repeat (first | apply Kd.R_alloc | apply Kd.R_drewN | apply Kd.R_drew)); exact Kd.R_mono HO_4.out (fun _ hk => hk.2)), (by (with_reducible repeat (first | refine blk_drewN ?_ _ | refine blk_drew ?_ | refine blk_alloc ?_ _)); exact BK528.out), (by (with_reducible repeat (first | refine blk_drewN ?_ _ | refine blk_drew ?_ | refine blk_alloc ?_ _)); exact BK550.out), GW550.out, GE550.out, NB528_550.out, NB550_528.out, (by repeat (first | (with_reducible first | exact HB.out | apply below_alloc | apply pw_below_drewN | apply below_drew1 | refine below_set ?_ GE528.out | refine below_set ?_ GE550.out) | exact HB.out))⟩)
                  rintro ⟨v548, gb550⟩ w65 ⟨hS_, h0_, h1_, h2_, h3_, h4_, h5_, h6_, h7_, h8_⟩
                  have n0_ : Aside0 (Kd.R (Kd.int .u8) 5 w65 w.heap.size (fun k_ => some k_ ≠ (.slice (some ad542) t529.length co59 : Value).ownBlock) v548 t547) := ⟨h0_⟩
                  have n1_ : Aside0 (Kd.R (Kd.int .u8) 5 w65 w.heap.size (fun k_ => some k_ ≠ (v548 : Value).ownBlock) (.slice (some ad542) t529.length co59) t529) := ⟨h1_⟩
                  have n2_ : Aside0 (w65.heap[gb528]? = some (.cells #[.bool false, .int .u64 0, .slice none 0 0] 69 (0, 0))) := ⟨h2_⟩
                  have n3_ : Aside0 (w65.heap[gb550]? = some (.cells #[.bool false, .int .u64 0, .slice none 0 0] 69 (0, 0))) := ⟨h3_⟩
                  have n4_ : Aside0 (w.heap.size ≤ gb550) := ⟨h4_⟩
                  have n5_ : Aside0 (w.heap.size ≤ gb550) := ⟨h5_⟩
                  have n6_ : Aside0 (gb528 ≠ gb550) := ⟨h6_⟩
                  have n7_ : Aside0 (gb550 ≠ gb528) := ⟨h7_⟩
                  have n8_ : Aside0 (Below w.heap.size w w65) := ⟨h8_⟩
                  clear HO_4
                  clear BK528
                  clear HR538
                  clear HB
                  clear h0_ h1_ h2_ h3_ h4_ h5_ h6_ h7_ h8_
                  have HO549 := n0_
                  have HO_4 := n1_
                  have BK528 := n2_
                  have BK550 := n3_
                  have GW550 := n4_
                  have GE550 := n5_
                  have NB528_550 := n6_
                  have NB550_528 := n7_
                  have HB := n8_
                  clear n0_ n1_ n2_ n3_ n4_ n5_ n6_ n7_ n8_
                  have hHeld : w65.cell? ad542 = some (.int .u8 (rd t529 0)) := hS_
                  obtain ⟨Ao66, co66, eo66⟩ := Kd.R_slice HO549.out
                  (first | subst eo66 | (injection eo66 with f1_ f2_ f3_; have f4_ := f1_.symm; have f5_ := f3_.symm; clear f1_ f2_ f3_; subst f4_; subst f5_))
                  refine norm_ (a' := ?_) ?_ ?_
                  rotate_left
                  · simp only [putAll, Act.put, List.setIfInBounds_toArray, List.set_cons_zero, List.set_cons_succ]
                    rfl
                  refine one_ (i := 12) (N := none) #[true, true, true, true, true, true, true, true, true, true, true, true, true] rfl rfl (one_of HT_.out (by kernel_rfl)) (by decide) (fun K hK => ?_)
                  have hs67 : w65.cell? ⟨gb550, 0, none⟩ = some (.bool false) := (blk_cell BK550.out 0).trans rfl
                  have hfs67 := blk_frozen BK550.out 0
                  have hns67_0 := NB528_550.out
                  have hms67_0 := NB550_528.out
                  have hs68 : w65.cell? ⟨gb550, 1, none⟩ = some (.int .u64 0) := (blk_cell BK550.out 1).trans rfl
                  have hfs68 := blk_frozen BK550.out 1
                  have hns68_0 := NB528_550.out
                  have hms68_0 := NB550_528.out
                  have hs69 : w65.cell? ⟨gb550, 2, none⟩ = some (.slice none 0 0) := (blk_cell BK550.out 2).trans rfl
                  have hfs69 := blk_frozen BK550.out 2
                  have hns69_0 := NB528_550.out
                  have hms69_0 := NB550_528.out
                  refine skip_ (w1 := ?_) (by rfl) rfl ?_ ?_
                  rotate_left
                  · go_simp
                    rfl
                  refine hK.out _ _ (((cell_far (p := ⟨gb550, _, none⟩) (by first | exact Kd.own_blk (Kd.R_ne HO_4.out BK550.out (by decide)) | (rw [add_block]; exact Kd.own_blk (Kd.R_ne HO_4.out BK550.out (by decide))) | (show (Addr.add _ _).block ≠ _; rw [add_block]; exact Kd.own_blk (Kd.R_ne HO_4.out BK550.out (by decide))) | (dsimp only; exact Kd.own_blk (Kd.R_ne HO_4.out BK550.out (by decide)))) _).trans (((cell_far (p := ⟨gb550, _, none⟩) (by first | exact Kd.own_blk (Kd.R_ne HO_4.out BK550.out (by decide)) | (rw [add_block]; exact Kd.own_blk (Kd.R_ne HO_4.out BK550.out (by decide))) | (show (Addr.add _ _).block ≠ _; rw [add_block]; exact Kd.own_blk (Kd.R_ne HO_4.out BK550.out (by decide))) | (dsimp only; exact Kd.own_blk (Kd.R_ne HO_4.out BK550.out (by decide)))) _).trans (((cell_far (p := ⟨gb550, _, none⟩) (by first | exact Kd.own_blk (Kd.R_ne HO_4.out BK550.out (by decide)) | (rw [add_block]; exact Kd.own_blk (Kd.R_ne HO_4.out BK550.out (by decide))) | (show (Addr.add _ _).block ≠ _; rw [add_block]; exact Kd.own_blk (Kd.R_ne HO_4.out BK550.out (by decide))) | (dsimp only; exact Kd.own_blk (Kd.R_ne HO_4.out BK550.out (by decide)))) _).trans (hHeld))))))) (fun hHeld => ?_)
                  clear hK K
                  refine done_ (done_of HT_.out (by kernel_rfl)) ?_
                  have hnb70 := NB528_550.out
                  have hnc70 := NB550_528.out
                  have hcz71_0 : w65.cell? ⟨gb528, 0, none⟩ = some (.bool false) := (blk_cell BK528.out 0).trans rfl
                  have hcz71_1 : w65.cell? ⟨gb528, 1, none⟩ = some (.int .u64 0) := (blk_cell BK528.out 1).trans rfl
                  have hcz71_2 : w65.cell? ⟨gb528, 2, none⟩ = some (.slice none 0 0) := (blk_cell BK528.out 2).trans rfl
                  have hfz71_0 := blk_frozen BK528.out 0
                  have hfz71_1 := blk_frozen BK528.out 1
                  have hfz71_2 := blk_frozen BK528.out 2
                  try go_wp2
                  refine bodyPost_ret (results_ct rfl _ _ gb528 69 #[.bool false, .int .u64 0, .slice none 0 0] (0, 0) _ rfl (by (with_reducible repeat (first | refine blk_drewN ?_ _ | refine blk_drew ?_ | refine blk_alloc ?_ _)); refine blk_put (cs := #[.bool false, .int .u64 0, .slice none 0 0]) ?_ 2 _ rfl; (with_reducible repeat (first | refine blk_drewN ?_ _ | refine blk_drew ?_ | refine blk_alloc ?_ _)); refine blk_put (cs := #[.bool false, .int .u64 0, .slice none 0 0]) ?_ 1 _ rfl; (with_reducible repeat (first | refine blk_drewN ?_ _ | refine blk_drew ?_ | refine blk_alloc ?_ _)); refine blk_put (cs := #[.bool false, .int .u64 0, .slice none 0 0]) ?_ 0 _ rfl; (with_reducible repeat (first | refine blk_drewN ?_ _ | refine blk_drew ?_ | refine blk_alloc ?_ _)); refine blk_far ?_ NB528_550.out _; (with_reducible repeat (first | refine blk_drewN ?_ _ | refine blk_drew ?_ | refine blk_alloc ?_ _)); refine blk_far ?_ NB528_550.out _; (with_reducible repeat (first | refine blk_drewN ?_ _ | refine blk_drew ?_ | refine blk_alloc ?_ _)); refine blk_far ?_ NB528_550.out _; (with_reducible repeat (first | refine blk_drewN ?_ _ | refine blk_drew ?_ | refine blk_alloc ?_ _)); exact BK528.out) Try.underlying69 rfl (by kernel_rfl)) rfl ?_
                  exact ⟨_, by first | rfl | (simp [errW_none, errW_some] <;> rfl) | (simp only [← hji18]; first | rfl | (simp [errW_none, errW_some] <;> rfl)) | (simp [*, errW_none, errW_some] <;> rfl), by first | exact Kd.R_nil _ _ _ _ _ | exact Kd.N_nil _ _ _ _ _ | exact Kd.V_nil _ _ _ _ _ | exact Kd.Q_nil _ _ _ _ _ | exact Kd.S_nil _ _ _ _ _, by repeat (first | (with_reducible first | exact HB.out | apply below_alloc | apply pw_below_drewN | apply below_drew1 | refine below_set ?_ GE528.out | refine below_set ?_ GE550.out) | exact HB.out)⟩
              · rw [if_neg c20] at H
                exact absurd H (by simp)
            · rw [if_neg c19] at H
              exact absurd H (by simp)
          · rw [if_neg c17] at H
            exact absurd H (by simp)
        · rw [if_neg c15] at H
          exact absurd H (by simp)

end Go.Proofs.Ytlaojndlelcdaaa.P
