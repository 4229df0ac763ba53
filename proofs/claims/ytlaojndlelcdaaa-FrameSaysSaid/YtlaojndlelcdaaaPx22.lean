/- Written by pp.py, a program of this session over the printer of the kit: what the functions of the program compute, and that they do so; of a law: its row, without a condition. -/
import Derived.Test.YtlaojndlelcdaaaPx0
import Derived.Test.YtlaojndlelcdaaaPx14
import Derived.Test.YtlaojndlelcdaaaPx15
import Derived.Test.YtlaojndlelcdaaaPx16
import Derived.Test.YtlaojndlelcdaaaPx17
import Derived.Test.YtlaojndlelcdaaaPx19
import Derived.Test.YtlaojndlelcdaaaPx20
import Derived.Test.YtlaojndlelcdaaaPx21
namespace Go.Proofs.Ytlaojndlelcdaaa.P
open Go.RowKit Go.Proofs.YtlaojndlelcdaaaW.PrintWords Go.Proofs.YtlaojndlelcdaaaW.PrintLast Go.Proofs.YtlaojndlelcdaaaW.PrintMore
attribute [local go_sem] max2_int min2_int max_two min_two max_three min_three max_four min_four   -- for this text's walks alone
set_option linter.unusedVariables false
set_option linter.unusedSimpArgs false

/-! ### tallymanlaw20_FrameSays: function 14 -/
def tallymanlaw20_FrameSays.j0 : Nat → List Int → Bool → Bool → Int → List Int → Option (Bool)
  | 0, _, _, _, _, _ => none
  | k + 1, x1, x19, x695000, x695001, x695002 => if x19 = true then (some true) else ((frame_Get.f k x1).bind fun bt696 => ((tallymanref19_GetFrame.f k x1).bind fun bt703 => ((frame_Good.f x695000 x695001 x695002).bind fun t710 => ((tallymanlaw20_own.f x695000 x695001 x695002).bind fun bt711 => ((tallymanref19_GoodFrame.f bt711.1 bt711.2.1 bt711.2.2).bind fun t716 => (if (t710 == t716) = true then ((frame_Put.f k x695000 x695001 x695002).bind fun t717 => ((tallymanlaw20_own.f x695000 x695001 x695002).bind fun bt720 => ((tallymanref19_PutFrame.f k bt720.1 bt720.2.1 bt720.2.2).bind fun t725 => (if (strOfNums t717).toList = (strOfNums t725).toList then (if bt696.2.2.2 = bt703.2.2.2 then ((tallymanlaw20_same.f bt696.1 bt696.2.1 bt696.2.2.1 bt703.1 bt703.2.1 bt703.2.2.1).bind fun t728 => (some t728)) else (some false)) else (some false))))) else (some false)))))))
def tallymanlaw20_FrameSays.f (k : Nat) (a0_0 : Bool) (a0_1 : Int) (l0_2 : List Int) (l1 : List Int) : Option (Bool) := (tallymanlaw20_awake.f k).bind fun t695 => (if t695 = true then (if (l0_2.length : Int) > 2000 then (tallymanlaw20_FrameSays.j0 k l1 true a0_0 a0_1 l0_2) else (tallymanlaw20_FrameSays.j0 k l1 (decide ((l1.length : Int) > 2000)) a0_0 a0_1 l0_2)) else (some false))
theorem tallymanlaw20_FrameSays.mono_l : ∀ k, (∀ y0 y1 y2 y3 y4, LeO (tallymanlaw20_FrameSays.j0 k y0 y1 y2 y3 y4) (tallymanlaw20_FrameSays.j0 (k + 1) y0 y1 y2 y3 y4))
  | 0 => fun _ _ _ _ _ r h => by simp [tallymanlaw20_FrameSays.j0] at h
  | k + 1 => by
    have ih0 := tallymanlaw20_FrameSays.mono_l k
    · intro y0 y1 y2 y3 y4
      unfold tallymanlaw20_FrameSays.j0
      repeat' first
      | (with_reducible exact ih0 _ _ _ _ _)
      | (with_reducible exact frame_Get.mono _ _)
      | (with_reducible exact frame_Put.mono _ _ _ _)
      | (with_reducible exact tallymanlaw20_awake.mono _)
      | (with_reducible exact tallymanref19_GetFrame.mono _ _)
      | (with_reducible exact tallymanref19_PutFrame.mono _ _ _ _)
      | (with_reducible exact LeO.refl _)
      | (with_reducible exact LeO.none _)
      | (with_reducible refine LeO.ite ?_ ?_)
      | (with_reducible refine LeO.bind ?_ (fun _ => ?_))
      | exact ih0 _ _ _ _ _
      | exact frame_Get.mono _ _
      | exact frame_Put.mono _ _ _ _
      | exact tallymanlaw20_awake.mono _
      | exact tallymanref19_GetFrame.mono _ _
      | exact tallymanref19_PutFrame.mono _ _ _ _
      | exact LeO.none _
      | refine LeO.ite ?_ ?_
      | refine LeO.bind ?_ (fun _ => ?_)
theorem tallymanlaw20_FrameSays.mono : ∀ a0 a1 a2 a3 k, LeO (tallymanlaw20_FrameSays.f k a0 a1 a2 a3) (tallymanlaw20_FrameSays.f (k + 1) a0 a1 a2 a3) := by
  intro a0 a1 a2 a3 k
  have ih0 := tallymanlaw20_FrameSays.mono_l k
  unfold tallymanlaw20_FrameSays.f
  repeat' first
      | (with_reducible exact ih0 _ _ _ _ _)
      | (with_reducible exact frame_Get.mono _ _)
      | (with_reducible exact frame_Put.mono _ _ _ _)
      | (with_reducible exact tallymanlaw20_awake.mono _)
      | (with_reducible exact tallymanref19_GetFrame.mono _ _)
      | (with_reducible exact tallymanref19_PutFrame.mono _ _ _ _)
      | (with_reducible exact LeO.refl _)
      | (with_reducible exact LeO.none _)
      | (with_reducible refine LeO.ite ?_ ?_)
      | (with_reducible refine LeO.bind ?_ (fun _ => ?_))
      | exact ih0 _ _ _ _ _
      | exact frame_Get.mono _ _
      | exact frame_Put.mono _ _ _ _
      | exact tallymanlaw20_awake.mono _
      | exact tallymanref19_GetFrame.mono _ _
      | exact tallymanref19_PutFrame.mono _ _ _ _
      | exact LeO.none _
      | refine LeO.ite ?_ ?_
      | refine LeO.bind ?_ (fun _ => ?_)
def tallymanlaw20_FrameSays.T7 : Bool × List (List Nat × List Nat) := (true, [([], []), ([0], [0]), ([], []), ([2, 1], [2]), ([3, 3], [3]), ([1, 4], [1, 4]), ([5, 4], [5]), ([6], [6]), ([7, 6, 6], [6, 7]), ([8, 6], [6, 8]), ([6], [6]), ([10, 8, 6], [6, 10]), ([11, 11, 6], [6, 11]), ([12, 6], [6, 12]), ([9, 13, 6], [6, 9, 13]), ([6, 14], [6, 14]), ([15, 12], [15]), ([16], [16]), ([16], [16]), ([17, 18, 16], [16, 17, 18]), ([16, 19], [16, 19]), ([20, 16], [20]), ([21], [21]), ([21], [21]), ([22, 23, 21, 21], [21, 22, 23]), ([21, 24], [21, 24]), ([25, 24, 0, 1, 2, 3, 4, 5, 6, 7, 8, 9, 10, 11, 12, 13, 14, 15, 16, 17, 18, 19, 20, 21, 22, 23, 24, 25], [25])])
def tallymanlaw20_FrameSays.B7 : List Nat := [0, 1, 0, 7, 15, 31, 63, 127, 255, 511, 127, 1535, 3583, 7679, 16383, 32767, 65535, 131071, 131071, 524287, 1048575, 2097151, 4194303, 4194303, 16777215, 33554431, 67108863]
theorem tallymanlaw20_FrameSays.tab7 : rtab .any (opsOf Try.f14 7) = tallymanlaw20_FrameSays.T7 := by kernel_rfl
theorem tallymanlaw20_FrameSays.bits7 : waitsOk tallymanlaw20_FrameSays.T7.2 tallymanlaw20_FrameSays.B7 = true := by kernel_rfl
set_option maxHeartbeats 8000000 in
set_option maxRecDepth 100000 in
theorem tallymanlaw20_FrameSays.calls (k : Nat) (a0_0 : Bool) (a0_1 : Int) (A0_2 : Option Addr) (c0_2 : Nat) (l0_2 : List Int) (A1 : Option Addr) (c1 : Nat) (l1 : List Int) (r : Bool) (w : World) (hr0_2 : Kd.C (Kd.int .u8) w A0_2 l0_2.length l0_2) (hc0_2 : l0_2.length ≤ c0_2) (hr1 : Kd.C (Kd.int .u8) w A1 l1.length l1) (hc1 : l1.length ≤ c1) (h : tallymanlaw20_FrameSays.f k a0_0 a0_1 l0_2 l1 = some r) (hr_ : r = true) :
    Calls Try.prog 14 #[.agg #[.bool a0_0, .int .u64 a0_1, .slice A0_2 l0_2.length c0_2], .slice A1 l1.length c1] w fun e w' => e = .returned (.bool r) ∧ Below w.heap.size w w' := by
  have HT_ := Aside0.mk hr_
  clear hr_
  have hu69 := Try.underlying69
  have hu75 := Try.underlying75
  have HR0_2 := Aside0.mk hr0_2
  have HC0_2 := Aside0.mk hc0_2
  clear hr0_2 hc0_2
  have HR1 := Aside0.mk hr1
  have HC1 := Aside0.mk hc1
  clear hr1 hc1
  have HB := Aside0.mk (Below.refl w.heap.size w)
  have H : ((tallymanlaw20_awake.f k).bind fun t695 => (if t695 = true then (if (l0_2.length : Int) > 2000 then (tallymanlaw20_FrameSays.j0 k l1 true a0_0 a0_1 l0_2) else (tallymanlaw20_FrameSays.j0 k l1 (decide ((l1.length : Int) > 2000)) a0_0 a0_1 l0_2)) else (some false))) = some r := h
  clear h
  replace H := Option.bind_eq_some_iff.mp H
  obtain ⟨t695, A30, H⟩ := H
  replace H : (if t695 = true then (if (l0_2.length : Int) > 2000 then (tallymanlaw20_FrameSays.j0 k l1 true a0_0 a0_1 l0_2) else (tallymanlaw20_FrameSays.j0 k l1 (decide ((l1.length : Int) > 2000)) a0_0 a0_1 l0_2)) else (some false)) = some r := H
  have A3 := Aside0.mk A30
  clear A30
  by_cases c4 : t695 = true
  · subst c4
    have H1 : (if (l0_2.length : Int) > 2000 then (tallymanlaw20_FrameSays.j0 k l1 true a0_0 a0_1 l0_2) else (tallymanlaw20_FrameSays.j0 k l1 (decide ((l1.length : Int) > 2000)) a0_0 a0_1 l0_2)) = some r := by rw [if_pos rfl] at H; exact H
    clear H
    have H := H1
    clear H1
    have HC5 := Aside0.mk H
    clear H
    go_enter Try.func14, Try.ntmps14
    go_upto_region 3 with (first | ((with_reducible refine gate_dst (N := 2) rfl ?_); (try (refine gate_guard (by rfl) ?_; dsimp only)); refine box_event ?hg (N := 2) ?hd (cs := #[.bool a0_0, .int .u64 a0_1, .slice A0_2 l0_2.length c0_2]) (t := 69) ?hr ?_; (case hd => rfl); (case hg => rfl); (case hr => first | (go_simp; done) | (go_simp; rfl)); intro gb694 hg w6 hbox hb; have n0_ := Aside0.mk (below_step (by repeat (first | (with_reducible first | exact HB.out | apply below_alloc | apply pw_below_drewN | apply below_drew1) | exact HB.out)) hb); have n1_ := Aside0.mk (hbox); have n2_ := Aside0.mk ((by rw [hg]; exact (below_size (by repeat (first | (with_reducible first | exact HB.out | apply below_alloc | apply pw_below_drewN | apply below_drew1) | exact HB.out))) : w.heap.size ≤ gb694)); have n3_ := Aside0.mk ((by rw [hg]; exact (below_size (by repeat (first | (with_reducible first | exact HB.out | apply below_alloc | apply pw_below_drewN | apply below_drew1) | exact HB.out))) : w.heap.size ≤ gb694)); clear HB; have HB := n0_; have BK694 := n1_; have GW694 := n2_; have GE694 := n3_; clear n0_ n1_ n2_ n3_; clear hb hbox hg) | ((with_reducible refine gate_callee (f := 48) rfl ?_); refine goesL_ (some 9) rfl rfl Try.func48 (by kernel_rfl) rfl #[] rfl (by (try simp only [List.map_toArray, List.map_cons, List.map_nil]); first | done | rfl | (simp only [List.length_drop, List.length_take]; rfl)) ?_; (with_reducible refine (tallymanlaw20_awake.calls k  true _ A3.out).mono ?_); rintro e w7 ⟨rfl, hb⟩; refine ⟨_, rfl, ?_⟩; have n0_ := Aside0.mk (blk_below (g := gb694) (o := .cells #[.bool a0_0, .int .u64 a0_1, .slice A0_2 l0_2.length c0_2] 69 (0, 0)) (by (with_reducible repeat (first | refine blk_drewN ?_ _ | refine blk_drew ?_ | refine blk_alloc ?_ _)); exact BK694.out) hb); have n1_ := Aside0.mk (below_step (by repeat (first | (with_reducible first | exact HB.out | apply below_alloc | apply pw_below_drewN | apply below_drew1 | refine below_set ?_ GE694.out) | exact HB.out)) hb); clear BK694; clear HB; have BK694 := n0_; have HB := n1_; clear n0_ n1_; (try clear hb); (try clear hb2); (try clear hk); (try clear hi)))
    (try simp only [Act.put, List.setIfInBounds_toArray, List.set_cons_zero, List.set_cons_succ])
    go_cut [19] (fun v19 wc => ∃ (kq : Nat) (x19_4 : Bool), v19 = .bool x19_4 ∧ Aside0 (tallymanlaw20_FrameSays.j0 kq l1 x19_4 a0_0 a0_1 l0_2 = some r) ∧ Aside0 (kq ≤ k) ∧ Aside0 (wc.heap[gb694]? = some (.cells #[.bool a0_0, .int .u64 a0_1, (.slice A0_2 l0_2.length c0_2)] 69 (0, 0))) ∧ Aside0 (Below w.heap.size w wc))
    case first =>
      have H := HC5.out
      clear HC5
      by_cases c8 : (l0_2.length : Int) > 2000
      · rw [if_pos c8] at H
        have c8b0 : decide (2000 < (l0_2.length : Int)) = true := decide_eq_true c8
        have c8b1 : decide (2000 < l0_2.length) = true := decide_eq_true (by omega)
        clear c8
        (first | rw [c8b0] | (simp only [i64_w, i32_w]; rw [c8b0]) | skip)
        have H' := Aside0.mk H
        clear H
        have hcz9_0 : w7.cell? ⟨gb694, 0, none⟩ = some (.bool a0_0) := (blk_cell BK694.out 0).trans rfl
        have hcz9_1 : w7.cell? ⟨gb694, 1, none⟩ = some (.int .u64 a0_1) := (blk_cell BK694.out 1).trans rfl
        have hcz9_2 : w7.cell? ⟨gb694, 2, none⟩ = some (.slice A0_2 l0_2.length c0_2) := (blk_cell BK694.out 2).trans rfl
        have hfz9_0 := blk_frozen BK694.out 0
        have hfz9_1 := blk_frozen BK694.out 1
        have hfz9_2 := blk_frozen BK694.out 2
        go_wp2
        go_meet
        case rel => exact ⟨_, (true), (by first | rfl | (simp; done) | (simp [*]; done)), H', ⟨by first | omega | exact Nat.le_refl _⟩, ⟨by (with_reducible repeat (first | refine blk_drewN ?_ _ | refine blk_drew ?_ | refine blk_alloc ?_ _)); exact BK694.out⟩, ⟨by repeat (first | (with_reducible first | exact HB.out | apply below_alloc | apply pw_below_drewN | apply below_drew1 | refine below_set ?_ GE694.out) | exact HB.out)⟩⟩
      · rw [if_neg c8] at H
        have c8b0 : decide (2000 < (l0_2.length : Int)) = false := decide_eq_false c8
        have c8b1 : decide (2000 < l0_2.length) = false := decide_eq_false (by omega)
        clear c8
        (first | rw [c8b0] | (simp only [i64_w, i32_w]; rw [c8b0]) | skip)
        have H' := Aside0.mk H
        clear H
        have hcz10_0 : w7.cell? ⟨gb694, 0, none⟩ = some (.bool a0_0) := (blk_cell BK694.out 0).trans rfl
        have hcz10_1 : w7.cell? ⟨gb694, 1, none⟩ = some (.int .u64 a0_1) := (blk_cell BK694.out 1).trans rfl
        have hcz10_2 : w7.cell? ⟨gb694, 2, none⟩ = some (.slice A0_2 l0_2.length c0_2) := (blk_cell BK694.out 2).trans rfl
        have hfz10_0 := blk_frozen BK694.out 0
        have hfz10_1 := blk_frozen BK694.out 1
        have hfz10_2 := blk_frozen BK694.out 2
        go_wp2
        go_meet
        case rel => exact ⟨_, (decide ((l1.length : Int) > 2000)), (by first | rfl | (simp; done) | (simp [*]; done)), H', ⟨by first | omega | exact Nat.le_refl _⟩, ⟨by (with_reducible repeat (first | refine blk_drewN ?_ _ | refine blk_drew ?_ | refine blk_alloc ?_ _)); exact BK694.out⟩, ⟨by repeat (first | (with_reducible first | exact HB.out | apply below_alloc | apply pw_below_drewN | apply below_drew1 | refine below_set ?_ GE694.out) | exact HB.out)⟩⟩
    case rest =>
      clear HC5
      try clear c1
      try clear p2
      try clear c4
      try clear c8
      try clear c8b0
      try clear c8b1
      try clear hcz10_0
      try clear hcz10_1
      try clear hcz10_2
      try clear hcz9_0
      try clear hcz9_1
      try clear hcz9_2
      try clear hfz10_0
      try clear hfz10_1
      try clear hfz10_2
      try clear hfz9_0
      try clear hfz9_1
      try clear hfz9_2
      obtain ⟨kq, x19_4, rfl, HA, HJ4, BK694, HB⟩ := hcut
      cases kq with
      | zero => exact absurd HA.out (by simp [tallymanlaw20_FrameSays.j0])
      | succ kj4 =>
        have H := HA.out
        clear HA
        simp only [tallymanlaw20_FrameSays.j0] at H
        by_cases c11 : x19_4 = true
        · subst c11
          have H1 : (some true) = some r := by rw [if_pos rfl] at H; exact H
          clear H
          have H := H1
          clear H1
          obtain rfl := Option.some.inj H
          go_wp2
          go_ret
          exact ⟨by first | rfl | (simp [errW_none, errW_some] <;> rfl) | (simp [*, errW_none, errW_some] <;> rfl), by repeat (first | (with_reducible first | exact HB.out | apply below_alloc | apply pw_below_drewN | apply below_drew1 | refine below_set ?_ GE694.out) | exact HB.out)⟩
        · replace c11 := Bool.eq_false_iff.mpr c11
          subst c11
          have H1 : ((frame_Get.f kj4 l1).bind fun bt696 => ((tallymanref19_GetFrame.f kj4 l1).bind fun bt703 => ((frame_Good.f a0_0 a0_1 l0_2).bind fun t710 => ((tallymanlaw20_own.f a0_0 a0_1 l0_2).bind fun bt711 => ((tallymanref19_GoodFrame.f bt711.1 bt711.2.1 bt711.2.2).bind fun t716 => (if (t710 == t716) = true then ((frame_Put.f kj4 a0_0 a0_1 l0_2).bind fun t717 => ((tallymanlaw20_own.f a0_0 a0_1 l0_2).bind fun bt720 => ((tallymanref19_PutFrame.f kj4 bt720.1 bt720.2.1 bt720.2.2).bind fun t725 => (if (strOfNums t717).toList = (strOfNums t725).toList then (if bt696.2.2.2 = bt703.2.2.2 then ((tallymanlaw20_same.f bt696.1 bt696.2.1 bt696.2.2.1 bt703.1 bt703.2.1 bt703.2.2.1).bind fun t728 => (some t728)) else (some false)) else (some false))))) else (some false))))))) = some r := by rw [if_neg (show ¬ (false = true) by decide)] at H; exact H
          clear H
          have H := H1
          clear H1
          replace H := Option.bind_eq_some_iff.mp H
          obtain ⟨⟨t696, t697, t698, t701⟩, A120, H⟩ := H
          replace H : ((tallymanref19_GetFrame.f kj4 l1).bind fun bt703 => ((frame_Good.f a0_0 a0_1 l0_2).bind fun t710 => ((tallymanlaw20_own.f a0_0 a0_1 l0_2).bind fun bt711 => ((tallymanref19_GoodFrame.f bt711.1 bt711.2.1 bt711.2.2).bind fun t716 => (if (t710 == t716) = true then ((frame_Put.f kj4 a0_0 a0_1 l0_2).bind fun t717 => ((tallymanlaw20_own.f a0_0 a0_1 l0_2).bind fun bt720 => ((tallymanref19_PutFrame.f kj4 bt720.1 bt720.2.1 bt720.2.2).bind fun t725 => (if (strOfNums t717).toList = (strOfNums t725).toList then (if t701 = bt703.2.2.2 then ((tallymanlaw20_same.f t696 t697 t698 bt703.1 bt703.2.1 bt703.2.2.1).bind fun t728 => (some t728)) else (some false)) else (some false))))) else (some false)))))) = some r := H
          have A12 := Aside0.mk A120
          clear A120
          replace H := Option.bind_eq_some_iff.mp H
          obtain ⟨⟨t703, t704, t705, t708⟩, A130, H⟩ := H
          replace H : ((frame_Good.f a0_0 a0_1 l0_2).bind fun t710 => ((tallymanlaw20_own.f a0_0 a0_1 l0_2).bind fun bt711 => ((tallymanref19_GoodFrame.f bt711.1 bt711.2.1 bt711.2.2).bind fun t716 => (if (t710 == t716) = true then ((frame_Put.f kj4 a0_0 a0_1 l0_2).bind fun t717 => ((tallymanlaw20_own.f a0_0 a0_1 l0_2).bind fun bt720 => ((tallymanref19_PutFrame.f kj4 bt720.1 bt720.2.1 bt720.2.2).bind fun t725 => (if (strOfNums t717).toList = (strOfNums t725).toList then (if t701 = t708 then ((tallymanlaw20_same.f t696 t697 t698 t703 t704 t705).bind fun t728 => (some t728)) else (some false)) else (some false))))) else (some false))))) = some r := H
          have A13 := Aside0.mk A130
          clear A130
          replace H := Option.bind_eq_some_iff.mp H
          obtain ⟨t710, A140, H⟩ := H
          replace H : ((tallymanlaw20_own.f a0_0 a0_1 l0_2).bind fun bt711 => ((tallymanref19_GoodFrame.f bt711.1 bt711.2.1 bt711.2.2).bind fun t716 => (if (t710 == t716) = true then ((frame_Put.f kj4 a0_0 a0_1 l0_2).bind fun t717 => ((tallymanlaw20_own.f a0_0 a0_1 l0_2).bind fun bt720 => ((tallymanref19_PutFrame.f kj4 bt720.1 bt720.2.1 bt720.2.2).bind fun t725 => (if (strOfNums t717).toList = (strOfNums t725).toList then (if t701 = t708 then ((tallymanlaw20_same.f t696 t697 t698 t703 t704 t705).bind fun t728 => (some t728)) else (some false)) else (some false))))) else (some false)))) = some r := H
          have A14 := Aside0.mk A140
          clear A140
          replace H := Option.bind_eq_some_iff.mp H
          obtain ⟨⟨t711, t712, t713⟩, A150, H⟩ := H
          replace H : ((tallymanref19_GoodFrame.f t711 t712 t713).bind fun t716 => (if (t710 == t716) = true then ((frame_Put.f kj4 a0_0 a0_1 l0_2).bind fun t717 => ((tallymanlaw20_own.f a0_0 a0_1 l0_2).bind fun bt720 => ((tallymanref19_PutFrame.f kj4 bt720.1 bt720.2.1 bt720.2.2).bind fun t725 => (if (strOfNums t717).toList = (strOfNums t725).toList then (if t701 = t708 then ((tallymanlaw20_same.f t696 t697 t698 t703 t704 t705).bind fun t728 => (some t728)) else (some false)) else (some false))))) else (some false))) = some r := H
          have A15 := Aside0.mk A150
          clear A150
          replace H := Option.bind_eq_some_iff.mp H
          obtain ⟨t716, A160, H⟩ := H
          replace H : (if (t710 == t716) = true then ((frame_Put.f kj4 a0_0 a0_1 l0_2).bind fun t717 => ((tallymanlaw20_own.f a0_0 a0_1 l0_2).bind fun bt720 => ((tallymanref19_PutFrame.f kj4 bt720.1 bt720.2.1 bt720.2.2).bind fun t725 => (if (strOfNums t717).toList = (strOfNums t725).toList then (if t701 = t708 then ((tallymanlaw20_same.f t696 t697 t698 t703 t704 t705).bind fun t728 => (some t728)) else (some false)) else (some false))))) else (some false)) = some r := H
          have A16 := Aside0.mk A160
          clear A160
          by_cases c17 : (t710 == t716) = true
          · rw [if_pos c17] at H
            have c17b0 : (t710 == t716) = true := c17
            (try (have c17b1 : decide (t710 = t716) = true := by simpa using c17))
            (try (have c17b2 : (t710 == t716) = true := by simpa using c17))
            clear c17
            replace H := Option.bind_eq_some_iff.mp H
            obtain ⟨t717, A180, H⟩ := H
            replace H : ((tallymanlaw20_own.f a0_0 a0_1 l0_2).bind fun bt720 => ((tallymanref19_PutFrame.f kj4 bt720.1 bt720.2.1 bt720.2.2).bind fun t725 => (if (strOfNums t717).toList = (strOfNums t725).toList then (if t701 = t708 then ((tallymanlaw20_same.f t696 t697 t698 t703 t704 t705).bind fun t728 => (some t728)) else (some false)) else (some false)))) = some r := H
            have A18 := Aside0.mk A180
            clear A180
            replace H := Option.bind_eq_some_iff.mp H
            obtain ⟨⟨t720, t721, t722⟩, A190, H⟩ := H
            replace H : ((tallymanref19_PutFrame.f kj4 t720 t721 t722).bind fun t725 => (if (strOfNums t717).toList = (strOfNums t725).toList then (if t701 = t708 then ((tallymanlaw20_same.f t696 t697 t698 t703 t704 t705).bind fun t728 => (some t728)) else (some false)) else (some false))) = some r := H
            have A19 := Aside0.mk A190
            clear A190
            replace H := Option.bind_eq_some_iff.mp H
            obtain ⟨t725, A200, H⟩ := H
            replace H : (if (strOfNums t717).toList = (strOfNums t725).toList then (if t701 = t708 then ((tallymanlaw20_same.f t696 t697 t698 t703 t704 t705).bind fun t728 => (some t728)) else (some false)) else (some false)) = some r := H
            have A20 := Aside0.mk A200
            clear A200
            by_cases c21 : (strOfNums t717).toList = (strOfNums t725).toList
            · rw [if_pos c21] at H
              have c21b0 : ((strOfNums t717).toList == (strOfNums t725).toList) = true := beq_iff_eq.mpr c21
              have c21b1 : ((strOfNums t717).toList != (strOfNums t725).toList) = false := bne_eq_false_iff_eq.mpr c21
              clear c21
              by_cases c22 : t701 = t708
              · rw [if_pos c22] at H
                have c22b0 : (t701 == t708) = true := beq_iff_eq.mpr c22
                have c22b1 : (t701 != t708) = false := bne_eq_false_iff_eq.mpr c22
                clear c22
                replace H := Option.bind_eq_some_iff.mp H
                obtain ⟨t728, A230, H⟩ := H
                replace H : (some t728) = some r := H
                have A23 := Aside0.mk A230
                clear A230
                obtain rfl := Option.some.inj H
                try go_wp2_with (first | ((with_reducible refine gate_callee (f := 51) rfl ?_); refine goesL_ (some 22) rfl rfl Try.func51 (by kernel_rfl) rfl #[.slice A1 l1.length c1] rfl (by (try simp only [List.map_toArray, List.map_cons, List.map_nil]); first | done | rfl | (simp only [List.length_drop, List.length_take]; rfl)) ?_; (with_reducible refine (frame_Get.calls kj4 _ _ l1 t696 t697 t698 t701 _ ?side1 ?side2 A12.out).mono ?_); (case side1 => repeat (first | exact (Kd.C_below HR1.out HB.out) | (with_reducible refine Kd.C_alloc ?_ _) | (with_reducible refine Kd.C_drewN ?_ _) | (with_reducible refine Kd.C_drew ?_))); (case side2 => exact HC1.out); rintro e w24 ⟨v699, rfl, ho0, hb⟩; refine ⟨_, rfl, ?_⟩; have n0_ := Aside0.mk (Kd.R_lower ho0 (below_size (by repeat (first | (with_reducible first | exact HB.out | apply below_alloc | apply pw_below_drewN | apply below_drew1 | refine below_set ?_ GE694.out) | exact HB.out)))); have n1_ := Aside0.mk (blk_below (g := gb694) (o := .cells #[.bool a0_0, .int .u64 a0_1, .slice A0_2 l0_2.length c0_2] 69 (0, 0)) (by (with_reducible repeat (first | refine blk_drewN ?_ _ | refine blk_drew ?_ | refine blk_alloc ?_ _)); exact BK694.out) hb); have n2_ := Aside0.mk (below_step (by repeat (first | (with_reducible first | exact HB.out | apply below_alloc | apply pw_below_drewN | apply below_drew1 | refine below_set ?_ GE694.out) | exact HB.out)) hb); clear BK694; clear HB; have HO700 := n0_; have BK694 := n1_; have HB := n2_; clear n0_ n1_ n2_; (try clear hb); (try clear hb2); (try clear hk); (try clear hi); (try clear ho0)) | ((with_reducible refine gate_dst (N := 5) rfl ?_); (try (refine gate_guard (by rfl) ?_; dsimp only)); refine box_event ?hg (N := 5) ?hd (cs := #[.bool false, .int .u64 0, .slice none 0 0]) (t := 69) ?hr ?_; (case hd => rfl); (case hg => rfl); (case hr => first | (go_simp; done) | (go_simp; rfl)); intro gb702 hg w25 hbox hb; have n0_ := Aside0.mk (Kd.R_below (by (with_reducible repeat (first | apply Kd.R_alloc | apply Kd.R_drewN | apply Kd.R_drew)); exact HO700.out) hb); have n1_ := Aside0.mk (blk_below (g := gb694) (o := .cells #[.bool a0_0, .int .u64 a0_1, .slice A0_2 l0_2.length c0_2] 69 (0, 0)) (by (with_reducible repeat (first | refine blk_drewN ?_ _ | refine blk_drew ?_ | refine blk_alloc ?_ _)); exact BK694.out) hb); have n2_ := Aside0.mk (below_step (by repeat (first | (with_reducible first | exact HB.out | apply below_alloc | apply pw_below_drewN | apply below_drew1 | refine below_set ?_ GE694.out) | exact HB.out)) hb); have n3_ := Aside0.mk (hbox); have n4_ := Aside0.mk ((by rw [hg]; exact (below_size (by repeat (first | (with_reducible first | exact HB.out | apply below_alloc | apply pw_below_drewN | apply below_drew1 | refine below_set ?_ GE694.out) | exact HB.out))) : w.heap.size ≤ gb702)); have n5_ := Aside0.mk ((by rw [hg]; exact (below_size (by repeat (first | (with_reducible first | exact HB.out | apply below_alloc | apply pw_below_drewN | apply below_drew1 | refine below_set ?_ GE694.out) | exact HB.out))) : w.heap.size ≤ gb702)); have n6_ := Aside0.mk ((by rw [hg]; exact Nat.ne_of_lt (blk_lt (g := gb694) (o := .cells #[.bool a0_0, .int .u64 a0_1, .slice A0_2 l0_2.length c0_2] 69 (0, 0)) (by (with_reducible repeat (first | refine blk_drewN ?_ _ | refine blk_drew ?_ | refine blk_alloc ?_ _)); exact BK694.out)) : gb694 ≠ gb702)); have n7_ := Aside0.mk ((by rw [hg]; exact Nat.ne_of_gt (blk_lt (g := gb694) (o := .cells #[.bool a0_0, .int .u64 a0_1, .slice A0_2 l0_2.length c0_2] 69 (0, 0)) (by (with_reducible repeat (first | refine blk_drewN ?_ _ | refine blk_drew ?_ | refine blk_alloc ?_ _)); exact BK694.out)) : gb702 ≠ gb694)); clear HO700; clear BK694; clear HB; have HO700 := n0_; have BK694 := n1_; have HB := n2_; have BK702 := n3_; have GW702 := n4_; have GE702 := n5_; have NB694_702 := n6_; have NB702_694 := n7_; clear n0_ n1_ n2_ n3_ n4_ n5_ n6_ n7_; clear hb hbox hg; have hnb26 := NB702_694.out; have hnc26 := NB694_702.out; have hcz27_0 : w25.cell? ⟨gb702, 0, none⟩ = some (.bool false) := (blk_cell BK702.out 0).trans rfl; have hcz27_1 : w25.cell? ⟨gb702, 1, none⟩ = some (.int .u64 0) := (blk_cell BK702.out 1).trans rfl; have hcz27_2 : w25.cell? ⟨gb702, 2, none⟩ = some (.slice none 0 0) := (blk_cell BK702.out 2).trans rfl; have hfz27_0 := blk_frozen BK702.out 0; have hfz27_1 := blk_frozen BK702.out 1; have hfz27_2 := blk_frozen BK702.out 2; obtain ⟨Ao28, co28, eo28⟩ := Kd.R_slice HO700.out; subst eo28) | ((with_reducible refine gate_callee (f := 52) rfl ?_); refine goesL_ (some 27) rfl rfl Try.func52 (by kernel_rfl) rfl #[.slice A1 l1.length c1] rfl (by (try simp only [List.map_toArray, List.map_cons, List.map_nil]); first | done | rfl | (simp only [List.length_drop, List.length_take]; rfl)) ?_; (with_reducible refine (tallymanref19_GetFrame.calls kj4 _ _ l1 t703 t704 t705 t708 _ ?side1 ?side2 A13.out).mono ?_); (case side1 => exact Kd.C_below HR1.out (by repeat (first | (with_reducible first | exact HB.out | apply below_alloc | apply pw_below_drewN | apply below_drew1 | refine below_set ?_ GE694.out | refine below_set ?_ GE702.out) | exact HB.out))); (case side2 => exact HC1.out); rintro e w29 ⟨v706, rfl, ho0, hb⟩; refine ⟨_, rfl, ?_⟩; have n0_ := Aside0.mk (Kd.R_elder' (by (with_reducible repeat (first | apply Kd.R_alloc | apply Kd.R_drewN | apply Kd.R_drew)); exact (Kd.R_mono (Kd.R_far (p := ⟨gb702, 2, none⟩) (Kd.R_far (p := ⟨gb702, 1, none⟩) (Kd.R_far (p := ⟨gb702, 0, none⟩) (Kd.R_types HO700.out BK702.out (by decide)) (fun _ hk => hk.2) (.bool t696)) (fun _ hk => hk.2) (.int .u64 t697)) (fun _ hk => hk.2) (.slice Ao28 t698.length co28)) (fun _ h_ => h_.1))) (Kd.R_base ho0) hb); have n1_ := Aside0.mk (Kd.R_lower (Kd.R_new' ho0 (Kd.R_lt (by (with_reducible repeat (first | apply Kd.R_alloc | apply Kd.R_drewN | apply Kd.R_drew)); exact (Kd.R_mono (Kd.R_far (p := ⟨gb702, 2, none⟩) (Kd.R_far (p := ⟨gb702, 1, none⟩) (Kd.R_far (p := ⟨gb702, 0, none⟩) (Kd.R_types HO700.out BK702.out (by decide)) (fun _ hk => hk.2) (.bool t696)) (fun _ hk => hk.2) (.int .u64 t697)) (fun _ hk => hk.2) (.slice Ao28 t698.length co28)) (fun _ h_ => h_.1))))) (below_size (by repeat (first | (with_reducible first | exact HB.out | apply below_alloc | apply pw_below_drewN | apply below_drew1 | refine below_set ?_ GE694.out | refine below_set ?_ GE702.out) | exact HB.out)))); have n2_ := Aside0.mk (blk_below (g := gb694) (o := .cells #[.bool a0_0, .int .u64 a0_1, .slice A0_2 l0_2.length c0_2] 69 (0, 0)) (by (with_reducible repeat (first | refine blk_drewN ?_ _ | refine blk_drew ?_ | refine blk_alloc ?_ _)); refine blk_far ?_ NB694_702.out _; (with_reducible repeat (first | refine blk_drewN ?_ _ | refine blk_drew ?_ | refine blk_alloc ?_ _)); refine blk_far ?_ NB694_702.out _; (with_reducible repeat (first | refine blk_drewN ?_ _ | refine blk_drew ?_ | refine blk_alloc ?_ _)); refine blk_far ?_ NB694_702.out _; (with_reducible repeat (first | refine blk_drewN ?_ _ | refine blk_drew ?_ | refine blk_alloc ?_ _)); exact BK694.out) hb); have n3_ := Aside0.mk (blk_below (g := gb702) (o := .cells #[.bool t696, .int .u64 t697, .slice Ao28 t698.length co28] 69 (0, 0)) (by (with_reducible repeat (first | refine blk_drewN ?_ _ | refine blk_drew ?_ | refine blk_alloc ?_ _)); refine blk_put (cs := #[.bool t696, .int .u64 t697, .slice none 0 0]) ?_ 2 _ rfl; (with_reducible repeat (first | refine blk_drewN ?_ _ | refine blk_drew ?_ | refine blk_alloc ?_ _)); refine blk_put (cs := #[.bool t696, .int .u64 0, .slice none 0 0]) ?_ 1 _ rfl; (with_reducible repeat (first | refine blk_drewN ?_ _ | refine blk_drew ?_ | refine blk_alloc ?_ _)); refine blk_put (cs := #[.bool false, .int .u64 0, .slice none 0 0]) ?_ 0 _ rfl; (with_reducible repeat (first | refine blk_drewN ?_ _ | refine blk_drew ?_ | refine blk_alloc ?_ _)); exact BK702.out) hb); have n4_ := Aside0.mk (below_step (by repeat (first | (with_reducible first | exact HB.out | apply below_alloc | apply pw_below_drewN | apply below_drew1 | refine below_set ?_ GE694.out | refine below_set ?_ GE702.out) | exact HB.out)) hb); clear HO700; clear BK694; clear BK702; clear HB; have HO700 := n0_; have HO707 := n1_; have BK694 := n2_; have BK702 := n3_; have HB := n4_; clear n0_ n1_ n2_ n3_ n4_; (try clear hb); (try clear hb2); (try clear hk); (try clear hi); (try clear ho0)) | ((with_reducible refine gate_dst (N := 7) rfl ?_); (try (refine gate_guard (by rfl) ?_; dsimp only)); refine box_event ?hg (N := 7) ?hd (cs := #[.bool false, .int .u64 0, .slice none 0 0]) (t := 75) ?hr ?_; (case hd => rfl); (case hg => rfl); (case hr => first | (go_simp; done) | (go_simp; rfl)); intro gb709 hg w30 hbox hb; have n0_ := Aside0.mk (Kd.R_below (by (with_reducible repeat (first | apply Kd.R_alloc | apply Kd.R_drewN | apply Kd.R_drew)); exact HO700.out) hb); have n1_ := Aside0.mk (Kd.R_below (by (with_reducible repeat (first | apply Kd.R_alloc | apply Kd.R_drewN | apply Kd.R_drew)); exact HO707.out) hb); have n2_ := Aside0.mk (blk_below (g := gb694) (o := .cells #[.bool a0_0, .int .u64 a0_1, .slice A0_2 l0_2.length c0_2] 69 (0, 0)) (by (with_reducible repeat (first | refine blk_drewN ?_ _ | refine blk_drew ?_ | refine blk_alloc ?_ _)); exact BK694.out) hb); have n3_ := Aside0.mk (blk_below (g := gb702) (o := .cells #[.bool t696, .int .u64 t697, .slice Ao28 t698.length co28] 69 (0, 0)) (by (with_reducible repeat (first | refine blk_drewN ?_ _ | refine blk_drew ?_ | refine blk_alloc ?_ _)); exact BK702.out) hb); have n4_ := Aside0.mk (below_step (by repeat (first | (with_reducible first | exact HB.out | apply below_alloc | apply pw_below_drewN | apply below_drew1 | refine below_set ?_ GE694.out | refine below_set ?_ GE702.out) | exact HB.out)) hb); have n5_ := Aside0.mk (hbox); have n6_ := Aside0.mk ((by rw [hg]; exact (below_size (by repeat (first | (with_reducible first | exact HB.out | apply below_alloc | apply pw_below_drewN | apply below_drew1 | refine below_set ?_ GE694.out | refine below_set ?_ GE702.out) | exact HB.out))) : w.heap.size ≤ gb709)); have n7_ := Aside0.mk ((by rw [hg]; exact (below_size (by repeat (first | (with_reducible first | exact HB.out | apply below_alloc | apply pw_below_drewN | apply below_drew1 | refine below_set ?_ GE694.out | refine below_set ?_ GE702.out) | exact HB.out))) : w.heap.size ≤ gb709)); have n8_ := Aside0.mk ((by rw [hg]; exact Nat.ne_of_lt (blk_lt (g := gb694) (o := .cells #[.bool a0_0, .int .u64 a0_1, .slice A0_2 l0_2.length c0_2] 69 (0, 0)) (by (with_reducible repeat (first | refine blk_drewN ?_ _ | refine blk_drew ?_ | refine blk_alloc ?_ _)); exact BK694.out)) : gb694 ≠ gb709)); have n9_ := Aside0.mk ((by rw [hg]; exact Nat.ne_of_gt (blk_lt (g := gb694) (o := .cells #[.bool a0_0, .int .u64 a0_1, .slice A0_2 l0_2.length c0_2] 69 (0, 0)) (by (with_reducible repeat (first | refine blk_drewN ?_ _ | refine blk_drew ?_ | refine blk_alloc ?_ _)); exact BK694.out)) : gb709 ≠ gb694)); have n10_ := Aside0.mk ((by rw [hg]; exact Nat.ne_of_lt (blk_lt (g := gb702) (o := .cells #[.bool t696, .int .u64 t697, .slice Ao28 t698.length co28] 69 (0, 0)) (by (with_reducible repeat (first | refine blk_drewN ?_ _ | refine blk_drew ?_ | refine blk_alloc ?_ _)); exact BK702.out)) : gb702 ≠ gb709)); have n11_ := Aside0.mk ((by rw [hg]; exact Nat.ne_of_gt (blk_lt (g := gb702) (o := .cells #[.bool t696, .int .u64 t697, .slice Ao28 t698.length co28] 69 (0, 0)) (by (with_reducible repeat (first | refine blk_drewN ?_ _ | refine blk_drew ?_ | refine blk_alloc ?_ _)); exact BK702.out)) : gb709 ≠ gb702)); clear HO700; clear HO707; clear BK694; clear BK702; clear HB; have HO700 := n0_; have HO707 := n1_; have BK694 := n2_; have BK702 := n3_; have HB := n4_; have BK709 := n5_; have GW709 := n6_; have GE709 := n7_; have NB694_709 := n8_; have NB709_694 := n9_; have NB702_709 := n10_; have NB709_702 := n11_; clear n0_ n1_ n2_ n3_ n4_ n5_ n6_ n7_ n8_ n9_ n10_ n11_; clear hb hbox hg; have hnb31 := NB709_694.out; have hnc31 := NB694_709.out; have hnb32 := NB709_702.out; have hnc32 := NB702_709.out; have hcz33_0 : w30.cell? ⟨gb709, 0, none⟩ = some (.bool false) := (blk_cell BK709.out 0).trans rfl; have hcz33_1 : w30.cell? ⟨gb709, 1, none⟩ = some (.int .u64 0) := (blk_cell BK709.out 1).trans rfl; have hcz33_2 : w30.cell? ⟨gb709, 2, none⟩ = some (.slice none 0 0) := (blk_cell BK709.out 2).trans rfl; have hfz33_0 := blk_frozen BK709.out 0; have hfz33_1 := blk_frozen BK709.out 1; have hfz33_2 := blk_frozen BK709.out 2; obtain ⟨Ao34, co34, eo34⟩ := Kd.R_slice HO707.out; subst eo34))
                have n0_ : Aside0 (Kd.R (Kd.int .u8) 5 (((w30.setCell ⟨gb709, 0, none⟩ (.bool t703)).setCell ⟨gb709, 1, none⟩ (.int .u64 t704)).setCell ⟨gb709, 2, none⟩ (.slice Ao34 t705.length co34)) w.heap.size (fun k_ => some k_ ≠ (.slice Ao34 t705.length co34 : Value).ownBlock) (.slice Ao28 t698.length co28) t698) := ⟨by (with_reducible repeat (first | apply Kd.R_alloc | apply Kd.R_drewN | apply Kd.R_drew)); exact Kd.R_mono (Kd.R_far (p := ⟨gb709, 2, none⟩) (Kd.R_far (p := ⟨gb709, 1, none⟩) (Kd.R_far (p := ⟨gb709, 0, none⟩) (Kd.R_types HO700.out BK709.out (by decide)) (fun _ hk => hk.2) (.bool t703)) (fun _ hk => hk.2) (.int .u64 t704)) (fun _ hk => hk.2) (.slice Ao34 t705.length co34)) (fun _ hk => hk.1.2)⟩
                have n1_ : Aside0 (Kd.R (Kd.int .u8) 5 (((w30.setCell ⟨gb709, 0, none⟩ (.bool t703)).setCell ⟨gb709, 1, none⟩ (.int .u64 t704)).setCell ⟨gb709, 2, none⟩ (.slice Ao34 t705.length co34)) w.heap.size (fun k_ => some k_ ≠ (.slice Ao28 t698.length co28 : Value).ownBlock) (.slice Ao34 t705.length co34) t705) := ⟨by (with_reducible repeat (first | apply Kd.R_alloc | apply Kd.R_drewN | apply Kd.R_drew)); exact Kd.R_mono (Kd.R_far (p := ⟨gb709, 2, none⟩) (Kd.R_far (p := ⟨gb709, 1, none⟩) (Kd.R_far (p := ⟨gb709, 0, none⟩) (Kd.R_types HO707.out BK709.out (by decide)) (fun _ hk => hk.2) (.bool t703)) (fun _ hk => hk.2) (.int .u64 t704)) (fun _ hk => hk.2) (.slice Ao34 t705.length co34)) (fun _ hk => hk.1.2)⟩
                have n2_ : Aside0 ((((w30.setCell ⟨gb709, 0, none⟩ (.bool t703)).setCell ⟨gb709, 1, none⟩ (.int .u64 t704)).setCell ⟨gb709, 2, none⟩ (.slice Ao34 t705.length co34)).heap[gb694]? = some (.cells #[.bool a0_0, .int .u64 a0_1, .slice A0_2 l0_2.length c0_2] 69 (0, 0))) := ⟨by (with_reducible repeat (first | refine blk_drewN ?_ _ | refine blk_drew ?_ | refine blk_alloc ?_ _)); refine blk_far ?_ NB694_709.out _; (with_reducible repeat (first | refine blk_drewN ?_ _ | refine blk_drew ?_ | refine blk_alloc ?_ _)); refine blk_far ?_ NB694_709.out _; (with_reducible repeat (first | refine blk_drewN ?_ _ | refine blk_drew ?_ | refine blk_alloc ?_ _)); refine blk_far ?_ NB694_709.out _; (with_reducible repeat (first | refine blk_drewN ?_ _ | refine blk_drew ?_ | refine blk_alloc ?_ _)); exact BK694.out⟩
                have n3_ : Aside0 ((((w30.setCell ⟨gb709, 0, none⟩ (.bool t703)).setCell ⟨gb709, 1, none⟩ (.int .u64 t704)).setCell ⟨gb709, 2, none⟩ (.slice Ao34 t705.length co34)).heap[gb702]? = some (.cells #[.bool t696, .int .u64 t697, .slice Ao28 t698.length co28] 69 (0, 0))) := ⟨by (with_reducible repeat (first | refine blk_drewN ?_ _ | refine blk_drew ?_ | refine blk_alloc ?_ _)); refine blk_far ?_ NB702_709.out _; (with_reducible repeat (first | refine blk_drewN ?_ _ | refine blk_drew ?_ | refine blk_alloc ?_ _)); refine blk_far ?_ NB702_709.out _; (with_reducible repeat (first | refine blk_drewN ?_ _ | refine blk_drew ?_ | refine blk_alloc ?_ _)); refine blk_far ?_ NB702_709.out _; (with_reducible repeat (first | refine blk_drewN ?_ _ | refine blk_drew ?_ | refine blk_alloc ?_ _)); exact BK702.out⟩
                have n4_ : Aside0 ((((w30.setCell ⟨gb709, 0, none⟩ (.bool t703)).setCell ⟨gb709, 1, none⟩ (.int .u64 t704)).setCell ⟨gb709, 2, none⟩ (.slice Ao34 t705.length co34)).heap[gb709]? = some (.cells #[.bool t703, .int .u64 t704, .slice Ao34 t705.length co34] 75 (0, 0))) := ⟨by (with_reducible repeat (first | refine blk_drewN ?_ _ | refine blk_drew ?_ | refine blk_alloc ?_ _)); refine blk_put (cs := #[.bool t703, .int .u64 t704, .slice none 0 0]) ?_ 2 _ rfl; (with_reducible repeat (first | refine blk_drewN ?_ _ | refine blk_drew ?_ | refine blk_alloc ?_ _)); refine blk_put (cs := #[.bool t703, .int .u64 0, .slice none 0 0]) ?_ 1 _ rfl; (with_reducible repeat (first | refine blk_drewN ?_ _ | refine blk_drew ?_ | refine blk_alloc ?_ _)); refine blk_put (cs := #[.bool false, .int .u64 0, .slice none 0 0]) ?_ 0 _ rfl; (with_reducible repeat (first | refine blk_drewN ?_ _ | refine blk_drew ?_ | refine blk_alloc ?_ _)); exact BK709.out⟩
                have n5_ : Aside0 (Below w.heap.size w (((w30.setCell ⟨gb709, 0, none⟩ (.bool t703)).setCell ⟨gb709, 1, none⟩ (.int .u64 t704)).setCell ⟨gb709, 2, none⟩ (.slice Ao34 t705.length co34))) := ⟨by repeat (first | (with_reducible first | exact HB.out | apply below_alloc | apply pw_below_drewN | apply below_drew1 | refine below_set ?_ GE694.out | refine below_set ?_ GE702.out | refine below_set ?_ GE709.out) | exact HB.out)⟩
                (try clear HO700)
                (try clear HO707)
                (try clear BK694)
                (try clear BK702)
                (try clear BK709)
                (try clear HB)
                generalize (((w30.setCell ⟨gb709, 0, none⟩ (.bool t703)).setCell ⟨gb709, 1, none⟩ (.int .u64 t704)).setCell ⟨gb709, 2, none⟩ (.slice Ao34 t705.length co34)) = w35 at n0_ n1_ n2_ n3_ n4_ n5_ ⊢
                have HO700 := n0_
                have HO707 := n1_
                have BK694 := n2_
                have BK702 := n3_
                have BK709 := n4_
                have HB := n5_
                clear n0_ n1_ n2_ n3_ n4_ n5_
                have n0_ := Aside0.mk (Kd.R_drew HO700.out)
                have n1_ := Aside0.mk (Kd.R_drew HO707.out)
                have n2_ := Aside0.mk (blk_drew BK694.out)
                have n3_ := Aside0.mk (blk_drew BK702.out)
                have n4_ := Aside0.mk (blk_drew BK709.out)
                have n5_ := Aside0.mk (below_drew1 HB.out)
                clear HO700
                clear HO707
                clear BK694
                clear BK702
                clear BK709
                clear HB
                have HO700 := n0_
                have HO707 := n1_
                have BK694 := n2_
                have BK702 := n3_
                have BK709 := n4_
                have HB := n5_
                clear n0_ n1_ n2_ n3_ n4_ n5_
                refine start_ (n := 27) (S := fun w' => w'.cell? ⟨gb694, 0, none⟩ = some (.bool a0_0) ∧ w'.cell? ⟨gb694, 1, none⟩ = some (.int .u64 a0_1) ∧ w'.cell? ⟨gb694, 2, none⟩ = some (.slice A0_2 l0_2.length c0_2) ∧ w'.cell? ⟨gb702, 0, none⟩ = some (.bool t696) ∧ w'.cell? ⟨gb702, 1, none⟩ = some (.int .u64 t697) ∧ w'.cell? ⟨gb702, 2, none⟩ = some (.slice Ao28 t698.length co28) ∧ w'.cell? ⟨gb709, 0, none⟩ = some (.bool t703) ∧ w'.cell? ⟨gb709, 1, none⟩ = some (.int .u64 t704) ∧ w'.cell? ⟨gb709, 2, none⟩ = some (.slice Ao34 t705.length co34)) (ds := []) #[false, false, false, false, false, false, false, false, false, false, false, false, false, false, false, false, false, false, false, false, false, false, false, false, false, false, false] (by kernel_rfl) rfl rfl ⟨(blk_cell BK694.out 0).trans rfl, (blk_cell BK694.out 1).trans rfl, (blk_cell BK694.out 2).trans rfl, (blk_cell BK702.out 0).trans rfl, (blk_cell BK702.out 1).trans rfl, (blk_cell BK702.out 2).trans rfl, (blk_cell BK709.out 0).trans rfl, (blk_cell BK709.out 1).trans rfl, (blk_cell BK709.out 2).trans rfl⟩ (fun hHeld => ?_); refine with_tabW tallymanlaw20_FrameSays.tab7 tallymanlaw20_FrameSays.bits7 (fun HT_ HW_ => ?_)
                generalize w35.drew = w36 at HO700 HO707 BK694 BK702 BK709 HB hHeld ⊢
                refine take_ (i := 0) (N := some 30) (v := ?_) (a' := ?_) #[true, false, false, false, false, false, false, false, false, false, false, false, false, false, false, false, false, false, false, false, false, false, false, false, false, false, false] rfl rfl (take_ofW HT_.out HW_.out (by kernel_rfl)) (fun _ _ _ h => h) (Or.inl ⟨by rfl, ?_⟩) hHeld ?_ ?_
                rotate_left
                · rintro w' ⟨s0, s1, s2, s3, s4, s5, s6, s7, s8⟩
                  go_simp
                  with_reducible rfl
                rotate_left
                · simp only [Act.put, List.setIfInBounds_toArray, List.set_cons_zero, List.set_cons_succ, i64_w, i32_w]
                  rfl
                refine take_ (i := 2) (N := some 32) (v := ?_) (a' := ?_) #[true, false, true, false, false, false, false, false, false, false, false, false, false, false, false, false, false, false, false, false, false, false, false, false, false, false, false] rfl rfl (take_ofW HT_.out HW_.out (by kernel_rfl)) (fun _ _ _ h => h) (Or.inl ⟨by rfl, ?_⟩) hHeld ?_ ?_
                rotate_left
                · rintro w' ⟨s0, s1, s2, s3, s4, s5, s6, s7, s8⟩
                  go_simp
                  with_reducible rfl
                rotate_left
                · simp only [Act.put, List.setIfInBounds_toArray, List.set_cons_zero, List.set_cons_succ, i64_w, i32_w]
                  rfl
                refine one_ (i := 1) (N := some 31) #[true, true, true, false, false, false, false, false, false, false, false, false, false, false, false, false, false, false, false, false, false, false, false, false, false, false, false] rfl rfl (one_of HT_.out (by kernel_rfl)) (by decide) (fun K hK => ?_)
                refine goes_ Try.func49 (by kernel_rfl) rfl #[.agg #[.bool a0_0, .int .u64 a0_1, .slice A0_2 l0_2.length c0_2]] (by rfl) rfl rfl (by (try simp only [List.map_toArray, List.map_cons, List.map_nil]); first | done | rfl | (simp only [List.length_drop, List.length_take]; rfl)) ?_
                with_reducible refine (frame_Good.calls a0_0 a0_1 _ _ l0_2 t710 _ ?side1 ?side2 A14.out).mono ?_
                (case side1 => repeat (first | exact (Kd.C_below HR0_2.out HB.out) | (with_reducible refine Kd.C_alloc ?_ _) | (with_reducible refine Kd.C_drewN ?_ _) | (with_reducible refine Kd.C_drew ?_)))
                (case side2 => exact HC0_2.out)
                rintro e w37 ⟨rfl, hb⟩
                refine ⟨_, rfl, ?_⟩
                have n0_ := Aside0.mk (Kd.R_below (by (with_reducible repeat (first | apply Kd.R_alloc | apply Kd.R_drewN | apply Kd.R_drew)); exact HO700.out) hb)
                have n1_ := Aside0.mk (Kd.R_below (by (with_reducible repeat (first | apply Kd.R_alloc | apply Kd.R_drewN | apply Kd.R_drew)); exact HO707.out) hb)
                have n2_ := Aside0.mk (blk_below (g := gb694) (o := .cells #[.bool a0_0, .int .u64 a0_1, .slice A0_2 l0_2.length c0_2] 69 (0, 0)) (by (with_reducible repeat (first | refine blk_drewN ?_ _ | refine blk_drew ?_ | refine blk_alloc ?_ _)); exact BK694.out) hb)
                have n3_ := Aside0.mk (blk_below (g := gb702) (o := .cells #[.bool t696, .int .u64 t697, .slice Ao28 t698.length co28] 69 (0, 0)) (by (with_reducible repeat (first | refine blk_drewN ?_ _ | refine blk_drew ?_ | refine blk_alloc ?_ _)); exact BK702.out) hb)
                have n4_ := Aside0.mk (blk_below (g := gb709) (o := .cells #[.bool t703, .int .u64 t704, .slice Ao34 t705.length co34] 75 (0, 0)) (by (with_reducible repeat (first | refine blk_drewN ?_ _ | refine blk_drew ?_ | refine blk_alloc ?_ _)); exact BK709.out) hb)
                have n5_ := Aside0.mk (below_step (by repeat (first | (with_reducible first | exact HB.out | apply below_alloc | apply pw_below_drewN | apply below_drew1 | refine below_set ?_ GE694.out | refine below_set ?_ GE702.out | refine below_set ?_ GE709.out) | exact HB.out)) hb)
                clear HO700
                clear HO707
                clear BK694
                clear BK702
                clear BK709
                clear HB
                have HO700 := n0_
                have HO707 := n1_
                have BK694 := n2_
                have BK702 := n3_
                have BK709 := n4_
                have HB := n5_
                clear n0_ n1_ n2_ n3_ n4_ n5_
                (try clear hb)
                (try clear hb2)
                (try clear hk)
                (try clear hi)
                refine hK.out _ _ ⟨(blk_cell BK694.out 0).trans rfl, (blk_cell BK694.out 1).trans rfl, (blk_cell BK694.out 2).trans rfl, (blk_cell BK702.out 0).trans rfl, (blk_cell BK702.out 1).trans rfl, (blk_cell BK702.out 2).trans rfl, (blk_cell BK709.out 0).trans rfl, (blk_cell BK709.out 1).trans rfl, (blk_cell BK709.out 2).trans rfl⟩ (fun hHeld => ?_)
                clear hK K
                refine norm_ (a' := ?_) ?_ ?_
                rotate_left
                · show Act.put _ (some 31) _ = _
                  simp only [Act.put, List.setIfInBounds_toArray, List.set_cons_zero, List.set_cons_succ, i64_w, i32_w]
                  rfl
                refine one_ (i := 3) (N := some 33) #[true, true, true, true, false, false, false, false, false, false, false, false, false, false, false, false, false, false, false, false, false, false, false, false, false, false, false] rfl rfl (one_of HT_.out (by kernel_rfl)) (by decide) (fun K hK => ?_)
                refine goes_ Try.func54 (by kernel_rfl) rfl #[.agg #[.bool a0_0, .int .u64 a0_1, .slice A0_2 l0_2.length c0_2]] (by rfl) rfl rfl (by (try simp only [List.map_toArray, List.map_cons, List.map_nil]); first | done | rfl | (simp only [List.length_drop, List.length_take]; rfl)) ?_
                with_reducible refine (tallymanlaw20_own.calls a0_0 a0_1 (fun k_ => k_ < w.heap.size) _ _ l0_2 t711 t712 t713 _ ?side1 A15.out).mono ?_
                (case side1 => exact Kd.V_mk HC0_2.out (Kd.F_below (Kd.C_F (Kd.heap_int .u8) HR0_2.out) (by repeat (first | (with_reducible first | exact HB.out | apply below_alloc | apply pw_below_drewN | apply below_drew1 | refine below_set ?_ GE694.out | refine below_set ?_ GE702.out | refine below_set ?_ GE709.out) | exact HB.out))))
                rintro e w38 ⟨v714, rfl, ho0, hb⟩
                refine ⟨_, rfl, ?_⟩
                have n0_ := Aside0.mk (Kd.R_below (by (with_reducible repeat (first | apply Kd.R_alloc | apply Kd.R_drewN | apply Kd.R_drew)); exact HO700.out) hb)
                have n1_ := Aside0.mk (Kd.R_below (by (with_reducible repeat (first | apply Kd.R_alloc | apply Kd.R_drewN | apply Kd.R_drew)); exact HO707.out) hb)
                have n2_ := Aside0.mk (Kd.V_lower (Kd.V_mono (ok' := fun k_ => some k_ ≠ (.slice Ao28 t698.length co28 : Value).ownBlock ∧ some k_ ≠ (.slice Ao34 t705.length co34 : Value).ownBlock ∧ k_ ≠ gb694 ∧ k_ ≠ gb702 ∧ k_ ≠ gb709) ho0 (fun k_ hk_ => ⟨Or.elim hk_ (fun hs_ => fun e_ => Nat.not_le.2 hs_ (Kd.R_base HO700.out k_ e_.symm)) (fun hn_ => (Kd.fresh' (Kd.R_lt (by (with_reducible repeat (first | apply Kd.R_alloc | apply Kd.R_drewN | apply Kd.R_drew)); exact HO700.out)) k_ hn_)), Or.elim hk_ (fun hs_ => fun e_ => Nat.not_le.2 hs_ (Kd.R_base HO707.out k_ e_.symm)) (fun hn_ => (Kd.fresh' (Kd.R_lt (by (with_reducible repeat (first | apply Kd.R_alloc | apply Kd.R_drewN | apply Kd.R_drew)); exact HO707.out)) k_ hn_)), Or.elim hk_ (fun hs_ => fun e_ => Nat.not_le.2 hs_ (by rw [e_]; exact GW694.out)) (fun hn_ => (Kd.freshB (g := gb694) (o := .cells #[.bool a0_0, .int .u64 a0_1, .slice A0_2 l0_2.length c0_2] 69 (0, 0)) (by (with_reducible repeat (first | refine blk_drewN ?_ _ | refine blk_drew ?_ | refine blk_alloc ?_ _)); exact BK694.out) k_ hn_)), Or.elim hk_ (fun hs_ => fun e_ => Nat.not_le.2 hs_ (by rw [e_]; exact GW702.out)) (fun hn_ => (Kd.freshB (g := gb702) (o := .cells #[.bool t696, .int .u64 t697, .slice Ao28 t698.length co28] 69 (0, 0)) (by (with_reducible repeat (first | refine blk_drewN ?_ _ | refine blk_drew ?_ | refine blk_alloc ?_ _)); exact BK702.out) k_ hn_)), Or.elim hk_ (fun hs_ => fun e_ => Nat.not_le.2 hs_ (by rw [e_]; exact GW709.out)) (fun hn_ => (Kd.freshB (g := gb709) (o := .cells #[.bool t703, .int .u64 t704, .slice Ao34 t705.length co34] 75 (0, 0)) (by (with_reducible repeat (first | refine blk_drewN ?_ _ | refine blk_drew ?_ | refine blk_alloc ?_ _)); exact BK709.out) k_ hn_))⟩)) (below_size (by repeat (first | (with_reducible first | exact HB.out | apply below_alloc | apply pw_below_drewN | apply below_drew1 | refine below_set ?_ GE694.out | refine below_set ?_ GE702.out | refine below_set ?_ GE709.out) | exact HB.out))))
                have n3_ := Aside0.mk (blk_below (g := gb694) (o := .cells #[.bool a0_0, .int .u64 a0_1, .slice A0_2 l0_2.length c0_2] 69 (0, 0)) (by (with_reducible repeat (first | refine blk_drewN ?_ _ | refine blk_drew ?_ | refine blk_alloc ?_ _)); exact BK694.out) hb)
                have n4_ := Aside0.mk (blk_below (g := gb702) (o := .cells #[.bool t696, .int .u64 t697, .slice Ao28 t698.length co28] 69 (0, 0)) (by (with_reducible repeat (first | refine blk_drewN ?_ _ | refine blk_drew ?_ | refine blk_alloc ?_ _)); exact BK702.out) hb)
                have n5_ := Aside0.mk (blk_below (g := gb709) (o := .cells #[.bool t703, .int .u64 t704, .slice Ao34 t705.length co34] 75 (0, 0)) (by (with_reducible repeat (first | refine blk_drewN ?_ _ | refine blk_drew ?_ | refine blk_alloc ?_ _)); exact BK709.out) hb)
                have n6_ := Aside0.mk (below_step (by repeat (first | (with_reducible first | exact HB.out | apply below_alloc | apply pw_below_drewN | apply below_drew1 | refine below_set ?_ GE694.out | refine below_set ?_ GE702.out | refine below_set ?_ GE709.out) | exact HB.out)) hb)
                clear HO700
                clear HO707
                clear BK694
                clear BK702
                clear BK709
                clear HB
                have HO700 := n0_
                have HO707 := n1_
                have HO715 := n2_
                have BK694 := n3_
                have BK702 := n4_
                have BK709 := n5_
                have HB := n6_
                clear n0_ n1_ n2_ n3_ n4_ n5_ n6_
                (try clear hb)
                (try clear hb2)
                (try clear hk)
                (try clear hi)
                (try clear ho0)
                obtain ⟨Ao39, co39, eo39⟩ := Kd.V_slice HO715.out
                (first | subst eo39 | (injection eo39 with f1_ f2_ f3_; have f4_ := f1_.symm; have f5_ := f3_.symm; clear f1_ f2_ f3_; subst f4_; subst f5_))
                refine hK.out _ _ ⟨(blk_cell BK694.out 0).trans rfl, (blk_cell BK694.out 1).trans rfl, (blk_cell BK694.out 2).trans rfl, (blk_cell BK702.out 0).trans rfl, (blk_cell BK702.out 1).trans rfl, (blk_cell BK702.out 2).trans rfl, (blk_cell BK709.out 0).trans rfl, (blk_cell BK709.out 1).trans rfl, (blk_cell BK709.out 2).trans rfl⟩ (fun hHeld => ?_)
                clear hK K
                refine norm_ (a' := ?_) ?_ ?_
                rotate_left
                · show Act.put _ (some 33) _ = _
                  simp only [Act.put, List.setIfInBounds_toArray, List.set_cons_zero, List.set_cons_succ, i64_w, i32_w]
                  rfl
                refine one_ (i := 4) (N := some 34) #[true, true, true, true, true, false, false, false, false, false, false, false, false, false, false, false, false, false, false, false, false, false, false, false, false, false, false] rfl rfl (one_of HT_.out (by kernel_rfl)) (by decide) (fun K hK => ?_)
                refine goes_ Try.func53 (by kernel_rfl) rfl #[.agg #[.bool t711, .int .u64 t712, .slice Ao39 t713.length co39]] (by rfl) rfl rfl (by (try simp only [List.map_toArray, List.map_cons, List.map_nil]); first | done | rfl | (simp only [List.length_drop, List.length_take]; rfl)) ?_
                with_reducible refine (tallymanref19_GoodFrame.calls t711 t712 _ _ t713 t716 _ ?side1 ?side2 A16.out).mono ?_
                (case side1 => repeat (first | exact (Kd.V_reads' HO715.out).2.2 | (with_reducible refine Kd.C_alloc ?_ _) | (with_reducible refine Kd.C_drewN ?_ _) | (with_reducible refine Kd.C_drew ?_)))
                (case side2 => exact (Kd.V_reads' HO715.out).2.1)
                rintro e w40 ⟨rfl, hb⟩
                refine ⟨_, rfl, ?_⟩
                have n0_ := Aside0.mk (Kd.R_below (by (with_reducible repeat (first | apply Kd.R_alloc | apply Kd.R_drewN | apply Kd.R_drew)); exact HO700.out) hb)
                have n1_ := Aside0.mk (Kd.R_below (by (with_reducible repeat (first | apply Kd.R_alloc | apply Kd.R_drewN | apply Kd.R_drew)); exact HO707.out) hb)
                have n2_ := Aside0.mk (Kd.V_below (by (with_reducible repeat (first | apply Kd.V_alloc | apply Kd.V_drewN | apply Kd.V_drew)); exact HO715.out) hb)
                have n3_ := Aside0.mk (blk_below (g := gb694) (o := .cells #[.bool a0_0, .int .u64 a0_1, .slice A0_2 l0_2.length c0_2] 69 (0, 0)) (by (with_reducible repeat (first | refine blk_drewN ?_ _ | refine blk_drew ?_ | refine blk_alloc ?_ _)); exact BK694.out) hb)
                have n4_ := Aside0.mk (blk_below (g := gb702) (o := .cells #[.bool t696, .int .u64 t697, .slice Ao28 t698.length co28] 69 (0, 0)) (by (with_reducible repeat (first | refine blk_drewN ?_ _ | refine blk_drew ?_ | refine blk_alloc ?_ _)); exact BK702.out) hb)
                have n5_ := Aside0.mk (blk_below (g := gb709) (o := .cells #[.bool t703, .int .u64 t704, .slice Ao34 t705.length co34] 75 (0, 0)) (by (with_reducible repeat (first | refine blk_drewN ?_ _ | refine blk_drew ?_ | refine blk_alloc ?_ _)); exact BK709.out) hb)
                have n6_ := Aside0.mk (below_step (by repeat (first | (with_reducible first | exact HB.out | apply below_alloc | apply pw_below_drewN | apply below_drew1 | refine below_set ?_ GE694.out | refine below_set ?_ GE702.out | refine below_set ?_ GE709.out) | exact HB.out)) hb)
                clear HO700
                clear HO707
                clear HO715
                clear BK694
                clear BK702
                clear BK709
                clear HB
                have HO700 := n0_
                have HO707 := n1_
                have HO715 := n2_
                have BK694 := n3_
                have BK702 := n4_
                have BK709 := n5_
                have HB := n6_
                clear n0_ n1_ n2_ n3_ n4_ n5_ n6_
                (try clear hb)
                (try clear hb2)
                (try clear hk)
                (try clear hi)
                refine hK.out _ _ ⟨(blk_cell BK694.out 0).trans rfl, (blk_cell BK694.out 1).trans rfl, (blk_cell BK694.out 2).trans rfl, (blk_cell BK702.out 0).trans rfl, (blk_cell BK702.out 1).trans rfl, (blk_cell BK702.out 2).trans rfl, (blk_cell BK709.out 0).trans rfl, (blk_cell BK709.out 1).trans rfl, (blk_cell BK709.out 2).trans rfl⟩ (fun hHeld => ?_)
                clear hK K
                refine norm_ (a' := ?_) ?_ ?_
                rotate_left
                · show Act.put _ (some 34) _ = _
                  simp only [Act.put, List.setIfInBounds_toArray, List.set_cons_zero, List.set_cons_succ, i64_w, i32_w]
                  rfl
                refine pure_ (i := 5) (N := some 35) (v := ?_) (a' := ?_) #[true, true, true, true, true, true, false, false, false, false, false, false, false, false, false, false, false, false, false, false, false, false, false, false, false, false, false] rfl rfl (any_of HT_.out (by kernel_rfl)) (fun _ _ _ h => h) (Or.inl ⟨by rfl, ?_⟩) ?_ ?_
                rotate_left
                · intro w'
                  go_simp
                  with_reducible rfl
                rotate_left
                · simp only [Act.put, List.setIfInBounds_toArray, List.set_cons_zero, List.set_cons_succ, i64_w, i32_w]
                  rfl
                refine pure_ (i := 6) (N := some 36) (v := ?_) (a' := ?_) #[true, true, true, true, true, true, true, false, false, false, false, false, false, false, false, false, false, false, false, false, false, false, false, false, false, false, false] rfl rfl (any_of HT_.out (by kernel_rfl)) (fun _ _ _ h => h) (Or.inl ⟨by rfl, ?_⟩) ?_ ?_
                rotate_left
                · intro w'
                  go_simp
                  with_reducible rfl
                rotate_left
                · simp only [Act.put, List.setIfInBounds_toArray, List.set_cons_zero, List.set_cons_succ, i64_w, i32_w]
                  rfl
                refine take_ (i := 7) (N := some 37) (v := ?_) (a' := ?_) #[true, true, true, true, true, true, true, true, false, false, false, false, false, false, false, false, false, false, false, false, false, false, false, false, false, false, false] rfl rfl (take_ofW HT_.out HW_.out (by kernel_rfl)) (fun _ _ _ h => h) (Or.inl ⟨by rfl, ?_⟩) hHeld ?_ ?_
                rotate_left
                · rintro w' ⟨s0, s1, s2, s3, s4, s5, s6, s7, s8⟩
                  go_simp
                  with_reducible rfl
                rotate_left
                · simp only [Act.put, List.setIfInBounds_toArray, List.set_cons_zero, List.set_cons_succ, i64_w, i32_w]
                  rfl
                refine take_ (i := 10) (N := some 40) (v := ?_) (a' := ?_) #[true, true, true, true, true, true, true, true, false, false, true, false, false, false, false, false, false, false, false, false, false, false, false, false, false, false, false] rfl rfl (take_ofW HT_.out HW_.out (by kernel_rfl)) (fun _ _ _ h => h) (Or.inl ⟨by rfl, ?_⟩) hHeld ?_ ?_
                rotate_left
                · rintro w' ⟨s0, s1, s2, s3, s4, s5, s6, s7, s8⟩
                  go_simp
                  with_reducible rfl
                rotate_left
                · simp only [Act.put, List.setIfInBounds_toArray, List.set_cons_zero, List.set_cons_succ, i64_w, i32_w]
                  rfl
                refine one_ (i := 8) (N := some 38) #[true, true, true, true, true, true, true, true, true, false, true, false, false, false, false, false, false, false, false, false, false, false, false, false, false, false, false] rfl rfl (one_of HT_.out (by kernel_rfl)) (by decide) (fun K hK => ?_)
                refine goes_ Try.func50 (by kernel_rfl) rfl #[.agg #[.bool a0_0, .int .u64 a0_1, .slice A0_2 l0_2.length c0_2]] (by rfl) rfl rfl (by (try simp only [List.map_toArray, List.map_cons, List.map_nil]); first | done | rfl | (simp only [List.length_drop, List.length_take]; rfl)) ?_
                with_reducible refine (frame_Put.calls kj4 a0_0 a0_1 _ _ l0_2 t717 _ ?side1 ?side2 A18.out).mono ?_
                (case side1 => repeat (first | exact (Kd.C_below HR0_2.out HB.out) | (with_reducible refine Kd.C_alloc ?_ _) | (with_reducible refine Kd.C_drewN ?_ _) | (with_reducible refine Kd.C_drew ?_)))
                (case side2 => exact HC0_2.out)
                rintro e w41 ⟨v718, rfl, ho0, hb⟩
                refine ⟨_, rfl, ?_⟩
                have n0_ := Aside0.mk (Kd.R_elder' (by (with_reducible repeat (first | apply Kd.R_alloc | apply Kd.R_drewN | apply Kd.R_drew)); exact HO700.out) (Kd.R_base ho0) hb)
                have n1_ := Aside0.mk (Kd.R_elder' (by (with_reducible repeat (first | apply Kd.R_alloc | apply Kd.R_drewN | apply Kd.R_drew)); exact HO707.out) (Kd.R_base ho0) hb)
                have n2_ := Aside0.mk (Kd.V_elder' (by (with_reducible repeat (first | apply Kd.V_alloc | apply Kd.V_drewN | apply Kd.V_drew)); exact HO715.out) (Kd.R_base ho0) hb)
                have n3_ := Aside0.mk (Kd.R_lower (Kd.R_new' (Kd.R_new' ho0 (Kd.R_lt (by (with_reducible repeat (first | apply Kd.R_alloc | apply Kd.R_drewN | apply Kd.R_drew)); exact HO700.out))) (Kd.R_lt (by (with_reducible repeat (first | apply Kd.R_alloc | apply Kd.R_drewN | apply Kd.R_drew)); exact HO707.out))) (below_size (by repeat (first | (with_reducible first | exact HB.out | apply below_alloc | apply pw_below_drewN | apply below_drew1 | refine below_set ?_ GE694.out | refine below_set ?_ GE702.out | refine below_set ?_ GE709.out) | exact HB.out))))
                have n4_ := Aside0.mk (blk_below (g := gb694) (o := .cells #[.bool a0_0, .int .u64 a0_1, .slice A0_2 l0_2.length c0_2] 69 (0, 0)) (by (with_reducible repeat (first | refine blk_drewN ?_ _ | refine blk_drew ?_ | refine blk_alloc ?_ _)); exact BK694.out) hb)
                have n5_ := Aside0.mk (blk_below (g := gb702) (o := .cells #[.bool t696, .int .u64 t697, .slice Ao28 t698.length co28] 69 (0, 0)) (by (with_reducible repeat (first | refine blk_drewN ?_ _ | refine blk_drew ?_ | refine blk_alloc ?_ _)); exact BK702.out) hb)
                have n6_ := Aside0.mk (blk_below (g := gb709) (o := .cells #[.bool t703, .int .u64 t704, .slice Ao34 t705.length co34] 75 (0, 0)) (by (with_reducible repeat (first | refine blk_drewN ?_ _ | refine blk_drew ?_ | refine blk_alloc ?_ _)); exact BK709.out) hb)
                have n7_ := Aside0.mk (below_step (by repeat (first | (with_reducible first | exact HB.out | apply below_alloc | apply pw_below_drewN | apply below_drew1 | refine below_set ?_ GE694.out | refine below_set ?_ GE702.out | refine below_set ?_ GE709.out) | exact HB.out)) hb)
                clear HO700
                clear HO707
                clear HO715
                clear BK694
                clear BK702
                clear BK709
                clear HB
                have HO700 := n0_
                have HO707 := n1_
                have HO715 := n2_
                have HO719 := n3_
                have BK694 := n4_
                have BK702 := n5_
                have BK709 := n6_
                have HB := n7_
                clear n0_ n1_ n2_ n3_ n4_ n5_ n6_ n7_
                (try clear hb)
                (try clear hb2)
                (try clear hk)
                (try clear hi)
                (try clear ho0)
                refine hK.out _ _ ⟨(blk_cell BK694.out 0).trans rfl, (blk_cell BK694.out 1).trans rfl, (blk_cell BK694.out 2).trans rfl, (blk_cell BK702.out 0).trans rfl, (blk_cell BK702.out 1).trans rfl, (blk_cell BK702.out 2).trans rfl, (blk_cell BK709.out 0).trans rfl, (blk_cell BK709.out 1).trans rfl, (blk_cell BK709.out 2).trans rfl⟩ (fun hHeld => ?_)
                clear hK K
                refine norm_ (a' := ?_) ?_ ?_
                rotate_left
                · show Act.put _ (some 38) _ = _
                  simp only [Act.put, List.setIfInBounds_toArray, List.set_cons_zero, List.set_cons_succ, i64_w, i32_w]
                  rfl
                refine more_ (fun w' => w'.cell? ⟨gb694, 0, none⟩ = some (.bool a0_0) ∧ w'.cell? ⟨gb694, 1, none⟩ = some (.int .u64 a0_1) ∧ w'.cell? ⟨gb694, 2, none⟩ = some (.slice A0_2 l0_2.length c0_2) ∧ w'.cell? ⟨gb702, 0, none⟩ = some (.bool t696) ∧ w'.cell? ⟨gb702, 1, none⟩ = some (.int .u64 t697) ∧ w'.cell? ⟨gb702, 2, none⟩ = some (.slice Ao28 t698.length co28) ∧ w'.cell? ⟨gb709, 0, none⟩ = some (.bool t703) ∧ w'.cell? ⟨gb709, 1, none⟩ = some (.int .u64 t704) ∧ w'.cell? ⟨gb709, 2, none⟩ = some (.slice Ao34 t705.length co34) ∧ Sem.run Try.prog (convert 24 9 v718) w' = Result.ok (.string (strOfNums t717)) w') (fun _ h_ => ⟨h_.1, h_.2.1, h_.2.2.1, h_.2.2.2.1, h_.2.2.2.2.1, h_.2.2.2.2.2.1, h_.2.2.2.2.2.2.1, h_.2.2.2.2.2.2.2.1, h_.2.2.2.2.2.2.2.2.1⟩) ⟨hHeld.1, hHeld.2.1, hHeld.2.2.1, hHeld.2.2.2.1, hHeld.2.2.2.2.1, hHeld.2.2.2.2.2.1, hHeld.2.2.2.2.2.2.1, hHeld.2.2.2.2.2.2.2.1, hHeld.2.2.2.2.2.2.2.2, (own_string Try.underlying24 Try.underlying5 Try.underlying9 (Kd.own_of_R (by (with_reducible repeat (first | apply Kd.R_alloc | apply Kd.R_drewN | apply Kd.R_drew)); exact HO719.out)))⟩ (fun hHeld => ?_)
                refine take_ (i := 9) (N := some 39) (v := ?_) (a' := ?_) #[true, true, true, true, true, true, true, true, true, true, true, false, false, false, false, false, false, false, false, false, false, false, false, false, false, false, false] rfl rfl (take_ofW HT_.out HW_.out (by kernel_rfl)) (fun _ _ _ h => h) (Or.inl ⟨by rfl, ?_⟩) hHeld ?_ ?_
                rotate_left
                · rintro w' ⟨s0, s1, s2, s3, s4, s5, s6, s7, s8, s9⟩
                  go_simp
                  with_reducible rfl
                rotate_left
                · simp only [Act.put, List.setIfInBounds_toArray, List.set_cons_zero, List.set_cons_succ, i64_w, i32_w]
                  rfl
                refine one_ (i := 11) (N := some 41) #[true, true, true, true, true, true, true, true, true, true, true, true, false, false, false, false, false, false, false, false, false, false, false, false, false, false, false] rfl rfl (one_of HT_.out (by kernel_rfl)) (by decide) (fun K hK => ?_)
                refine goes_ Try.func54 (by kernel_rfl) rfl #[.agg #[.bool a0_0, .int .u64 a0_1, .slice A0_2 l0_2.length c0_2]] (by rfl) rfl rfl (by (try simp only [List.map_toArray, List.map_cons, List.map_nil]); first | done | rfl | (simp only [List.length_drop, List.length_take]; rfl)) ?_
                with_reducible refine (tallymanlaw20_own.calls a0_0 a0_1 (fun k_ => k_ < w.heap.size) _ _ l0_2 t720 t721 t722 _ ?side1 A19.out).mono ?_
                (case side1 => exact Kd.V_mk HC0_2.out (Kd.F_below (Kd.C_F (Kd.heap_int .u8) HR0_2.out) (by repeat (first | (with_reducible first | exact HB.out | apply below_alloc | apply pw_below_drewN | apply below_drew1 | refine below_set ?_ GE694.out | refine below_set ?_ GE702.out | refine below_set ?_ GE709.out) | exact HB.out))))
                rintro e w42 ⟨v723, rfl, ho0, hb⟩
                refine ⟨_, rfl, ?_⟩
                have n0_ := Aside0.mk (Kd.R_below (by (with_reducible repeat (first | apply Kd.R_alloc | apply Kd.R_drewN | apply Kd.R_drew)); exact HO700.out) hb)
                have n1_ := Aside0.mk (Kd.R_below (by (with_reducible repeat (first | apply Kd.R_alloc | apply Kd.R_drewN | apply Kd.R_drew)); exact HO707.out) hb)
                have n2_ := Aside0.mk (Kd.V_below (by (with_reducible repeat (first | apply Kd.V_alloc | apply Kd.V_drewN | apply Kd.V_drew)); exact HO715.out) hb)
                have n3_ := Aside0.mk (Kd.R_below (by (with_reducible repeat (first | apply Kd.R_alloc | apply Kd.R_drewN | apply Kd.R_drew)); exact HO719.out) hb)
                have n4_ := Aside0.mk (Kd.V_lower (Kd.V_mono (ok' := fun k_ => some k_ ≠ (.slice Ao28 t698.length co28 : Value).ownBlock ∧ some k_ ≠ (.slice Ao34 t705.length co34 : Value).ownBlock ∧ some k_ ≠ (v718 : Value).ownBlock ∧ k_ ≠ gb694 ∧ k_ ≠ gb702 ∧ k_ ≠ gb709) ho0 (fun k_ hk_ => ⟨Or.elim hk_ (fun hs_ => fun e_ => Nat.not_le.2 hs_ (Kd.R_base HO700.out k_ e_.symm)) (fun hn_ => (Kd.fresh' (Kd.R_lt (by (with_reducible repeat (first | apply Kd.R_alloc | apply Kd.R_drewN | apply Kd.R_drew)); exact HO700.out)) k_ hn_)), Or.elim hk_ (fun hs_ => fun e_ => Nat.not_le.2 hs_ (Kd.R_base HO707.out k_ e_.symm)) (fun hn_ => (Kd.fresh' (Kd.R_lt (by (with_reducible repeat (first | apply Kd.R_alloc | apply Kd.R_drewN | apply Kd.R_drew)); exact HO707.out)) k_ hn_)), Or.elim hk_ (fun hs_ => fun e_ => Nat.not_le.2 hs_ (Kd.R_base HO719.out k_ e_.symm)) (fun hn_ => (Kd.fresh' (Kd.R_lt (by (with_reducible repeat (first | apply Kd.R_alloc | apply Kd.R_drewN | apply Kd.R_drew)); exact HO719.out)) k_ hn_)), Or.elim hk_ (fun hs_ => fun e_ => Nat.not_le.2 hs_ (by rw [e_]; exact GW694.out)) (fun hn_ => (Kd.freshB (g := gb694) (o := .cells #[.bool a0_0, .int .u64 a0_1, .slice A0_2 l0_2.length c0_2] 69 (0, 0)) (by (with_reducible repeat (first | refine blk_drewN ?_ _ | refine blk_drew ?_ | refine blk_alloc ?_ _)); exact BK694.out) k_ hn_)), Or.elim hk_ (fun hs_ => fun e_ => Nat.not_le.2 hs_ (by rw [e_]; exact GW702.out)) (fun hn_ => (Kd.freshB (g := gb702) (o := .cells #[.bool t696, .int .u64 t697, .slice Ao28 t698.length co28] 69 (0, 0)) (by (with_reducible repeat (first | refine blk_drewN ?_ _ | refine blk_drew ?_ | refine blk_alloc ?_ _)); exact BK702.out) k_ hn_)), Or.elim hk_ (fun hs_ => fun e_ => Nat.not_le.2 hs_ (by rw [e_]; exact GW709.out)) (fun hn_ => (Kd.freshB (g := gb709) (o := .cells #[.bool t703, .int .u64 t704, .slice Ao34 t705.length co34] 75 (0, 0)) (by (with_reducible repeat (first | refine blk_drewN ?_ _ | refine blk_drew ?_ | refine blk_alloc ?_ _)); exact BK709.out) k_ hn_))⟩)) (below_size (by repeat (first | (with_reducible first | exact HB.out | apply below_alloc | apply pw_below_drewN | apply below_drew1 | refine below_set ?_ GE694.out | refine below_set ?_ GE702.out | refine below_set ?_ GE709.out) | exact HB.out))))
                have n5_ := Aside0.mk (blk_below (g := gb694) (o := .cells #[.bool a0_0, .int .u64 a0_1, .slice A0_2 l0_2.length c0_2] 69 (0, 0)) (by (with_reducible repeat (first | refine blk_drewN ?_ _ | refine blk_drew ?_ | refine blk_alloc ?_ _)); exact BK694.out) hb)
                have n6_ := Aside0.mk (blk_below (g := gb702) (o := .cells #[.bool t696, .int .u64 t697, .slice Ao28 t698.length co28] 69 (0, 0)) (by (with_reducible repeat (first | refine blk_drewN ?_ _ | refine blk_drew ?_ | refine blk_alloc ?_ _)); exact BK702.out) hb)
                have n7_ := Aside0.mk (blk_below (g := gb709) (o := .cells #[.bool t703, .int .u64 t704, .slice Ao34 t705.length co34] 75 (0, 0)) (by (with_reducible repeat (first | refine blk_drewN ?_ _ | refine blk_drew ?_ | refine blk_alloc ?_ _)); exact BK709.out) hb)
                have n8_ := Aside0.mk (below_step (by repeat (first | (with_reducible first | exact HB.out | apply below_alloc | apply pw_below_drewN | apply below_drew1 | refine below_set ?_ GE694.out | refine below_set ?_ GE702.out | refine below_set ?_ GE709.out) | exact HB.out)) hb)
                clear HO700
                clear HO707
                clear HO715
                clear HO719
                clear BK694
                clear BK702
                clear BK709
                clear HB
                have HO700 := n0_
                have HO707 := n1_
                have HO715 := n2_
                have HO719 := n3_
                have HO724 := n4_
                have BK694 := n5_
                have BK702 := n6_
                have BK709 := n7_
                have HB := n8_
                clear n0_ n1_ n2_ n3_ n4_ n5_ n6_ n7_ n8_
                (try clear hb)
                (try clear hb2)
                (try clear hk)
                (try clear hi)
                (try clear ho0)
                obtain ⟨Ao43, co43, eo43⟩ := Kd.V_slice HO724.out
                (first | subst eo43 | (injection eo43 with f1_ f2_ f3_; have f4_ := f1_.symm; have f5_ := f3_.symm; clear f1_ f2_ f3_; subst f4_; subst f5_))
                refine hK.out _ _ ⟨(blk_cell BK694.out 0).trans rfl, (blk_cell BK694.out 1).trans rfl, (blk_cell BK694.out 2).trans rfl, (blk_cell BK702.out 0).trans rfl, (blk_cell BK702.out 1).trans rfl, (blk_cell BK702.out 2).trans rfl, (blk_cell BK709.out 0).trans rfl, (blk_cell BK709.out 1).trans rfl, (blk_cell BK709.out 2).trans rfl, (own_string Try.underlying24 Try.underlying5 Try.underlying9 (Kd.own_of_R (by (with_reducible repeat (first | apply Kd.R_alloc | apply Kd.R_drewN | apply Kd.R_drew)); exact HO719.out)))⟩ (fun hHeld => ?_)
                clear hK K
                refine norm_ (a' := ?_) ?_ ?_
                rotate_left
                · show Act.put _ (some 41) _ = _
                  simp only [Act.put, List.setIfInBounds_toArray, List.set_cons_zero, List.set_cons_succ, i64_w, i32_w]
                  rfl
                refine one_ (i := 12) (N := some 42) #[true, true, true, true, true, true, true, true, true, true, true, true, true, false, false, false, false, false, false, false, false, false, false, false, false, false, false] rfl rfl (one_of HT_.out (by kernel_rfl)) (by decide) (fun K hK => ?_)
                refine goes_ Try.func55 (by kernel_rfl) rfl #[.agg #[.bool t720, .int .u64 t721, .slice Ao43 t722.length co43]] (by rfl) rfl rfl (by (try simp only [List.map_toArray, List.map_cons, List.map_nil]); first | done | rfl | (simp only [List.length_drop, List.length_take]; rfl)) ?_
                with_reducible refine (tallymanref19_PutFrame.calls kj4 t720 t721 _ _ t722 t725 _ ?side1 ?side2 A20.out).mono ?_
                (case side1 => repeat (first | exact (Kd.V_reads' HO724.out).2.2 | (with_reducible refine Kd.C_alloc ?_ _) | (with_reducible refine Kd.C_drewN ?_ _) | (with_reducible refine Kd.C_drew ?_)))
                (case side2 => exact (Kd.V_reads' HO724.out).2.1)
                rintro e w44 ⟨v726, rfl, ho0, hb⟩
                refine ⟨_, rfl, ?_⟩
                have n0_ := Aside0.mk (Kd.R_elder' (by (with_reducible repeat (first | apply Kd.R_alloc | apply Kd.R_drewN | apply Kd.R_drew)); exact HO700.out) (Kd.R_base ho0) hb)
                have n1_ := Aside0.mk (Kd.R_elder' (by (with_reducible repeat (first | apply Kd.R_alloc | apply Kd.R_drewN | apply Kd.R_drew)); exact HO707.out) (Kd.R_base ho0) hb)
                have n2_ := Aside0.mk (Kd.V_elder' (by (with_reducible repeat (first | apply Kd.V_alloc | apply Kd.V_drewN | apply Kd.V_drew)); exact HO715.out) (Kd.R_base ho0) hb)
                have n3_ := Aside0.mk (Kd.R_elder' (by (with_reducible repeat (first | apply Kd.R_alloc | apply Kd.R_drewN | apply Kd.R_drew)); exact HO719.out) (Kd.R_base ho0) hb)
                have n4_ := Aside0.mk (Kd.V_elder' (by (with_reducible repeat (first | apply Kd.V_alloc | apply Kd.V_drewN | apply Kd.V_drew)); exact HO724.out) (Kd.R_base ho0) hb)
                have n5_ := Aside0.mk (Kd.R_lower (Kd.R_new' (Kd.R_new' (Kd.R_new' ho0 (Kd.R_lt (by (with_reducible repeat (first | apply Kd.R_alloc | apply Kd.R_drewN | apply Kd.R_drew)); exact HO700.out))) (Kd.R_lt (by (with_reducible repeat (first | apply Kd.R_alloc | apply Kd.R_drewN | apply Kd.R_drew)); exact HO707.out))) (Kd.R_lt (by (with_reducible repeat (first | apply Kd.R_alloc | apply Kd.R_drewN | apply Kd.R_drew)); exact HO719.out))) (below_size (by repeat (first | (with_reducible first | exact HB.out | apply below_alloc | apply pw_below_drewN | apply below_drew1 | refine below_set ?_ GE694.out | refine below_set ?_ GE702.out | refine below_set ?_ GE709.out) | exact HB.out))))
                have n6_ := Aside0.mk (blk_below (g := gb694) (o := .cells #[.bool a0_0, .int .u64 a0_1, .slice A0_2 l0_2.length c0_2] 69 (0, 0)) (by (with_reducible repeat (first | refine blk_drewN ?_ _ | refine blk_drew ?_ | refine blk_alloc ?_ _)); exact BK694.out) hb)
                have n7_ := Aside0.mk (blk_below (g := gb702) (o := .cells #[.bool t696, .int .u64 t697, .slice Ao28 t698.length co28] 69 (0, 0)) (by (with_reducible repeat (first | refine blk_drewN ?_ _ | refine blk_drew ?_ | refine blk_alloc ?_ _)); exact BK702.out) hb)
                have n8_ := Aside0.mk (blk_below (g := gb709) (o := .cells #[.bool t703, .int .u64 t704, .slice Ao34 t705.length co34] 75 (0, 0)) (by (with_reducible repeat (first | refine blk_drewN ?_ _ | refine blk_drew ?_ | refine blk_alloc ?_ _)); exact BK709.out) hb)
                have n9_ := Aside0.mk (below_step (by repeat (first | (with_reducible first | exact HB.out | apply below_alloc | apply pw_below_drewN | apply below_drew1 | refine below_set ?_ GE694.out | refine below_set ?_ GE702.out | refine below_set ?_ GE709.out) | exact HB.out)) hb)
                clear HO700
                clear HO707
                clear HO715
                clear HO719
                clear HO724
                clear BK694
                clear BK702
                clear BK709
                clear HB
                have HO700 := n0_
                have HO707 := n1_
                have HO715 := n2_
                have HO719 := n3_
                have HO724 := n4_
                have HO727 := n5_
                have BK694 := n6_
                have BK702 := n7_
                have BK709 := n8_
                have HB := n9_
                clear n0_ n1_ n2_ n3_ n4_ n5_ n6_ n7_ n8_ n9_
                (try clear hb)
                (try clear hb2)
                (try clear hk)
                (try clear hi)
                (try clear ho0)
                refine hK.out _ _ ⟨(blk_cell BK694.out 0).trans rfl, (blk_cell BK694.out 1).trans rfl, (blk_cell BK694.out 2).trans rfl, (blk_cell BK702.out 0).trans rfl, (blk_cell BK702.out 1).trans rfl, (blk_cell BK702.out 2).trans rfl, (blk_cell BK709.out 0).trans rfl, (blk_cell BK709.out 1).trans rfl, (blk_cell BK709.out 2).trans rfl, (own_string Try.underlying24 Try.underlying5 Try.underlying9 (Kd.own_of_R (by (with_reducible repeat (first | apply Kd.R_alloc | apply Kd.R_drewN | apply Kd.R_drew)); exact HO719.out)))⟩ (fun hHeld => ?_)
                clear hK K
                refine norm_ (a' := ?_) ?_ ?_
                rotate_left
                · show Act.put _ (some 42) _ = _
                  simp only [Act.put, List.setIfInBounds_toArray, List.set_cons_zero, List.set_cons_succ, i64_w, i32_w]
                  rfl
                refine more_ (fun w' => w'.cell? ⟨gb694, 0, none⟩ = some (.bool a0_0) ∧ w'.cell? ⟨gb694, 1, none⟩ = some (.int .u64 a0_1) ∧ w'.cell? ⟨gb694, 2, none⟩ = some (.slice A0_2 l0_2.length c0_2) ∧ w'.cell? ⟨gb702, 0, none⟩ = some (.bool t696) ∧ w'.cell? ⟨gb702, 1, none⟩ = some (.int .u64 t697) ∧ w'.cell? ⟨gb702, 2, none⟩ = some (.slice Ao28 t698.length co28) ∧ w'.cell? ⟨gb709, 0, none⟩ = some (.bool t703) ∧ w'.cell? ⟨gb709, 1, none⟩ = some (.int .u64 t704) ∧ w'.cell? ⟨gb709, 2, none⟩ = some (.slice Ao34 t705.length co34) ∧ Sem.run Try.prog (convert 24 9 v718) w' = Result.ok (.string (strOfNums t717)) w' ∧ Sem.run Try.prog (convert 24 9 v726) w' = Result.ok (.string (strOfNums t725)) w') (fun _ h_ => ⟨h_.1, h_.2.1, h_.2.2.1, h_.2.2.2.1, h_.2.2.2.2.1, h_.2.2.2.2.2.1, h_.2.2.2.2.2.2.1, h_.2.2.2.2.2.2.2.1, h_.2.2.2.2.2.2.2.2.1, h_.2.2.2.2.2.2.2.2.2.1⟩) ⟨hHeld.1, hHeld.2.1, hHeld.2.2.1, hHeld.2.2.2.1, hHeld.2.2.2.2.1, hHeld.2.2.2.2.2.1, hHeld.2.2.2.2.2.2.1, hHeld.2.2.2.2.2.2.2.1, hHeld.2.2.2.2.2.2.2.2.1, hHeld.2.2.2.2.2.2.2.2.2, (own_string Try.underlying24 Try.underlying5 Try.underlying9 (Kd.own_of_R (by (with_reducible repeat (first | apply Kd.R_alloc | apply Kd.R_drewN | apply Kd.R_drew)); exact HO727.out)))⟩ (fun hHeld => ?_)
                refine take_ (i := 13) (N := some 43) (v := ?_) (a' := ?_) #[true, true, true, true, true, true, true, true, true, true, true, true, true, true, false, false, false, false, false, false, false, false, false, false, false, false, false] rfl rfl (take_ofW HT_.out HW_.out (by kernel_rfl)) (fun _ _ _ h => h) (Or.inl ⟨by rfl, ?_⟩) hHeld ?_ ?_
                rotate_left
                · rintro w' ⟨s0, s1, s2, s3, s4, s5, s6, s7, s8, s9, s10⟩
                  go_simp
                  with_reducible rfl
                rotate_left
                · simp only [Act.put, List.setIfInBounds_toArray, List.set_cons_zero, List.set_cons_succ, i64_w, i32_w]
                  rfl
                refine pure_ (i := 14) (N := some 44) (v := ?_) (a' := ?_) #[true, true, true, true, true, true, true, true, true, true, true, true, true, true, true, false, false, false, false, false, false, false, false, false, false, false, false] rfl rfl (any_of HT_.out (by kernel_rfl)) (fun _ _ _ h => h) (Or.inl ⟨by rfl, ?_⟩) ?_ ?_
                rotate_left
                · intro w'
                  go_simp
                  with_reducible rfl
                rotate_left
                · simp only [Act.put, List.setIfInBounds_toArray, List.set_cons_zero, List.set_cons_succ, i64_w, i32_w]
                  rfl
                refine pure_ (i := 15) (N := some 45) (v := ?_) (a' := ?_) #[true, true, true, true, true, true, true, true, true, true, true, true, true, true, true, true, false, false, false, false, false, false, false, false, false, false, false] rfl rfl (any_of HT_.out (by kernel_rfl)) (fun _ _ _ h => h) (Or.inl ⟨by rfl, ?_⟩) ?_ ?_
                rotate_left
                · intro w'
                  go_simp
                  with_reducible rfl
                rotate_left
                · simp only [Act.put, List.setIfInBounds_toArray, List.set_cons_zero, List.set_cons_succ, i64_w, i32_w]
                  rfl
                refine pure_ (i := 16) (N := some 46) (v := ?_) (a' := ?_) #[true, true, true, true, true, true, true, true, true, true, true, true, true, true, true, true, true, false, false, false, false, false, false, false, false, false, false] rfl rfl (any_of HT_.out (by kernel_rfl)) (fun _ _ _ h => h) (Or.inl ⟨by rfl, ?_⟩) ?_ ?_
                rotate_left
                · intro w'
                  go_simp
                  with_reducible rfl
                rotate_left
                · simp only [Act.put, List.setIfInBounds_toArray, List.set_cons_zero, List.set_cons_succ, i64_w, i32_w]
                  rfl
                refine pure_ (i := 17) (N := some 47) (v := ?_) (a' := ?_) #[true, true, true, true, true, true, true, true, true, true, true, true, true, true, true, true, true, true, false, false, false, false, false, false, false, false, false] rfl rfl (any_of HT_.out (by kernel_rfl)) (fun _ _ _ h => h) (Or.inl ⟨by rfl, ?_⟩) ?_ ?_
                rotate_left
                · intro w'
                  go_simp
                  with_reducible rfl
                rotate_left
                · simp only [Act.put, List.setIfInBounds_toArray, List.set_cons_zero, List.set_cons_succ, i64_w, i32_w]
                  rfl
                refine pure_ (i := 18) (N := some 48) (v := ?_) (a' := ?_) #[true, true, true, true, true, true, true, true, true, true, true, true, true, true, true, true, true, true, true, false, false, false, false, false, false, false, false] rfl rfl (any_of HT_.out (by kernel_rfl)) (fun _ _ _ h => h) (Or.inl ⟨by rfl, ?_⟩) ?_ ?_
                rotate_left
                · intro w'
                  go_simp
                  with_reducible rfl
                rotate_left
                · simp only [Act.put, List.setIfInBounds_toArray, List.set_cons_zero, List.set_cons_succ, i64_w, i32_w]
                  rfl
                refine pure_ (i := 19) (N := some 49) (v := ?_) (a' := ?_) #[true, true, true, true, true, true, true, true, true, true, true, true, true, true, true, true, true, true, true, true, false, false, false, false, false, false, false] rfl rfl (any_of HT_.out (by kernel_rfl)) (fun _ _ _ h => h) (Or.inl ⟨by rfl, ?_⟩) ?_ ?_
                rotate_left
                · intro w'
                  go_simp
                  with_reducible rfl
                rotate_left
                · simp only [Act.put, List.setIfInBounds_toArray, List.set_cons_zero, List.set_cons_succ, i64_w, i32_w]
                  rfl
                refine pure_ (i := 20) (N := some 50) (v := ?_) (a' := ?_) #[true, true, true, true, true, true, true, true, true, true, true, true, true, true, true, true, true, true, true, true, true, false, false, false, false, false, false] rfl rfl (any_of HT_.out (by kernel_rfl)) (fun _ _ _ h => h) (Or.inl ⟨by rfl, ?_⟩) ?_ ?_
                rotate_left
                · intro w'
                  go_simp
                  with_reducible rfl
                rotate_left
                · simp only [Act.put, List.setIfInBounds_toArray, List.set_cons_zero, List.set_cons_succ, i64_w, i32_w]
                  rfl
                refine pure_ (i := 21) (N := some 51) (v := ?_) (a' := ?_) #[true, true, true, true, true, true, true, true, true, true, true, true, true, true, true, true, true, true, true, true, true, true, false, false, false, false, false] rfl rfl (any_of HT_.out (by kernel_rfl)) (fun _ _ _ h => h) (Or.inl ⟨by rfl, ?_⟩) ?_ ?_
                rotate_left
                · intro w'
                  go_simp
                  with_reducible rfl
                rotate_left
                · simp only [Act.put, List.setIfInBounds_toArray, List.set_cons_zero, List.set_cons_succ, i64_w, i32_w]
                  rfl
                refine take_ (i := 22) (N := some 52) (v := ?_) (a' := ?_) #[true, true, true, true, true, true, true, true, true, true, true, true, true, true, true, true, true, true, true, true, true, true, true, false, false, false, false] rfl rfl (take_ofW HT_.out HW_.out (by kernel_rfl)) (fun _ _ _ h => h) (Or.inl ⟨by rfl, ?_⟩) hHeld ?_ ?_
                rotate_left
                · rintro w' ⟨s0, s1, s2, s3, s4, s5, s6, s7, s8, s9, s10⟩
                  go_simp
                  with_reducible rfl
                rotate_left
                · simp only [Act.put, List.setIfInBounds_toArray, List.set_cons_zero, List.set_cons_succ, i64_w, i32_w]
                  rfl
                refine take_ (i := 23) (N := some 53) (v := ?_) (a' := ?_) #[true, true, true, true, true, true, true, true, true, true, true, true, true, true, true, true, true, true, true, true, true, true, true, true, false, false, false] rfl rfl (take_ofW HT_.out HW_.out (by kernel_rfl)) (fun _ _ _ h => h) (Or.inl ⟨by rfl, ?_⟩) hHeld ?_ ?_
                rotate_left
                · rintro w' ⟨s0, s1, s2, s3, s4, s5, s6, s7, s8, s9, s10⟩
                  go_simp
                  with_reducible rfl
                rotate_left
                · simp only [Act.put, List.setIfInBounds_toArray, List.set_cons_zero, List.set_cons_succ, i64_w, i32_w]
                  rfl
                refine one_ (i := 24) (N := some 54) #[true, true, true, true, true, true, true, true, true, true, true, true, true, true, true, true, true, true, true, true, true, true, true, true, true, false, false] rfl rfl (one_of HT_.out (by kernel_rfl)) (by decide) (fun K hK => ?_)
                refine goes_ Try.func56 (by kernel_rfl) rfl #[.agg #[.bool t696, .int .u64 t697, .slice Ao28 t698.length co28], .agg #[.bool t703, .int .u64 t704, .slice Ao34 t705.length co34]] (by rfl) rfl rfl (by (try simp only [List.map_toArray, List.map_cons, List.map_nil]); first | done | rfl | (simp only [List.length_drop, List.length_take]; rfl)) ?_
                with_reducible refine (tallymanlaw20_same.calls t696 t697 _ _ t698 t703 t704 _ _ t705 t728 _ ?side1 ?side2 ?side3 ?side4 A23.out).mono ?_
                (case side1 => repeat (first | exact (Kd.R_reads' HO700.out).2.2 | (with_reducible refine Kd.C_alloc ?_ _) | (with_reducible refine Kd.C_drewN ?_ _) | (with_reducible refine Kd.C_drew ?_)))
                (case side2 => exact (Kd.R_reads' HO700.out).2.1)
                (case side3 => repeat (first | exact (Kd.R_reads' HO707.out).2.2 | (with_reducible refine Kd.C_alloc ?_ _) | (with_reducible refine Kd.C_drewN ?_ _) | (with_reducible refine Kd.C_drew ?_)))
                (case side4 => exact (Kd.R_reads' HO707.out).2.1)
                rintro e w45 ⟨rfl, hb⟩
                refine ⟨_, rfl, ?_⟩
                have n0_ := Aside0.mk (Kd.R_below (by (with_reducible repeat (first | apply Kd.R_alloc | apply Kd.R_drewN | apply Kd.R_drew)); exact HO700.out) hb)
                have n1_ := Aside0.mk (Kd.R_below (by (with_reducible repeat (first | apply Kd.R_alloc | apply Kd.R_drewN | apply Kd.R_drew)); exact HO707.out) hb)
                have n2_ := Aside0.mk (Kd.V_below (by (with_reducible repeat (first | apply Kd.V_alloc | apply Kd.V_drewN | apply Kd.V_drew)); exact HO715.out) hb)
                have n3_ := Aside0.mk (Kd.R_below (by (with_reducible repeat (first | apply Kd.R_alloc | apply Kd.R_drewN | apply Kd.R_drew)); exact HO719.out) hb)
                have n4_ := Aside0.mk (Kd.V_below (by (with_reducible repeat (first | apply Kd.V_alloc | apply Kd.V_drewN | apply Kd.V_drew)); exact HO724.out) hb)
                have n5_ := Aside0.mk (Kd.R_below (by (with_reducible repeat (first | apply Kd.R_alloc | apply Kd.R_drewN | apply Kd.R_drew)); exact HO727.out) hb)
                have n6_ := Aside0.mk (blk_below (g := gb694) (o := .cells #[.bool a0_0, .int .u64 a0_1, .slice A0_2 l0_2.length c0_2] 69 (0, 0)) (by (with_reducible repeat (first | refine blk_drewN ?_ _ | refine blk_drew ?_ | refine blk_alloc ?_ _)); exact BK694.out) hb)
                have n7_ := Aside0.mk (blk_below (g := gb702) (o := .cells #[.bool t696, .int .u64 t697, .slice Ao28 t698.length co28] 69 (0, 0)) (by (with_reducible repeat (first | refine blk_drewN ?_ _ | refine blk_drew ?_ | refine blk_alloc ?_ _)); exact BK702.out) hb)
                have n8_ := Aside0.mk (blk_below (g := gb709) (o := .cells #[.bool t703, .int .u64 t704, .slice Ao34 t705.length co34] 75 (0, 0)) (by (with_reducible repeat (first | refine blk_drewN ?_ _ | refine blk_drew ?_ | refine blk_alloc ?_ _)); exact BK709.out) hb)
                have n9_ := Aside0.mk (below_step (by repeat (first | (with_reducible first | exact HB.out | apply below_alloc | apply pw_below_drewN | apply below_drew1 | refine below_set ?_ GE694.out | refine below_set ?_ GE702.out | refine below_set ?_ GE709.out) | exact HB.out)) hb)
                clear HO700
                clear HO707
                clear HO715
                clear HO719
                clear HO724
                clear HO727
                clear BK694
                clear BK702
                clear BK709
                clear HB
                have HO700 := n0_
                have HO707 := n1_
                have HO715 := n2_
                have HO719 := n3_
                have HO724 := n4_
                have HO727 := n5_
                have BK694 := n6_
                have BK702 := n7_
                have BK709 := n8_
                have HB := n9_
                clear n0_ n1_ n2_ n3_ n4_ n5_ n6_ n7_ n8_ n9_
                (try clear hb)
                (try clear hb2)
                (try clear hk)
                (try clear hi)
                refine hK.out _ _ ⟨(blk_cell BK694.out 0).trans rfl, (blk_cell BK694.out 1).trans rfl, (blk_cell BK694.out 2).trans rfl, (blk_cell BK702.out 0).trans rfl, (blk_cell BK702.out 1).trans rfl, (blk_cell BK702.out 2).trans rfl, (blk_cell BK709.out 0).trans rfl, (blk_cell BK709.out 1).trans rfl, (blk_cell BK709.out 2).trans rfl, (own_string Try.underlying24 Try.underlying5 Try.underlying9 (Kd.own_of_R (by (with_reducible repeat (first | apply Kd.R_alloc | apply Kd.R_drewN | apply Kd.R_drew)); exact HO719.out))), (own_string Try.underlying24 Try.underlying5 Try.underlying9 (Kd.own_of_R (by (with_reducible repeat (first | apply Kd.R_alloc | apply Kd.R_drewN | apply Kd.R_drew)); exact HO727.out)))⟩ (fun hHeld => ?_)
                clear hK K
                refine norm_ (a' := ?_) ?_ ?_
                rotate_left
                · show Act.put _ (some 54) _ = _
                  simp only [Act.put, List.setIfInBounds_toArray, List.set_cons_zero, List.set_cons_succ, i64_w, i32_w]
                  rfl
                refine pure_ (i := 25) (N := some 55) (v := ?_) (a' := ?_) #[true, true, true, true, true, true, true, true, true, true, true, true, true, true, true, true, true, true, true, true, true, true, true, true, true, true, false] rfl rfl (any_of HT_.out (by kernel_rfl)) (fun _ _ _ h => h) (Or.inl ⟨by rfl, ?_⟩) ?_ ?_
                rotate_left
                · intro w'
                  go_simp
                  with_reducible rfl
                rotate_left
                · simp only [Act.put, List.setIfInBounds_toArray, List.set_cons_zero, List.set_cons_succ, i64_w, i32_w]
                  rfl
                refine pure_ (i := 26) (N := some 4) (v := ?_) (a' := ?_) #[true, true, true, true, true, true, true, true, true, true, true, true, true, true, true, true, true, true, true, true, true, true, true, true, true, true, true] rfl rfl (any_of HT_.out (by kernel_rfl)) (fun _ _ _ h => h) (Or.inl ⟨by rfl, ?_⟩) ?_ ?_
                rotate_left
                · intro w'
                  go_simp
                  with_reducible rfl
                rotate_left
                · simp only [Act.put, List.setIfInBounds_toArray, List.set_cons_zero, List.set_cons_succ, i64_w, i32_w]
                  rfl
                refine done_ (done_of HT_.out (by kernel_rfl)) ?_
                try go_wp2
                go_ret
                exact ⟨by first | rfl | (simp [errW_none, errW_some] <;> rfl) | (simp [*, errW_none, errW_some] <;> rfl), by repeat (first | (with_reducible first | exact HB.out | apply below_alloc | apply pw_below_drewN | apply below_drew1 | refine below_set ?_ GE694.out | refine below_set ?_ GE702.out | refine below_set ?_ GE709.out) | exact HB.out)⟩
              · rw [if_neg c22] at H
                have c22b0 : (t701 == t708) = false := beq_eq_false_iff_ne.mpr c22
                have c22b1 : (t701 != t708) = true := bne_iff_ne.mpr c22
                exact absurd ((Option.some.inj H).trans HT_.out) (by decide)
            · rw [if_neg c21] at H
              have c21b0 : ((strOfNums t717).toList == (strOfNums t725).toList) = false := beq_eq_false_iff_ne.mpr c21
              have c21b1 : ((strOfNums t717).toList != (strOfNums t725).toList) = true := bne_iff_ne.mpr c21
              exact absurd ((Option.some.inj H).trans HT_.out) (by decide)
          · rw [if_neg c17] at H
            have c17b0 : (t710 == t716) = false := by simpa using c17
            (try (have c17b1 : decide (t710 = t716) = false := by simpa using c17))
            (try (have c17b2 : (t710 == t716) = false := by simpa using c17))
            (try (have c17b3 : ¬ (t710 = t716) := by simpa using c17))
            clear c17
            exact absurd ((Option.some.inj H).trans HT_.out) (by decide)
  · replace c4 := Bool.eq_false_iff.mpr c4
    subst c4
    have H1 : (some false) = some r := by rw [if_neg (show ¬ (false = true) by decide)] at H; exact H
    clear H
    have H := H1
    clear H1
    exact absurd ((Option.some.inj H).trans HT_.out) (by decide)

/-- THE ONE PURE STATEMENT of tallymanlaw20_FrameSays: yours. -/
def tallymanlaw20_FrameSays.Pure : Prop := ∀ (a0_0 : Bool) (a0_1 : Int) (l0_2 : List Int) (l1 : List Int), (Lit.int .u64 a0_1).wf = true → (l0_2.length ≤ maxLen ∧ ∀ x0_ ∈ l0_2, (Lit.int .u8 x0_).wf = true) → (l1.length ≤ maxLen ∧ ∀ x0_ ∈ l1, (Lit.int .u8 x0_).wf = true) → ∃ k, tallymanlaw20_FrameSays.f k a0_0 a0_1 l0_2 l1 = some true

end Go.Proofs.Ytlaojndlelcdaaa.P
