/- Written by pp.py, a program of this session over the printer of the kit: what the functions of the program compute, and that they do so; of a law: its row, without a condition. -/
import Derived.Test.YtlaojndlelcdaaaPx0
import Derived.Test.YtlaojndlelcdaaaPx1
import Derived.Test.YtlaojndlelcdaaaPx2
namespace Go.Proofs.Ytlaojndlelcdaaa.P
open Go.RowKit Go.Proofs.YtlaojndlelcdaaaW.PrintWords Go.Proofs.YtlaojndlelcdaaaW.PrintLast Go.Proofs.YtlaojndlelcdaaaW.PrintMore
attribute [local go_sem] max2_int min2_int max_two min_two max_three min_three max_four min_four   -- for this text's walks alone
set_option linter.unusedVariables false
set_option linter.unusedSimpArgs false

/-! ### num_Size: function 23 -/
def num_Size.f (k : Nat) (a0 : Int) : Option (Int) := (num_Put.f k ([] : List Int) a0).bind fun t126 => (some (t126.length : Int))
theorem num_Size.mono : ∀ a0 k, LeO (num_Size.f k a0) (num_Size.f (k + 1) a0) := by
  intro a0 k
  unfold num_Size.f
  repeat' first
      | (with_reducible exact num_Put.mono _ _ _)
      | (with_reducible exact LeO.refl _)
      | (with_reducible exact LeO.none _)
      | (with_reducible refine LeO.ite ?_ ?_)
      | (with_reducible refine LeO.bind ?_ (fun _ => ?_))
      | exact num_Put.mono _ _ _
      | exact LeO.none _
      | refine LeO.ite ?_ ?_
      | refine LeO.bind ?_ (fun _ => ?_)
set_option maxHeartbeats 8000000 in
set_option maxRecDepth 100000 in
theorem num_Size.calls (k : Nat) (a0 : Int) (r : Int) (w : World) (h : num_Size.f k a0 = some r) :
    Calls Try.prog 23 #[.int .u64 a0] w fun e w' => e = .returned (.int .i64 r) ∧ Below w.heap.size w w' := by
  have HB := Aside0.mk (Below.refl w.heap.size w)
  have H : ((num_Put.f k ([] : List Int) a0).bind fun t126 => (some (t126.length : Int))) = some r := h
  clear h
  replace H := Option.bind_eq_some_iff.mp H
  obtain ⟨t126, A20, H⟩ := H
  replace H : (some (t126.length : Int)) = some r := H
  have A2 := Aside0.mk A20
  clear A20
  obtain rfl := Option.some.inj H
  go_enter Try.func23, Try.ntmps23
  go_wp2_with (first | ((with_reducible refine gate_callee (f := 22) rfl ?_); refine goesL_ (some 4) rfl rfl Try.func22 (by kernel_rfl) rfl #[.slice none 0 0, .int .u64 a0] rfl (by (try simp only [List.map_toArray, List.map_cons, List.map_nil]); first | done | rfl | (simp only [List.length_drop, List.length_take]; rfl)) ?_; (refine (num_Put.calls k _ _ ([] : List Int) a0 t126 _ ?side1 ?side2 A2.out).mono ?_); (case side1 => exact Kd.C_nil _ _); (case side2 => exact Nat.le_refl _); rintro e w3 ⟨v127, rfl, ho0, hb⟩; refine ⟨_, rfl, ?_⟩; have n0_ := Aside0.mk (Kd.R_lower ho0 (below_size (by repeat (first | (with_reducible first | exact HB.out | apply below_alloc | apply pw_below_drewN | apply below_drew1) | exact HB.out)))); have n1_ := Aside0.mk (below_step (by repeat (first | (with_reducible first | exact HB.out | apply below_alloc | apply pw_below_drewN | apply below_drew1) | exact HB.out)) hb); clear HB; have HO128 := n0_; have HB := n1_; clear n0_ n1_; (try clear hb); (try clear hb2); (try clear hk); (try clear hi); (try clear ho0); obtain ⟨Ao4, co4, eo4⟩ := Kd.R_slice HO128.out; subst eo4))
  go_ret
  exact ⟨by first | rfl | (simp [errW_none, errW_some] <;> rfl) | (simp [*, errW_none, errW_some] <;> rfl), by repeat (first | (with_reducible first | exact HB.out | apply below_alloc | apply pw_below_drewN | apply below_drew1) | exact HB.out)⟩

/-! ### tallymanlaw4_NumRow: function 3 -/
mutual
def tallymanlaw4_NumRow.l0 : Nat → List Int → List Int → Int → Int → Option (Bool)
  | 0, _, _, _, _ => none
  | k + 1, x0, x3, x4, x5 => if x5 < (x0.length : Int) then (if 0 ≤ x5 then ((num_Put.f k x3 (rd x0 x5)).bind fun t131 => ((num_Size.f k (rd x0 x5)).bind fun t135 => (tallymanlaw4_NumRow.l0 k x0 t131 (wrap64 (x4 + t135)) (wrap64 (x5 + 1))))) else (none)) else (if (x3.length : Int) = x4 then (tallymanlaw4_NumRow.l1 k x0 x3 0) else (some false))
def tallymanlaw4_NumRow.l1 : Nat → List Int → List Int → Int → Option (Bool)
  | 0, _, _, _ => none
  | k + 1, x0, x3, x6 => if x6 < (x0.length : Int) then ((num_Get.f k x3).bind fun bt136 => (if bt136.2.2 = 0 then (if 0 ≤ x6 then (if bt136.1 = (rd x0 x6) then (if bt136.2.1 > (x3.length : Int) then (some false) else (if bt136.2.1 < 1 then (some false) else (if 0 ≤ bt136.2.1 then (if bt136.2.1 ≤ (x3.length : Int) then (tallymanlaw4_NumRow.l1 k x0 (x3.drop (bt136.2.1 : Int).toNat) (wrap64 (x6 + 1))) else (none)) else (none)))) else (some false)) else (none)) else (some false))) else (some ((x3.length : Int) == 0))
end
def tallymanlaw4_NumRow.f (k : Nat) (l0 : List Int) : Option (Bool) := (tallymanlaw4_awake.f k).bind fun t129 => (if t129 = true then (if (l0.length : Int) > 100 then (some true) else (tallymanlaw4_NumRow.l0 k l0 ([] : List Int) 0 0)) else (some false))
theorem tallymanlaw4_NumRow.mono_l : ∀ k, (∀ y0 y1 y2 y3, LeO (tallymanlaw4_NumRow.l0 k y0 y1 y2 y3) (tallymanlaw4_NumRow.l0 (k + 1) y0 y1 y2 y3)) ∧ (∀ y0 y1 y2, LeO (tallymanlaw4_NumRow.l1 k y0 y1 y2) (tallymanlaw4_NumRow.l1 (k + 1) y0 y1 y2))
  | 0 => ⟨fun _ _ _ _ r h => by simp [tallymanlaw4_NumRow.l0] at h, fun _ _ _ r h => by simp [tallymanlaw4_NumRow.l1] at h⟩
  | k + 1 => by
    obtain ⟨ih0, ih1⟩ := tallymanlaw4_NumRow.mono_l k
    refine ⟨?_, ?_⟩
    · intro y0 y1 y2 y3
      unfold tallymanlaw4_NumRow.l0
      repeat' first
      | (with_reducible exact ih0 _ _ _ _)
      | (with_reducible exact ih1 _ _ _)
      | (with_reducible exact num_Get.mono _ _)
      | (with_reducible exact num_Put.mono _ _ _)
      | (with_reducible exact num_Size.mono _ _)
      | (with_reducible exact tallymanlaw4_awake.mono _)
      | (with_reducible exact LeO.refl _)
      | (with_reducible exact LeO.none _)
      | (with_reducible refine LeO.ite ?_ ?_)
      | (with_reducible refine LeO.bind ?_ (fun _ => ?_))
      | exact ih0 _ _ _ _
      | exact ih1 _ _ _
      | exact num_Get.mono _ _
      | exact num_Put.mono _ _ _
      | exact num_Size.mono _ _
      | exact tallymanlaw4_awake.mono _
      | exact LeO.none _
      | refine LeO.ite ?_ ?_
      | refine LeO.bind ?_ (fun _ => ?_)
    · intro y0 y1 y2
      unfold tallymanlaw4_NumRow.l1
      repeat' first
      | (with_reducible exact ih0 _ _ _ _)
      | (with_reducible exact ih1 _ _ _)
      | (with_reducible exact num_Get.mono _ _)
      | (with_reducible exact num_Put.mono _ _ _)
      | (with_reducible exact num_Size.mono _ _)
      | (with_reducible exact tallymanlaw4_awake.mono _)
      | (with_reducible exact LeO.refl _)
      | (with_reducible exact LeO.none _)
      | (with_reducible refine LeO.ite ?_ ?_)
      | (with_reducible refine LeO.bind ?_ (fun _ => ?_))
      | exact ih0 _ _ _ _
      | exact ih1 _ _ _
      | exact num_Get.mono _ _
      | exact num_Put.mono _ _ _
      | exact num_Size.mono _ _
      | exact tallymanlaw4_awake.mono _
      | exact LeO.none _
      | refine LeO.ite ?_ ?_
      | refine LeO.bind ?_ (fun _ => ?_)
theorem tallymanlaw4_NumRow.mono : ∀ a0 k, LeO (tallymanlaw4_NumRow.f k a0) (tallymanlaw4_NumRow.f (k + 1) a0) := by
  intro a0 k
  obtain ⟨ih0, ih1⟩ := tallymanlaw4_NumRow.mono_l k
  unfold tallymanlaw4_NumRow.f
  repeat' first
      | (with_reducible exact ih0 _ _ _ _)
      | (with_reducible exact ih1 _ _ _)
      | (with_reducible exact num_Get.mono _ _)
      | (with_reducible exact num_Put.mono _ _ _)
      | (with_reducible exact num_Size.mono _ _)
      | (with_reducible exact tallymanlaw4_awake.mono _)
      | (with_reducible exact LeO.refl _)
      | (with_reducible exact LeO.none _)
      | (with_reducible refine LeO.ite ?_ ?_)
      | (with_reducible refine LeO.bind ?_ (fun _ => ?_))
      | exact ih0 _ _ _ _
      | exact ih1 _ _ _
      | exact num_Get.mono _ _
      | exact num_Put.mono _ _ _
      | exact num_Size.mono _ _
      | exact tallymanlaw4_awake.mono _
      | exact LeO.none _
      | refine LeO.ite ?_ ?_
      | refine LeO.bind ?_ (fun _ => ?_)
set_option maxHeartbeats 8000000 in
set_option maxRecDepth 100000 in
theorem tallymanlaw4_NumRow.calls (k : Nat) (A0 : Option Addr) (c0 : Nat) (l0 : List Int) (r : Bool) (w : World) (hr0 : Kd.C (Kd.int .u64) w A0 l0.length l0) (hc0 : l0.length ≤ c0) (h : tallymanlaw4_NumRow.f k l0 = some r) (hr_ : r = true) :
    Calls Try.prog 3 #[.slice A0 l0.length c0] w fun e w' => e = .returned (.bool r) ∧ Below w.heap.size w w' := by
  have HT_ := Aside0.mk hr_
  clear hr_
  have HR0 := Aside0.mk hr0
  have HC0 := Aside0.mk hc0
  clear hr0 hc0
  have HB := Aside0.mk (Below.refl w.heap.size w)
  have H : ((tallymanlaw4_awake.f k).bind fun t129 => (if t129 = true then (if (l0.length : Int) > 100 then (some true) else (tallymanlaw4_NumRow.l0 k l0 ([] : List Int) 0 0)) else (some false))) = some r := h
  clear h
  replace H := Option.bind_eq_some_iff.mp H
  obtain ⟨t129, A20, H⟩ := H
  replace H : (if t129 = true then (if (l0.length : Int) > 100 then (some true) else (tallymanlaw4_NumRow.l0 k l0 ([] : List Int) 0 0)) else (some false)) = some r := H
  have A2 := Aside0.mk A20
  clear A20
  by_cases c3 : t129 = true
  · subst c3
    have H1 : (if (l0.length : Int) > 100 then (some true) else (tallymanlaw4_NumRow.l0 k l0 ([] : List Int) 0 0)) = some r := by rw [if_pos rfl] at H; exact H
    clear H
    have H := H1
    clear H1
    by_cases c4 : (l0.length : Int) > 100
    · rw [if_pos c4] at H
      have c4b0 : decide (100 < (l0.length : Int)) = true := decide_eq_true c4
      have c4b1 : decide (100 < l0.length) = true := decide_eq_true (by omega)
      clear c4
      obtain rfl := Option.some.inj H
      go_enter Try.func3, Try.ntmps3
      go_wp2_with (first | ((with_reducible refine gate_callee (f := 21) rfl ?_); refine goesL_ (some 10) rfl rfl Try.func21 (by kernel_rfl) rfl #[] rfl (by (try simp only [List.map_toArray, List.map_cons, List.map_nil]); first | done | rfl | (simp only [List.length_drop, List.length_take]; rfl)) ?_; (with_reducible refine (tallymanlaw4_awake.calls k  true _ A2.out).mono ?_); rintro e w5 ⟨rfl, hb⟩; refine ⟨_, rfl, ?_⟩; have n0_ := Aside0.mk (below_step (by repeat (first | (with_reducible first | exact HB.out | apply below_alloc | apply pw_below_drewN | apply below_drew1) | exact HB.out)) hb); clear HB; have HB := n0_; clear n0_; (try clear hb); (try clear hb2); (try clear hk); (try clear hi)))
      go_ret
      exact ⟨by first | rfl | (simp [errW_none, errW_some] <;> rfl) | (simp [*, errW_none, errW_some] <;> rfl), by repeat (first | (with_reducible first | exact HB.out | apply below_alloc | apply pw_below_drewN | apply below_drew1) | exact HB.out)⟩
    · rw [if_neg c4] at H
      have c4b0 : decide (100 < (l0.length : Int)) = false := decide_eq_false c4
      have c4b1 : decide (100 < l0.length) = false := decide_eq_false (by omega)
      clear c4
      have H' := Aside0.mk H
      clear H
      go_enter Try.func3, Try.ntmps3
      go_wp2_with (first | ((with_reducible refine gate_callee (f := 21) rfl ?_); refine goesL_ (some 10) rfl rfl Try.func21 (by kernel_rfl) rfl #[] rfl (by (try simp only [List.map_toArray, List.map_cons, List.map_nil]); first | done | rfl | (simp only [List.length_drop, List.length_take]; rfl)) ?_; (with_reducible refine (tallymanlaw4_awake.calls k  true _ A2.out).mono ?_); rintro e w6 ⟨rfl, hb⟩; refine ⟨_, rfl, ?_⟩; have n0_ := Aside0.mk (below_step (by repeat (first | (with_reducible first | exact HB.out | apply below_alloc | apply pw_below_drewN | apply below_drew1) | exact HB.out)) hb); clear HB; have HB := n0_; clear n0_; (try clear hb); (try clear hb2); (try clear hk); (try clear hi)))
      go_loopg [3, 4, 5] k (fun kq v3 v4 v5 w' => ∃ (x3_1 : List Int) (x4_1 : Int) (x5_1 : Int), v4 = .int .i64 x4_1 ∧ v5 = .int .i64 x5_1 ∧ Aside0 (tallymanlaw4_NumRow.l0 kq l0 x3_1 x4_1 x5_1 = some r) ∧ Aside0 (kq ≤ k) ∧ Aside0 (Kd.Q (Kd.int .u8) 5 w' w.heap.size (fun _ => True) v3 x3_1) ∧ Aside0 (Below w.heap.size w w'))
      case atStart => exact ⟨(([] : List Int)), (0), (0), (by first | rfl | (simp; done) | (simp [*]; done)), (by first | rfl | (simp; done) | (simp [*]; done)), H', ⟨Nat.le_refl _⟩, ⟨Kd.Q_of_R (by first | exact Kd.R_nil _ _ _ _ _ | exact Kd.N_nil _ _ _ _ _ | exact Kd.V_nil _ _ _ _ _ | exact Kd.Q_nil _ _ _ _ _ | exact Kd.S_nil _ _ _ _ _)⟩, ⟨by repeat (first | (with_reducible first | exact HB.out | apply below_alloc | apply pw_below_drewN | apply below_drew1) | exact HB.out)⟩⟩
      case round =>
        clear H'
        try clear c2
        try clear p2
        try clear c3
        try clear c4
        try clear c4b0
        try clear c4b1
        obtain ⟨x3_1, x4_1, x5_1, rfl, rfl, HA, HK1, HO_3, HB⟩ := hrel
        cases gk with
        | zero => exact absurd HA.out (by simp [tallymanlaw4_NumRow.l0])
        | succ k1 =>
          have H := HA.out
          clear HA
          simp only [tallymanlaw4_NumRow.l0] at H
          by_cases c7 : x5_1 < (l0.length : Int)
          · rw [if_pos c7] at H
            have c7b0 : decide (x5_1 < (l0.length : Int)) = true := decide_eq_true c7
            clear c7
            by_cases c8 : 0 ≤ x5_1
            · rw [if_pos c8] at H
              have c8b0 : decide (0 ≤ x5_1) = true := decide_eq_true c8
              clear c8
              replace H := Option.bind_eq_some_iff.mp H
              obtain ⟨t131, A90, H⟩ := H
              replace H : ((num_Size.f k1 (rd l0 x5_1)).bind fun t135 => (tallymanlaw4_NumRow.l0 k1 l0 t131 (wrap64 (x4_1 + t135)) (wrap64 (x5_1 + 1)))) = some r := H
              have A9 := Aside0.mk A90
              clear A90
              replace H := Option.bind_eq_some_iff.mp H
              obtain ⟨t135, A100, H⟩ := H
              replace H : (tallymanlaw4_NumRow.l0 k1 l0 t131 (wrap64 (x4_1 + t135)) (wrap64 (x5_1 + 1))) = some r := H
              have A10 := Aside0.mk A100
              clear A100
              have H' := Aside0.mk H
              clear H
              have p130 : 0 ≤ (x5_1 : Int) := of_decide_eq_true (by first | (with_reducible assumption) | assumption)
              have q130 : x5_1 < (l0.length : Int) := of_decide_eq_true (by first | (with_reducible assumption) | assumption)
              obtain ⟨ad130, e130, hx130_0⟩ := Kd.at_int HR0.out x5_1 p130 q130
              cases e130
              replace hx130_0 := (HB.out.cell (World.block_lt_of_cell? w _ hx130_0)).trans hx130_0
              replace p130 := eq_true p130
              replace q130 := eq_true q130
              obtain ⟨Ao11, co11, eo11, _⟩ := Kd.Q_slice HO_3.out
              subst eo11
              go_wp2_with (first | ((with_reducible refine gate_callee (f := 22) rfl ?_); refine goesL_ (some 26) rfl rfl Try.func22 (by kernel_rfl) rfl #[.slice Ao11 x3_1.length co11, .int .u64 (rd l0 x5_1)] rfl (by (try simp only [List.map_toArray, List.map_cons, List.map_nil]); first | done | rfl | (simp only [List.length_drop, List.length_take]; rfl)) ?_; (with_reducible refine (num_Put.calls k1 _ _ x3_1 (rd l0 x5_1) t131 _ ?side1 ?side2 A9.out).mono ?_); (case side1 => repeat (first | exact (Kd.Q_reads' HO_3.out).2.2 | (with_reducible refine Kd.C_alloc ?_ _) | (with_reducible refine Kd.C_drewN ?_ _) | (with_reducible refine Kd.C_drew ?_))); (case side2 => exact (Kd.Q_reads' HO_3.out).2.1); rintro e w12 ⟨v132, rfl, ho0, hb⟩; refine ⟨_, rfl, ?_⟩; have n0_ := Aside0.mk (Kd.Q_elder' (by (with_reducible repeat (first | apply Kd.Q_alloc | apply Kd.Q_drewN | apply Kd.Q_drew)); exact HO_3.out) (Kd.R_base ho0) hb); have n1_ := Aside0.mk (Kd.R_lower (Kd.R_new' ho0 (Kd.Q_lt (by (with_reducible repeat (first | apply Kd.Q_alloc | apply Kd.Q_drewN | apply Kd.Q_drew)); exact HO_3.out))) (below_size (by repeat (first | (with_reducible first | exact HB.out | apply below_alloc | apply pw_below_drewN | apply below_drew1) | exact HB.out)))); have n2_ := Aside0.mk (below_step (by repeat (first | (with_reducible first | exact HB.out | apply below_alloc | apply pw_below_drewN | apply below_drew1) | exact HB.out)) hb); clear HO_3; clear HB; have HO_3 := n0_; have HO133 := n1_; have HB := n2_; clear n0_ n1_ n2_; (try clear hb); (try clear hb2); (try clear hk); (try clear hi); (try clear ho0); have p134 : 0 ≤ (x5_1 : Int) := of_decide_eq_true (by first | (with_reducible assumption) | assumption); have q134 : x5_1 < (l0.length : Int) := of_decide_eq_true (by first | (with_reducible assumption) | assumption); obtain ⟨ad134, e134, hx134_0⟩ := Kd.at_int HR0.out x5_1 p134 q134; obtain rfl : ad130 = ad134 := (by injection e134); replace hx134_0 := (HB.out.cell (World.block_lt_of_cell? w _ hx134_0)).trans hx134_0; replace p134 := eq_true p134; replace q134 := eq_true q134) | ((with_reducible refine gate_callee (f := 23) rfl ?_); refine goesL_ (some 32) rfl rfl Try.func23 (by kernel_rfl) rfl #[.int .u64 (rd l0 x5_1)] rfl (by (try simp only [List.map_toArray, List.map_cons, List.map_nil]); first | done | rfl | (simp only [List.length_drop, List.length_take]; rfl)) ?_; (with_reducible refine (num_Size.calls k1 (rd l0 x5_1) t135 _ A10.out).mono ?_); rintro e w13 ⟨rfl, hb⟩; refine ⟨_, rfl, ?_⟩; have n0_ := Aside0.mk (Kd.Q_below (by (with_reducible repeat (first | apply Kd.Q_alloc | apply Kd.Q_drewN | apply Kd.Q_drew)); exact HO_3.out) hb); have n1_ := Aside0.mk (Kd.R_below (by (with_reducible repeat (first | apply Kd.R_alloc | apply Kd.R_drewN | apply Kd.R_drew)); exact HO133.out) hb); have n2_ := Aside0.mk (below_step (by repeat (first | (with_reducible first | exact HB.out | apply below_alloc | apply pw_below_drewN | apply below_drew1) | exact HB.out)) hb); clear HO_3; clear HO133; clear HB; have HO_3 := n0_; have HO133 := n1_; have HB := n2_; clear n0_ n1_ n2_; (try clear hb); (try clear hb2); (try clear hk); (try clear hi)))
              go_roundg k1
              case measure => have := HK1.out; omega
              case rel => exact ⟨(t131), (wrap64 (x4_1 + t135)), (wrap64 (x5_1 + 1)), (by first | rfl | (simp; done) | (simp [*]; done)), (by first | rfl | (simp; done) | (simp [*]; done)), H', ⟨by have := HK1.out; omega⟩, ⟨Kd.Q_of_R (by (with_reducible repeat (first | apply Kd.R_alloc | apply Kd.R_drewN | apply Kd.R_drew)); exact Kd.R_mono HO133.out (fun _ hk => trivial))⟩, ⟨by repeat (first | (with_reducible first | exact HB.out | apply below_alloc | apply pw_below_drewN | apply below_drew1) | exact HB.out)⟩⟩
            · rw [if_neg c8] at H
              exact absurd H (by simp)
          · rw [if_neg c7] at H
            have c7b0 : decide (x5_1 < (l0.length : Int)) = false := decide_eq_false c7
            clear c7
            by_cases c14 : (x3_1.length : Int) = x4_1
            · rw [if_pos c14] at H
              have c14b0 : ((x3_1.length : Int) == x4_1) = true := beq_iff_eq.mpr c14
              have c14b1 : ((x3_1.length : Int) != x4_1) = false := bne_eq_false_iff_eq.mpr c14
              clear c14
              have H' := Aside0.mk H
              clear H
              obtain ⟨Ao15, co15, eo15, _⟩ := Kd.Q_slice HO_3.out
              subst eo15
              go_wp2
              go_loopg [3, 6] k1 (fun kq v3 v6 w' => ∃ (x3_2 : List Int) (x6_2 : Int), v6 = .int .i64 x6_2 ∧ Aside0 (tallymanlaw4_NumRow.l1 kq l0 x3_2 x6_2 = some r) ∧ Aside0 (kq ≤ k1) ∧ Aside0 (Kd.Q (Kd.int .u8) 5 w' w.heap.size (fun _ => True) v3 x3_2) ∧ Aside0 (Below w.heap.size w w'))
              case atStart => exact ⟨(x3_1), (0), (by first | rfl | (simp; done) | (simp [*]; done)), H', ⟨Nat.le_refl _⟩, ⟨by (with_reducible repeat (first | apply Kd.Q_alloc | apply Kd.Q_drewN | apply Kd.Q_drew)); exact HO_3.out⟩, ⟨by repeat (first | (with_reducible first | exact HB.out | apply below_alloc | apply pw_below_drewN | apply below_drew1) | exact HB.out)⟩⟩
              case round =>
                clear H'
                try clear c1
                try clear p1
                try clear q1
                try clear hx1
                try clear c2
                try clear p2
                try clear c3
                try clear c4
                try clear c4b0
                try clear c4b1
                try clear p6
                try clear c7
                try clear c7b0
                try clear c8
                try clear c8b0
                try clear p13
                try clear q13
                try clear hx13
                try clear c14
                try clear c14b0
                try clear c14b1
                try clear hx130_0
                try clear hx134_0
                try clear p130
                try clear p134
                try clear p2
                try clear q130
                try clear q134
                obtain ⟨x3_2, x6_2, rfl, HA, HK2, HO_3, HB⟩ := hrel
                cases gk with
                | zero => exact absurd HA.out (by simp [tallymanlaw4_NumRow.l1])
                | succ k2 =>
                  have H := HA.out
                  clear HA
                  simp only [tallymanlaw4_NumRow.l1] at H
                  by_cases c16 : x6_2 < (l0.length : Int)
                  · rw [if_pos c16] at H
                    have c16b0 : decide (x6_2 < (l0.length : Int)) = true := decide_eq_true c16
                    clear c16
                    replace H := Option.bind_eq_some_iff.mp H
                    obtain ⟨⟨t136, t137, t138⟩, A170, H⟩ := H
                    replace H : (if t138 = 0 then (if 0 ≤ x6_2 then (if t136 = (rd l0 x6_2) then (if t137 > (x3_2.length : Int) then (some false) else (if t137 < 1 then (some false) else (if 0 ≤ t137 then (if t137 ≤ (x3_2.length : Int) then (tallymanlaw4_NumRow.l1 k2 l0 (x3_2.drop (t137 : Int).toNat) (wrap64 (x6_2 + 1))) else (none)) else (none)))) else (some false)) else (none)) else (some false)) = some r := H
                    have A17 := Aside0.mk A170
                    clear A170
                    by_cases c18 : t138 = 0
                    · rw [if_pos c18] at H
                      have c18b0 : (t138 == 0) = true := beq_iff_eq.mpr c18
                      have c18b1 : (t138 != 0) = false := bne_eq_false_iff_eq.mpr c18
                      clear c18
                      by_cases c19 : 0 ≤ x6_2
                      · rw [if_pos c19] at H
                        have c19b0 : decide (0 ≤ x6_2) = true := decide_eq_true c19
                        clear c19
                        by_cases c20 : t136 = (rd l0 x6_2)
                        · rw [if_pos c20] at H
                          have c20b0 : (t136 == (rd l0 x6_2)) = true := beq_iff_eq.mpr c20
                          have c20b1 : (t136 != (rd l0 x6_2)) = false := bne_eq_false_iff_eq.mpr c20
                          clear c20
                          by_cases c21 : t137 > (x3_2.length : Int)
                          · rw [if_pos c21] at H
                            have c21b0 : decide ((x3_2.length : Int) < t137) = true := decide_eq_true c21
                            clear c21
                            exact absurd ((Option.some.inj H).trans HT_.out) (by decide)
                          · rw [if_neg c21] at H
                            have c21b0 : decide ((x3_2.length : Int) < t137) = false := decide_eq_false c21
                            clear c21
                            by_cases c22 : t137 < 1
                            · rw [if_pos c22] at H
                              have c22b0 : decide (t137 < 1) = true := decide_eq_true c22
                              clear c22
                              exact absurd ((Option.some.inj H).trans HT_.out) (by decide)
                            · rw [if_neg c22] at H
                              have c22b0 : decide (t137 < 1) = false := decide_eq_false c22
                              clear c22
                              by_cases c23 : 0 ≤ t137
                              · rw [if_pos c23] at H
                                have c23b0 := eq_true c23
                                have c23b1 : decide (0 ≤ t137) = true := decide_eq_true c23
                                clear c23
                                by_cases c24 : t137 ≤ (x3_2.length : Int)
                                · rw [if_pos c24] at H
                                  have c24b0 := eq_true c24
                                  have c24b1 : decide (t137 ≤ (x3_2.length : Int)) = true := decide_eq_true c24
                                  clear c24
                                  obtain ⟨y140, hy140⟩ : ∃ y_ : List Int, y_ = (x3_2.drop (t137 : Int).toNat) := ⟨_, rfl⟩
                                  replace H : (tallymanlaw4_NumRow.l1 k2 l0 y140 (wrap64 (x6_2 + 1))) = some r := by first | (rw [hy140]; with_reducible exact H) | (have H2_ := (Option.bind_some _ _).symm.trans H; rw [hy140]; with_reducible exact H2_) | (have H2_ := (Option.bind_some _ _).symm.trans H; with_reducible exact H2_) | with_reducible exact H | (rw [hy140]; exact H) | exact H
                                  have Ny140 := Aside0.mk hy140
                                  clear hy140
                                  have H' := Aside0.mk H
                                  clear H
                                  obtain ⟨Ao25, co25, eo25, _⟩ := Kd.Q_slice HO_3.out
                                  subst eo25
                                  go_wp2_with (first | ((with_reducible refine gate_callee (f := 24) rfl ?_); refine goesL_ (some 46) rfl rfl Try.func24 (by kernel_rfl) rfl #[.slice Ao25 x3_2.length co25] rfl (by (try simp only [List.map_toArray, List.map_cons, List.map_nil]); first | done | rfl | (simp only [List.length_drop, List.length_take]; rfl)) ?_; (with_reducible refine (num_Get.calls k2 _ _ x3_2 t136 t137 t138 _ ?side1 ?side2 A17.out).mono ?_); (case side1 => repeat (first | exact (Kd.Q_reads' HO_3.out).2.2 | (with_reducible refine Kd.C_alloc ?_ _) | (with_reducible refine Kd.C_drewN ?_ _) | (with_reducible refine Kd.C_drew ?_))); (case side2 => exact (Kd.Q_reads' HO_3.out).2.1); rintro e w' ⟨rfl, ⟨nd, rfl⟩⟩; refine ⟨_, rfl, ?_⟩; have p139 : 0 ≤ (x6_2 : Int) := of_decide_eq_true (by first | (with_reducible assumption) | assumption); have q139 : x6_2 < (l0.length : Int) := of_decide_eq_true (by first | (with_reducible assumption) | assumption); obtain ⟨ad139, e139, hx139_0⟩ := Kd.at_int HR0.out x6_2 p139 q139; cases e139; replace hx139_0 := (HB.out.cell (World.block_lt_of_cell? w _ hx139_0)).trans hx139_0; replace p139 := eq_true p139; replace q139 := eq_true q139; have q26 : (t137 : Int) ≤ ((x3_2.length : Int) : Int) := of_decide_eq_true (by first | (with_reducible assumption) | assumption); obtain ⟨i026, hi026, _, hsz26, _⟩ := info_parts info5; have hcut26 := cut_from (P := Try.prog) 24 5 .i64 Try.underlying24 hi026 1 hsz26 Ao25 x3_2.length co25 t137 (of_decide_eq_true (by first | (with_reducible assumption) | assumption)) q26; have hr26 := Kd.Q_drop (k := (t137 : Int).toNat) HO_3.out (by omega); obtain ⟨A26, hA26⟩ : ∃ A1, A1 = (if co25 = (t137 : Int).toNat then Ao25 else (Ao25 : Option Addr).map (·.add ((t137 : Int).toNat * 1))) := ⟨_, rfl⟩; obtain ⟨c26, hc26⟩ : ∃ c1, c1 = co25 - (t137 : Int).toNat := ⟨_, rfl⟩; have hy26 : y140.length = x3_2.length - (t137 : Int).toNat := (by rw [Ny140.out, List.length_drop]); rw [← Ny140.out] at hr26; rw [← hy26, ← hA26, ← hc26] at hcut26; replace hr26 : Kd.Q (Kd.int .u8) 5 wr w.heap.size (fun _ => True) (.slice A26 y140.length c26) y140 := (by rw [hA26, hc26, hy26]; exact hr26); have HE26 : Aside0 ((Value.slice A26 y140.length c26).ownBlock = (.slice Ao25 x3_2.length co25 : Value).ownBlock) := ⟨by rw [hA26]; split <;> (cases (Ao25 : Option Addr) <;> first | rfl | (simp only [Option.map, Value.ownBlock, Addr.add]; split <;> rfl))⟩; clear hy26 hi026 hsz26 HO_3 hA26 hc26; have HO142 := Aside0.mk hr26; clear hr26; replace q26 := eq_true q26))
                                  go_roundg k2
                                  case measure => have := HK1.out; have := HK2.out; omega
                                  case rel => exact ⟨(y140), (wrap64 (x6_2 + 1)), (by first | rfl | (simp; done) | (simp [*]; done)), H', ⟨by have := HK1.out; have := HK2.out; omega⟩, ⟨by (with_reducible repeat (first | apply Kd.Q_alloc | apply Kd.Q_drewN | apply Kd.Q_drew)); exact HO142.out⟩, ⟨by repeat (first | (with_reducible first | exact HB.out | apply below_alloc | apply pw_below_drewN | apply below_drew1) | exact HB.out)⟩⟩
                                · rw [if_neg c24] at H
                                  exact absurd H (by simp)
                              · rw [if_neg c23] at H
                                exact absurd H (by simp)
                        · rw [if_neg c20] at H
                          have c20b0 : (t136 == (rd l0 x6_2)) = false := beq_eq_false_iff_ne.mpr c20
                          have c20b1 : (t136 != (rd l0 x6_2)) = true := bne_iff_ne.mpr c20
                          exact absurd ((Option.some.inj H).trans HT_.out) (by decide)
                      · rw [if_neg c19] at H
                        exact absurd H (by simp)
                    · rw [if_neg c18] at H
                      have c18b0 : (t138 == 0) = false := beq_eq_false_iff_ne.mpr c18
                      have c18b1 : (t138 != 0) = true := bne_iff_ne.mpr c18
                      exact absurd ((Option.some.inj H).trans HT_.out) (by decide)
                  · rw [if_neg c16] at H
                    have c16b0 : decide (x6_2 < (l0.length : Int)) = false := decide_eq_false c16
                    clear c16
                    obtain rfl := Option.some.inj H
                    obtain ⟨Ao27, co27, eo27, _⟩ := Kd.Q_slice HO_3.out
                    subst eo27
                    go_wp2
                    go_ret
                    exact ⟨by first | rfl | (simp [errW_none, errW_some] <;> rfl) | (simp [*, errW_none, errW_some] <;> rfl), by repeat (first | (with_reducible first | exact HB.out | apply below_alloc | apply pw_below_drewN | apply below_drew1) | exact HB.out)⟩
            · rw [if_neg c14] at H
              have c14b0 : ((x3_1.length : Int) == x4_1) = false := beq_eq_false_iff_ne.mpr c14
              have c14b1 : ((x3_1.length : Int) != x4_1) = true := bne_iff_ne.mpr c14
              exact absurd ((Option.some.inj H).trans HT_.out) (by decide)
  · replace c3 := Bool.eq_false_iff.mpr c3
    subst c3
    have H1 : (some false) = some r := by rw [if_neg (show ¬ (false = true) by decide)] at H; exact H
    clear H
    have H := H1
    clear H1
    exact absurd ((Option.some.inj H).trans HT_.out) (by decide)

/-- THE ONE PURE STATEMENT of tallymanlaw4_NumRow: yours. -/
def tallymanlaw4_NumRow.Pure : Prop := ∀ (l0 : List Int), l0.length ≤ maxLen → l0.length * 8 ≤ 140737488351232 → (∀ x ∈ l0, (Lit.int .u64 x).wf = true) → ∃ k, tallymanlaw4_NumRow.f k l0 = some true
theorem tallymanlaw4_NumRow.walk (P : tallymanlaw4_NumRow.Pure) (a0 : Option Addr) (len0 cap0 : Nat) (z0 : List Int) (w : World) (w0 : (a0 = none ∧ len0 = 0 ∧ cap0 = 0 ∧ z0 = []) ∨ ∃ x, a0 = some x ∧ len0 ≤ cap0 ∧ cap0 ≤ maxLen ∧ z0.length = cap0 ∧ (∀ i, i < z0.length → w.cell? (x.add i) = some (.int .u64 (z0.getD i 0))) ∧ ∀ n ∈ z0, (Lit.int .u64 n).wf = true) (y0 : len0 * 8 ≤ 140737488351232) :
    Calls Try.prog 3 #[.slice a0 len0 cap0] w fun e w' => e = .returned (.bool true) ∧ Below w.heap.size w w' := by
  obtain ⟨l0, rfl, hr0, hm0, hw0, hc0⟩ := ReadsInt.ofRowC w0
  obtain ⟨k, h⟩ := P l0 hm0 y0 hw0
  refine (tallymanlaw4_NumRow.calls k _ _ l0 true w (Kd.C_of_reads (d := (0 : Int)) (h1 := fun _ => rfl) hr0) hc0 h rfl).mono ?_
  rintro e w' ⟨rfl, hd⟩
  exact ⟨rfl, hd⟩

/-! ### num_Open: function 25 -/
def num_Open.f (a0 : Int) : Option (Int) := some (Go.bits .xor .i64 (wrap64 (a0 / 2)) (wrap64 (-(wrap64 (Go.bits .and .u64 a0 1)))))
set_option maxHeartbeats 8000000 in
set_option maxRecDepth 100000 in
theorem num_Open.calls (a0 : Int) (r : Int) (w : World) (h : num_Open.f a0 = some r) :
    Calls Try.prog 25 #[.int .u64 a0] w fun e w' => e = .returned (.int .i64 r) ∧ Drawn0 w w' := by
  have H : (some (Go.bits .xor .i64 (wrap64 (a0 / 2)) (wrap64 (-(wrap64 (Go.bits .and .u64 a0 1)))))) = some r := h
  clear h
  obtain rfl := Option.some.inj H
  go_enter Try.func25, Try.ntmps25
  go_wp2
  go_ret
  exact ⟨by first | rfl | (simp; done) | (simp [*]; done), by repeat (first | exact Drawn0.refl _ | apply Drawn0.step)⟩

/-! ### num_Fold: function 26 -/
def num_Fold.f (a0 : Int) : Option (Int) := some (IntKind.u64.wrap (Go.bits .xor .i64 (wrap64 (a0 * 2)) (a0 / 9223372036854775808)))
set_option maxHeartbeats 8000000 in
set_option maxRecDepth 100000 in
theorem num_Fold.calls (a0 : Int) (r : Int) (w : World) (h : num_Fold.f a0 = some r) :
    Calls Try.prog 26 #[.int .i64 a0] w fun e w' => e = .returned (.int .u64 r) ∧ Drawn0 w w' := by
  have H : (some (IntKind.u64.wrap (Go.bits .xor .i64 (wrap64 (a0 * 2)) (a0 / 9223372036854775808)))) = some r := h
  clear h
  obtain rfl := Option.some.inj H
  go_enter Try.func26, Try.ntmps26
  go_wp2
  go_ret
  exact ⟨by first | rfl | (simp; done) | (simp [*]; done), by repeat (first | exact Drawn0.refl _ | apply Drawn0.step)⟩

end Go.Proofs.Ytlaojndlelcdaaa.P
