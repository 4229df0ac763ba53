/- Put together by pack2.py: PfTallymanref7Inside, PfTallymanref7Clean, PfTallymanref7Room -/
import Derived.Test.YtidlldfghkaeeaaDoorZsRefNamesEtc
import Derived.Test.YtidlldfghkaeeaaDoorZsPfTallymanref7GoodTree
import Derived.Test.YtidlldfghkaeeaaDoorZsPfTallymanlaw8OwnEtc
import Derived.Test.YtidlldfghkaeeaaDoorZsPfTallymanref7Up
import Derived.Test.YtidlldfghkaeeaaDoorZsW0
section
namespace Go.Proofs.YtidlldfghkaeeaaDoor.P
open Go.RowKit Go.Proofs.YtidlldfghkaeeaaDoorW.PrintWords Go.Proofs.YtidlldfghkaeeaaDoorW.PrintLast Go.Proofs.YtidlldfghkaeeaaDoorW.PrintMore
attribute [local go_sem] max2_int min2_int max_two min_two max_three min_three max_four min_four   -- for this text's walks alone
set_option linter.unusedVariables false
set_option linter.unusedSimpArgs false
/-! ### tallymanref7_Inside: function 50 -/
def tallymanref7_Inside.f (a0 : ByteArray) : Option (Bool) := if a0.toList = ([46, 119, 111, 114, 107] : List UInt8) then (some true) else ((tallymanref7_Under.f a0 (⟨#[46, 119, 111, 114, 107]⟩ : ByteArray)).bind fun t296 => (some t296))
set_option maxHeartbeats 8000000 in
set_option maxRecDepth 100000 in
theorem tallymanref7_Inside.calls (a0 : ByteArray) (r : Bool) (w : World) (h : tallymanref7_Inside.f a0 = some r) :
  Calls Tryd.prog 50 #[.string a0] w fun e w' => e = .returned (.bool r) ∧ Below w.heap.size w w' := by
 have HB := xa_ (Below.refl w.heap.size w)
 have H : (if a0.toList = ([46, 119, 111, 114, 107] : List UInt8) then (some true) else ((tallymanref7_Under.f a0 (⟨#[46, 119, 111, 114, 107]⟩ : ByteArray)).bind fun t296 => (some t296))) = some r := h
 clear h
 by_cases c2 : a0.toList = ([46, 119, 111, 114, 107] : List UInt8)
 ·rw [if_pos c2] at H
  have c2b0 : (a0.toList == ([46, 119, 111, 114, 107] : List UInt8)) = true := beq_iff_eq.mpr c2
  have c2b1 : (a0.toList != ([46, 119, 111, 114, 107] : List UInt8)) = false := bne_eq_false_iff_eq.mpr c2
  clear c2
  obtain rfl := Option.some.inj H
  go_enter Tryd.func50, Tryd.ntmps50
  go_wp2
  go_ret
  exact ⟨by first | rfl | (simp [errW_none, errW_some] <;> rfl) | (simp [*, errW_none, errW_some] <;> rfl), by repeat (first | (with_reducible first | exact HB.out | apply below_alloc | apply pw_below_drewN | apply below_drew1) | exact HB.out)⟩
 ·rw [if_neg c2] at H
  have c2b0 : (a0.toList == ([46, 119, 111, 114, 107] : List UInt8)) = false := beq_eq_false_iff_ne.mpr c2
  have c2b1 : (a0.toList != ([46, 119, 111, 114, 107] : List UInt8)) = true := bne_iff_ne.mpr c2
  replace H := Option.bind_eq_some_iff.mp H
  obtain ⟨t296, A30, H⟩ := H
  replace H : (some t296) = some r := H
  have A3 := Aside0.mk A30
  clear A30
  obtain rfl := Option.some.inj H
  go_enter Tryd.func50, Tryd.ntmps50
  go_wp2_with (first | (go_at_call 48; (with_reducible refine (tallymanref7_Under.calls a0 (⟨#[46, 119, 111, 114, 107]⟩ : ByteArray) t296 _ A3.out).mono ?_); rintro e w4 ⟨rfl, hb⟩; replace HB := xa_ (below_step (by repeat (first | (with_reducible first | exact HB.out | apply below_alloc | apply pw_below_drewN | apply below_drew1) | exact HB.out)) hb); (try clear hb); (try clear hb2); (try clear hk); (try clear hi)))
  go_ret
  exact ⟨by first | rfl | (simp [errW_none, errW_some] <;> rfl) | (simp [*, errW_none, errW_some] <;> rfl), by repeat (first | (with_reducible first | exact HB.out | apply below_alloc | apply pw_below_drewN | apply below_drew1) | exact HB.out)⟩

end Go.Proofs.YtidlldfghkaeeaaDoor.P
end
section
namespace Go.Proofs.YtidlldfghkaeeaaDoor.P
open Go.RowKit Go.Proofs.YtidlldfghkaeeaaDoorW.PrintWords Go.Proofs.YtidlldfghkaeeaaDoorW.PrintLast Go.Proofs.YtidlldfghkaeeaaDoorW.PrintMore
attribute [local go_sem] max2_int min2_int max_two min_two max_three min_three max_four min_four   -- for this text's walks alone
set_option linter.unusedVariables false
set_option linter.unusedSimpArgs false
/-! ### tallymanref7_Clean: function 28 -/
def tallymanref7_Clean.l0 : Nat → List (S94) → List (S94) → Int → Option ((List (S94)))
 | 0, _, _, _ => none
 | k + 1, x0, x3, x4 => if x4 < (x0.length : Int) then (if 0 ≤ x4 then ((tallymanref7_Inside.f ((rd_T94 x0 x4).f0)).bind fun t243 => (if t243 = true then (tallymanref7_Clean.l0 k x0 x3 (wrap64 (x4 + 1))) else (if x3.length < 2932031007402 then (tallymanref7_Clean.l0 k x0 (x3 ++ [(⟨(rd_T94 x0 x4).f0, (rd_T94 x0 x4).f1, (rd_T94 x0 x4).f2⟩ : S94)]) (wrap64 (x4 + 1))) else (none)))) else (none)) else (some x3)
def tallymanref7_Clean.f (k : Nat) (l0 : List (S94)) : Option ((List (S94))) := (tallymanref7_GoodTree.f k l0).bind fun t241 => (if t241 = true then (tallymanref7_Clean.l0 k l0 ([] : List (S94)) 0) else (some l0))
set_option maxHeartbeats 8000000 in
set_option maxRecDepth 100000 in
theorem tallymanref7_Clean.calls (k : Nat) (P0_ : Nat → Prop) (A0 : Option Addr) (c0 : Nat) (l0 : List (S94)) (r : List (S94)) (w : World) (hs0 : Kd.V k94 94 w w.heap.size (fun k_ => P0_ k_) (.slice A0 l0.length c0) l0) (h : tallymanref7_Clean.f k l0 = some r) :
  Calls Tryd.prog 28 #[.slice A0 l0.length c0] w fun e w' => ∃ v0_ : Value, e = .returned (v0_) ∧ Kd.V k94 94 w' w.heap.size (fun k_ => (P0_ k_ ∨ w.heap.size ≤ k_)) v0_ r ∧ Below w.heap.size w w' := by
 have hu94 := Tryd.underlying94
 have HO0 := xa_ (show Kd.V k94 94 w w.heap.size (fun k_ => (P0_ k_ ∨ w.heap.size ≤ k_)) (.slice A0 l0.length c0) l0 from Kd.V_mono hs0 (fun k_ hk => .inl hk))
 have HB := xa_ (Below.refl w.heap.size w)
 have H : ((tallymanref7_GoodTree.f k l0).bind fun t241 => (if t241 = true then (tallymanref7_Clean.l0 k l0 ([] : List (S94)) 0) else (some l0))) = some r := h
 clear h
 replace H := Option.bind_eq_some_iff.mp H
 obtain ⟨t241, A20, H⟩ := H
 replace H : (if t241 = true then (tallymanref7_Clean.l0 k l0 ([] : List (S94)) 0) else (some l0)) = some r := H
 have A2 := Aside0.mk A20
 clear A20
 by_cases c3 : t241 = true
 ·subst c3
  have H1 : (tallymanref7_Clean.l0 k l0 ([] : List (S94)) 0) = some r := by rw [if_pos rfl] at H; exact H
  clear H
  have H := H1
  clear H1
  have H' := Aside0.mk H
  clear H
  go_enter Tryd.func28, Tryd.ntmps28
  go_wp2_with (first | ((with_reducible refine gate_callee (f := 23) rfl ?_); refine goesL_ (some 6) rfl rfl Tryd.func23 (by kernel_rfl) rfl #[.slice A0 l0.length c0] rfl (by (try simp only [List.map_toArray, List.map_cons, List.map_nil]); first | done | rfl | (simp only [List.length_drop, List.length_take]; rfl)) ?_; (with_reducible refine (tallymanref7_GoodTree.calls k _ _ l0 true _ ?side1 ?side2 A2.out).mono ?_); (case side1 => exact xC_ (Kd.V_reads' HO0.out).2.2); (case side2 => exact (Kd.V_reads' HO0.out).2.1); rintro e w4 ⟨rfl, hb⟩; refine ⟨_, rfl, ?_⟩; replace HO0 := xa_ (Kd.V_below (xV_ HO0.out) hb); replace HB := xa_ (below_step (by repeat (first | (with_reducible first | exact HB.out | apply below_alloc | apply pw_below_drewN | apply below_drew1) | exact HB.out)) hb); (try clear hb); (try clear hb2); (try clear hk); (try clear hi)))
  go_loopg [3, 4] k (fun kq v3 v4 w' => ∃ (x3_1 : List (S94)) (x4_1 : Int), v4 = .int .i64 x4_1 ∧ Aside0 (tallymanref7_Clean.l0 kq l0 x3_1 x4_1 = some r) ∧ Aside0 (kq ≤ k) ∧ Aside0 (Kd.V k94 94 w' w.heap.size (fun k_ => (P0_ k_ ∨ w.heap.size ≤ k_) ∧ some k_ ≠ (v3 : Value).ownBlock) (.slice A0 l0.length c0) l0) ∧ Aside0 (Kd.N k94 94 w' w.heap.size (fun k_ => (P0_ k_ ∨ w.heap.size ≤ k_)) v3 x3_1) ∧ Aside0 (Below w.heap.size w w'))
  case atStart => exact ⟨(([] : List (S94))), (0), (by first | rfl | (simp; done) | (simp [*]; done)), H', ⟨Nat.le_refl _⟩, ⟨by (with_reducible repeat (first | apply Kd.V_alloc | apply Kd.V_drewN | apply Kd.V_drew)); exact Kd.V_mono HO0.out (fun _ hk => ⟨hk, (by simp [Value.ownBlock])⟩)⟩, ⟨by first | exact Kd.S_nil _ _ _ _ _ | exact Kd.N_nil _ _ _ _ _ | exact Kd.V_nil _ _ _ _ _ | exact Kd.Q_nil _ _ _ _ _ | exact Kd.R_nil _ _ _ _ _⟩, ⟨by repeat (first | (with_reducible first | exact HB.out | apply below_alloc | apply pw_below_drewN | apply below_drew1) | exact HB.out)⟩⟩
  case round =>
   clear H'
   try clear c2
   try clear p2
   try clear c3
   obtain ⟨x3_1, x4_1, rfl, HA, HK1, HO_0, HO_3, HB⟩ := hrel
   cases gk with
   | zero => exact absurd HA.out (by simp [tallymanref7_Clean.l0])
   | succ k1 =>
    have H := HA.out
    clear HA
    simp only [tallymanref7_Clean.l0] at H
    by_cases c5 : x4_1 < (l0.length : Int)
    ·rw [if_pos c5] at H
     have c5b0 : decide (x4_1 < (l0.length : Int)) = true := decide_eq_true c5
     clear c5
     by_cases c6 : 0 ≤ x4_1
     ·rw [if_pos c6] at H
      have c6b0 : decide (0 ≤ x4_1) = true := decide_eq_true c6
      clear c6
      replace H := Option.bind_eq_some_iff.mp H
      obtain ⟨t243, A70, H⟩ := H
      replace H : (if t243 = true then (tallymanref7_Clean.l0 k1 l0 x3_1 (wrap64 (x4_1 + 1))) else (if x3_1.length < 2932031007402 then (tallymanref7_Clean.l0 k1 l0 (x3_1 ++ [(⟨(rd_T94 l0 x4_1).f0, (rd_T94 l0 x4_1).f1, (rd_T94 l0 x4_1).f2⟩ : S94)]) (wrap64 (x4_1 + 1))) else (none))) = some r := H
      have A7 := Aside0.mk A70
      clear A70
      by_cases c8 : t243 = true
      ·subst c8
       have H1 : (tallymanref7_Clean.l0 k1 l0 x3_1 (wrap64 (x4_1 + 1))) = some r := by rw [if_pos rfl] at H; exact H
       clear H
       have H := H1
       clear H1
       have H' := Aside0.mk H
       clear H
       have p242 : 0 ≤ (x4_1 : Int) := of_decide_eq_true (by first | (with_reducible assumption) | assumption)
       have q242 : x4_1 < (l0.length : Int) := of_decide_eq_true (by first | (with_reducible assumption) | assumption)
       obtain ⟨ad242, A242_2, c242_2, e242, hx242_0, hx242_1, hx242_2, hl242_2, hi242_2⟩ := at_T94 (Kd.V_reads' HO_0.out).2.2 x4_1 p242 q242
       cases e242
       obtain ⟨ce242, hce242, hMe242, hcc242⟩ := Kd.V_get HO_0.out z94 x4_1 p242 (by first | exact q242 | exact of_decide_eq_true (by first | (with_reducible assumption) | assumption) | (have e_ := (Kd.V_reads' HO_0.out).1; omega))
       obtain ⟨ua242_2, uc242_2, rfl, ul242_2, ge242_2⟩ := k94_openF hMe242
       have hv242_2 := hcc242 2 _ rfl
       rw [add_field _ _ 2 (by omega)] at hv242_2
       replace hv242_2 := Option.some.inj (hv242_2.symm.trans hx242_2)
       injection hv242_2 with hva_ hvn_ hvc_
       rw [hva_] at ge242_2
       rw [hvc_] at ul242_2
       have HL242_2 := xa_ (show Kd.V (Kd.int .u8) 5 _ w.heap.size _ _ ((rd_T94 l0 x4_1).f2) from Kd.V_mk ul242_2 ge242_2)
       clear hva_ hvn_ hvc_ ge242_2 ul242_2
       clear hcc242 hce242
       have HR242_2 := Aside0.mk hi242_2
       have HC242_2 := Aside0.mk hl242_2
       clear hi242_2 hl242_2
       replace p242 := eq_true p242
       replace q242 := eq_true q242
       go_wp2_with (first | ((with_reducible refine gate_callee (f := 50) rfl ?_); refine goesL_ (some 20) rfl rfl Tryd.func50 (by kernel_rfl) rfl #[.string ((rd_T94 l0 x4_1).f0)] rfl (by (try simp only [List.map_toArray, List.map_cons, List.map_nil]); first | done | rfl | (simp only [List.length_drop, List.length_take]; rfl)) ?_; (with_reducible refine (tallymanref7_Inside.calls ((rd_T94 l0 x4_1).f0) true _ A7.out).mono ?_); rintro e w9 ⟨rfl, hb⟩; refine ⟨_, rfl, ?_⟩; replace HO_0 := xa_ (Kd.V_below (xV_ HO_0.out) hb); replace HO_3 := xa_ (Kd.N_below (xN_ HO_3.out) hb); replace HL242_2 := xa_ (Kd.V_below (xV_ HL242_2.out) hb); replace HR242_2 := xa_ (Kd.C_below (by repeat (first | (with_reducible exact HR242_2.out) | (with_reducible refine Kd.C_alloc ?_ _) | (with_reducible refine Kd.C_drewN ?_ _) | (with_reducible refine Kd.C_drew ?_) | exact HR242_2.out)) hb); replace HB := xa_ (below_step (by repeat (first | (with_reducible first | exact HB.out | apply below_alloc | apply pw_below_drewN | apply below_drew1) | exact HB.out)) hb); (try clear hb); (try clear hb2); (try clear hk); (try clear hi)))
       go_roundg k1
       case measure => have := HK1.out; omega
       case rel => exact ⟨(x3_1), (wrap64 (x4_1 + 1)), (by first | rfl | (simp; done) | (simp [*]; done)), H', ⟨by have := HK1.out; omega⟩, ⟨by (with_reducible repeat (first | apply Kd.V_alloc | apply Kd.V_drewN | apply Kd.V_drew)); exact HO_0.out⟩, ⟨by (with_reducible repeat (first | apply Kd.N_alloc | apply Kd.N_drewN | apply Kd.N_drew)); exact HO_3.out⟩, ⟨by repeat (first | (with_reducible first | exact HB.out | apply below_alloc | apply pw_below_drewN | apply below_drew1) | exact HB.out)⟩⟩
      ·replace c8 := Bool.eq_false_iff.mpr c8
       subst c8
       have H1 : (if x3_1.length < 2932031007402 then (tallymanref7_Clean.l0 k1 l0 (x3_1 ++ [(⟨(rd_T94 l0 x4_1).f0, (rd_T94 l0 x4_1).f1, (rd_T94 l0 x4_1).f2⟩ : S94)]) (wrap64 (x4_1 + 1))) else (none)) = some r := by rw [if_neg (show ¬ (false = true) by decide)] at H; exact H
       clear H
       have H := H1
       clear H1
       by_cases c10 : x3_1.length < 2932031007402
       ·rw [if_pos c10] at H
        have LMc10 := Aside0.mk c10
        clear c10
        obtain ⟨y245, hy245⟩ : ∃ y_ : List (S94), y_ = (x3_1 ++ [(⟨(rd_T94 l0 x4_1).f0, (rd_T94 l0 x4_1).f1, (rd_T94 l0 x4_1).f2⟩ : S94)]) := ⟨_, rfl⟩
        replace H : (tallymanref7_Clean.l0 k1 l0 y245 (wrap64 (x4_1 + 1))) = some r := by first | (rw [hy245]; with_reducible exact H) | (have H2_ := (Option.bind_some _ _).symm.trans H; rw [hy245]; with_reducible exact H2_) | (have H2_ := (Option.bind_some _ _).symm.trans H; with_reducible exact H2_) | with_reducible exact H | (rw [hy245]; exact H) | exact H
        have Ny245 := Aside0.mk hy245
        clear hy245
        have H' := Aside0.mk H
        clear H
        have p242 : 0 ≤ (x4_1 : Int) := of_decide_eq_true (by first | (with_reducible assumption) | assumption)
        have q242 : x4_1 < (l0.length : Int) := of_decide_eq_true (by first | (with_reducible assumption) | assumption)
        obtain ⟨ad242, A242_2, c242_2, e242, hx242_0, hx242_1, hx242_2, hl242_2, hi242_2⟩ := at_T94 (Kd.V_reads' HO_0.out).2.2 x4_1 p242 q242
        cases e242
        obtain ⟨ce242, hce242, hMe242, hcc242⟩ := Kd.V_get HO_0.out z94 x4_1 p242 (by first | exact q242 | exact of_decide_eq_true (by first | (with_reducible assumption) | assumption) | (have e_ := (Kd.V_reads' HO_0.out).1; omega))
        obtain ⟨ua242_2, uc242_2, rfl, ul242_2, ge242_2⟩ := k94_openF hMe242
        have hv242_2 := hcc242 2 _ rfl
        rw [add_field _ _ 2 (by omega)] at hv242_2
        replace hv242_2 := Option.some.inj (hv242_2.symm.trans hx242_2)
        injection hv242_2 with hva_ hvn_ hvc_
        rw [hva_] at ge242_2
        rw [hvc_] at ul242_2
        have HL242_2 := xa_ (show Kd.V (Kd.int .u8) 5 _ w.heap.size _ _ ((rd_T94 l0 x4_1).f2) from Kd.V_mk ul242_2 ge242_2)
        clear hva_ hvn_ hvc_ ge242_2 ul242_2
        clear hcc242 hce242
        have HR242_2 := Aside0.mk hi242_2
        have HC242_2 := Aside0.mk hl242_2
        clear hi242_2 hl242_2
        replace p242 := eq_true p242
        replace q242 := eq_true q242
        go_wp2_with (first | ((with_reducible refine gate_callee (f := 50) rfl ?_); refine goesL_ (some 20) rfl rfl Tryd.func50 (by kernel_rfl) rfl #[.string ((rd_T94 l0 x4_1).f0)] rfl (by (try simp only [List.map_toArray, List.map_cons, List.map_nil]); first | done | rfl | (simp only [List.length_drop, List.length_take]; rfl)) ?_; (with_reducible refine (tallymanref7_Inside.calls ((rd_T94 l0 x4_1).f0) false _ A7.out).mono ?_); rintro e w11 ⟨rfl, hb⟩; refine ⟨_, rfl, ?_⟩; replace HO_0 := xa_ (Kd.V_below (xV_ HO_0.out) hb); replace HO_3 := xa_ (Kd.N_below (xN_ HO_3.out) hb); replace HL242_2 := xa_ (Kd.V_below (xV_ HL242_2.out) hb); replace HR242_2 := xa_ (Kd.C_below (by repeat (first | (with_reducible exact HR242_2.out) | (with_reducible refine Kd.C_alloc ?_ _) | (with_reducible refine Kd.C_drewN ?_ _) | (with_reducible refine Kd.C_drew ?_) | exact HR242_2.out)) hb); replace HB := xa_ (below_step (by repeat (first | (with_reducible first | exact HB.out | apply below_alloc | apply pw_below_drewN | apply below_drew1) | exact HB.out)) hb); (try clear hb); (try clear hb2); (try clear hk); (try clear hi); have p244 : 0 ≤ (x4_1 : Int) := of_decide_eq_true (by first | (with_reducible assumption) | assumption); have q244 : x4_1 < (l0.length : Int) := of_decide_eq_true (by first | (with_reducible assumption) | assumption); obtain ⟨ad244, A244_2, c244_2, e244, hx244_0, hx244_1, hx244_2, hl244_2, hi244_2⟩ := at_T94 (Kd.V_reads' HO_0.out).2.2 x4_1 p244 q244; obtain rfl : ad242 = ad244 := (by injection e244); obtain ⟨ce244, hce244, hMe244, hcc244⟩ := Kd.V_get HO_0.out z94 x4_1 p244 (by first | exact q244 | exact of_decide_eq_true (by first | (with_reducible assumption) | assumption) | (have e_ := (Kd.V_reads' HO_0.out).1; omega)); obtain ⟨ua244_2, uc244_2, rfl, ul244_2, ge244_2⟩ := k94_openF hMe244; have hv244_2 := hcc244 2 _ rfl; rw [add_field _ _ 2 (by omega)] at hv244_2; replace hv244_2 := Option.some.inj (hv244_2.symm.trans hx244_2); injection hv244_2 with hva_ hvn_ hvc_; rw [hva_] at ge244_2; rw [hvc_] at ul244_2; have HL244_2 := xa_ (show Kd.V (Kd.int .u8) 5 _ w.heap.size _ _ ((rd_T94 l0 x4_1).f2) from Kd.V_mk ul244_2 ge244_2); clear hva_ hvn_ hvc_ ge244_2 ul244_2; clear hcc244 hce244; have HR244_2 := Aside0.mk hi244_2; have HC244_2 := Aside0.mk hl244_2; clear hi244_2 hl244_2; replace p244 := eq_true p244; replace q244 := eq_true q244) | ((with_reducible refine gate_builtin (b := .append) (xs := #[.tmp 22, .tmp 27]) rfl ?_); at_builtin; refine Kd.N_append k94 (w0 := w) w.heap.size rfl (.tmp 22) (.tmp 27) 42 94 (.agg #[(.string ⟨#[]⟩), (.bool false), (.slice none 0 0)]) 48 rfl Tryd.underlying42 info94 rfl (by decide) (by omega) u3 x3_1 (⟨(rd_T94 l0 x4_1).f0, (rd_T94 l0 x4_1).f1, (rd_T94 l0 x4_1).f2⟩ : S94) [.string ((rd_T94 l0 x4_1).f0), .bool ((rd_T94 l0 x4_1).f1), .slice A244_2 ((rd_T94 l0 x4_1).f2).length c244_2] (fun k_ => (P0_ k_ ∨ w.heap.size ≤ k_)) (fun k_ => ((fun k_ => (P0_ k_ ∨ w.heap.size ≤ k_))) k_ ∧ some k_ ≠ (u3 : Value).ownBlock) rfl rfl ?aP (fun _ hk => hk) ?aF ?aO ?aB ?aS ?aL ?_; (case aP => exact (k94_mkF _ _ (⟨(rd_T94 l0 x4_1).f0, (rd_T94 l0 x4_1).f1, (rd_T94 l0 x4_1).f2⟩ : S94) (Kd.V_reads' (Kd.V_mono (ok' := (fun k_ => ((fun k_ => (P0_ k_ ∨ w.heap.size ≤ k_))) k_ ∧ some k_ ≠ (u3 : Value).ownBlock)) (HL244_2.out) (fun k_ hk => ⟨hk.1, hk.2⟩))).2.1 (Kd.V_F (Kd.V_mono (ok' := (fun k_ => ((fun k_ => (P0_ k_ ∨ w.heap.size ≤ k_))) k_ ∧ some k_ ≠ (u3 : Value).ownBlock)) (HL244_2.out) (fun k_ hk => ⟨hk.1, hk.2⟩))))); (case aB => exact (by repeat (first | (with_reducible first | exact HB.out | apply below_alloc | apply pw_below_drewN | apply below_drew1) | exact HB.out))); (case aF => exact (fun k_ hk => (.inr (Nat.le_trans (below_size (by repeat (first | (with_reducible first | exact HB.out | apply below_alloc | apply pw_below_drewN | apply below_drew1) | exact HB.out))) hk)))); (case aO => exact (xN_ HO_3.out)); (case aS => exact (below_size (by repeat (first | (with_reducible first | exact HB.out | apply below_alloc | apply pw_below_drewN | apply below_drew1) | exact HB.out)))); (case aL => have := LMc10.out; omega); intro v246 w12 ho hb hg hat; rw [← Ny245.out] at ho; replace HO_0 := xa_ (Kd.V_afterv (ok := (fun k_ => (P0_ k_ ∨ w.heap.size ≤ k_))) (xV_ HO_0.out) hg hat); replace HL242_2 := xa_ (Kd.V_afterv (ok := (fun k_ => (P0_ k_ ∨ w.heap.size ≤ k_))) (xV_ HL242_2.out) hg hat); replace HL244_2 := xa_ (Kd.V_afterv (ok := (fun k_ => (P0_ k_ ∨ w.heap.size ≤ k_))) (xV_ HL244_2.out) hg hat); replace HB := xa_ (hb); replace HO247 := xa_ (ho); clear ho hb hg hat))
        go_roundg k1
        case measure => have := HK1.out; omega
        case rel => exact ⟨(y245), (wrap64 (x4_1 + 1)), (by first | rfl | (simp; done) | (simp [*]; done)), H', ⟨by have := HK1.out; omega⟩, ⟨by (with_reducible repeat (first | apply Kd.V_alloc | apply Kd.V_drewN | apply Kd.V_drew)); exact HO_0.out⟩, ⟨by (with_reducible repeat (first | apply Kd.N_alloc | apply Kd.N_drewN | apply Kd.N_drew)); exact HO247.out⟩, ⟨by repeat (first | (with_reducible first | exact HB.out | apply below_alloc | apply pw_below_drewN | apply below_drew1) | exact HB.out)⟩⟩
       ·rw [if_neg c10] at H
        exact absurd H (by simp)
     ·rw [if_neg c6] at H
      exact absurd H (by simp)
    ·rw [if_neg c5] at H
     have c5b0 : decide (x4_1 < (l0.length : Int)) = false := decide_eq_false c5
     clear c5
     obtain rfl := Option.some.inj H
     go_wp2
     go_ret
     exact ⟨_, by first | rfl | (simp [errW_none, errW_some] <;> rfl) | (simp [*, errW_none, errW_some] <;> rfl), Kd.N_V (xN_ HO_3.out), by repeat (first | (with_reducible first | exact HB.out | apply below_alloc | apply pw_below_drewN | apply below_drew1) | exact HB.out)⟩
 ·replace c3 := Bool.eq_false_iff.mpr c3
  subst c3
  have H1 : (some l0) = some r := by rw [if_neg (show ¬ (false = true) by decide)] at H; exact H
  clear H
  have H := H1
  clear H1
  obtain rfl := Option.some.inj H
  go_enter Tryd.func28, Tryd.ntmps28
  go_wp2_with (first | ((with_reducible refine gate_callee (f := 23) rfl ?_); refine goesL_ (some 6) rfl rfl Tryd.func23 (by kernel_rfl) rfl #[.slice A0 l0.length c0] rfl (by (try simp only [List.map_toArray, List.map_cons, List.map_nil]); first | done | rfl | (simp only [List.length_drop, List.length_take]; rfl)) ?_; (with_reducible refine (tallymanref7_GoodTree.calls k _ _ l0 false _ ?side1 ?side2 A2.out).mono ?_); (case side1 => exact xC_ (Kd.V_reads' HO0.out).2.2); (case side2 => exact (Kd.V_reads' HO0.out).2.1); rintro e w13 ⟨rfl, hb⟩; refine ⟨_, rfl, ?_⟩; replace HO0 := xa_ (Kd.V_below (xV_ HO0.out) hb); replace HB := xa_ (below_step (by repeat (first | (with_reducible first | exact HB.out | apply below_alloc | apply pw_below_drewN | apply below_drew1) | exact HB.out)) hb); (try clear hb); (try clear hb2); (try clear hk); (try clear hi)))
  go_ret
  exact ⟨_, by first | rfl | (simp [errW_none, errW_some] <;> rfl) | (simp [*, errW_none, errW_some] <;> rfl), by (with_reducible repeat (first | apply Kd.V_alloc | apply Kd.V_drewN | apply Kd.V_drew)); exact HO0.out, by repeat (first | (with_reducible first | exact HB.out | apply below_alloc | apply pw_below_drewN | apply below_drew1) | exact HB.out)⟩

end Go.Proofs.YtidlldfghkaeeaaDoor.P
end
section
namespace Go.Proofs.YtidlldfghkaeeaaDoor.P
open Go.RowKit Go.Proofs.YtidlldfghkaeeaaDoorW.PrintWords Go.Proofs.YtidlldfghkaeeaaDoorW.PrintLast Go.Proofs.YtidlldfghkaeeaaDoorW.PrintMore
attribute [local go_sem] max2_int min2_int max_two min_two max_three min_three max_four min_four   -- for this text's walks alone
set_option linter.unusedVariables false
set_option linter.unusedSimpArgs false
/-! ### tallymanref7_room: function 73 -/
def tallymanref7_room.f (k : Nat) (l0 : List (S94)) (a1 : ByteArray) : Option (Int) := (tallymanref7_Up.f k a1).bind fun bt247 => (if bt247.1.toList = ([] : List UInt8) then (some 0) else ((tallymanref7_At.f k l0 bt247.1).bind fun t249 => (if t249 < 0 then (some 5) else (if 0 ≤ t249 then (if t249 < (l0.length : Int) then (if ((rd_T94 l0 t249).f1 = true) then (some 0) else (some 7)) else (none)) else (none)))))
set_option maxHeartbeats 8000000 in
set_option maxRecDepth 100000 in
theorem tallymanref7_room.calls (k : Nat) (A0 : Option Addr) (c0 : Nat) (l0 : List (S94)) (a1 : ByteArray) (r : Int) (w : World) (hr0 : Kd.C k94 w A0 l0.length l0) (hc0 : l0.length ≤ c0) (h : tallymanref7_room.f k l0 a1 = some r) :
  Calls Tryd.prog 73 #[.slice A0 l0.length c0, .string a1] w fun e w' => e = .returned (.int .i64 r) ∧ Below w.heap.size w w' := by
 have HR0 := Aside0.mk hr0
 have HC0 := Aside0.mk hc0
 clear hr0 hc0
 have HB := xa_ (Below.refl w.heap.size w)
 have H : ((tallymanref7_Up.f k a1).bind fun bt247 => (if bt247.1.toList = ([] : List UInt8) then (some 0) else ((tallymanref7_At.f k l0 bt247.1).bind fun t249 => (if t249 < 0 then (some 5) else (if 0 ≤ t249 then (if t249 < (l0.length : Int) then (if ((rd_T94 l0 t249).f1 = true) then (some 0) else (some 7)) else (none)) else (none)))))) = some r := h
 clear h
 replace H := Option.bind_eq_some_iff.mp H
 obtain ⟨⟨t247, t248⟩, A30, H⟩ := H
 replace H : (if t247.toList = ([] : List UInt8) then (some 0) else ((tallymanref7_At.f k l0 t247).bind fun t249 => (if t249 < 0 then (some 5) else (if 0 ≤ t249 then (if t249 < (l0.length : Int) then (if ((rd_T94 l0 t249).f1 = true) then (some 0) else (some 7)) else (none)) else (none))))) = some r := H
 have A3 := Aside0.mk A30
 clear A30
 by_cases c4 : t247.toList = ([] : List UInt8)
 ·rw [if_pos c4] at H
  have c4b0 : (t247.toList == ([] : List UInt8)) = true := beq_iff_eq.mpr c4
  have c4b1 : (t247.toList != ([] : List UInt8)) = false := bne_eq_false_iff_eq.mpr c4
  have c4b2 : t247.toList.isEmpty = true := by simpa using c4
  clear c4
  obtain rfl := Option.some.inj H
  go_enter Tryd.func73, Tryd.ntmps73
  go_wp2_with (first | ((with_reducible refine gate_callee (f := 38) rfl ?_); refine goesL_ (some 10) rfl rfl Tryd.func38 (by kernel_rfl) rfl #[.string a1] rfl (by (try simp only [List.map_toArray, List.map_cons, List.map_nil]); first | done | rfl | (simp only [List.length_drop, List.length_take]; rfl)) ?_; (with_reducible refine (tallymanref7_Up.calls k a1 t247 t248 _ A3.out).mono ?_); rintro e w5 ⟨rfl, hb⟩; refine ⟨_, rfl, ?_⟩; replace HB := xa_ (below_step (by repeat (first | (with_reducible first | exact HB.out | apply below_alloc | apply pw_below_drewN | apply below_drew1) | exact HB.out)) hb); (try clear hb); (try clear hb2); (try clear hk); (try clear hi)))
  go_ret
  exact ⟨by first | rfl | (simp [errW_none, errW_some] <;> rfl) | (simp [*, errW_none, errW_some] <;> rfl), by repeat (first | (with_reducible first | exact HB.out | apply below_alloc | apply pw_below_drewN | apply below_drew1) | exact HB.out)⟩
 ·rw [if_neg c4] at H
  have c4b0 : (t247.toList == ([] : List UInt8)) = false := beq_eq_false_iff_ne.mpr c4
  have c4b1 : (t247.toList != ([] : List UInt8)) = true := bne_iff_ne.mpr c4
  have c4b2 : t247.toList.isEmpty = false := by simpa using c4
  replace H := Option.bind_eq_some_iff.mp H
  obtain ⟨t249, A60, H⟩ := H
  replace H : (if t249 < 0 then (some 5) else (if 0 ≤ t249 then (if t249 < (l0.length : Int) then (if ((rd_T94 l0 t249).f1 = true) then (some 0) else (some 7)) else (none)) else (none))) = some r := H
  have A6 := Aside0.mk A60
  clear A60
  by_cases c7 : t249 < 0
  ·rw [if_pos c7] at H
   have c7b0 : decide (t249 < 0) = true := decide_eq_true c7
   clear c7
   obtain rfl := Option.some.inj H
   go_enter Tryd.func73, Tryd.ntmps73
   go_wp2_with (first | ((with_reducible refine gate_callee (f := 38) rfl ?_); refine goesL_ (some 10) rfl rfl Tryd.func38 (by kernel_rfl) rfl #[.string a1] rfl (by (try simp only [List.map_toArray, List.map_cons, List.map_nil]); first | done | rfl | (simp only [List.length_drop, List.length_take]; rfl)) ?_; (with_reducible refine (tallymanref7_Up.calls k a1 t247 t248 _ A3.out).mono ?_); rintro e w8 ⟨rfl, hb⟩; refine ⟨_, rfl, ?_⟩; replace HB := xa_ (below_step (by repeat (first | (with_reducible first | exact HB.out | apply below_alloc | apply pw_below_drewN | apply below_drew1) | exact HB.out)) hb); (try clear hb); (try clear hb2); (try clear hk); (try clear hi)) | ((with_reducible refine gate_callee (f := 72) rfl ?_); refine goesL_ (some 17) rfl rfl Tryd.func72 (by kernel_rfl) rfl #[.slice A0 l0.length c0, .string t247] rfl (by (try simp only [List.map_toArray, List.map_cons, List.map_nil]); first | done | rfl | (simp only [List.length_drop, List.length_take]; rfl)) ?_; (with_reducible refine (tallymanref7_At.calls k _ _ l0 t247 t249 _ ?side1 ?side2 A6.out).mono ?_); (case side1 => exact xC_ (Kd.C_below HR0.out HB.out)); (case side2 => exact HC0.out); rintro e w' ⟨rfl, ⟨nd, rfl⟩⟩; refine ⟨_, rfl, ?_⟩))
   go_ret
   exact ⟨by first | rfl | (simp [errW_none, errW_some] <;> rfl) | (simp [*, errW_none, errW_some] <;> rfl), by repeat (first | (with_reducible first | exact HB.out | apply below_alloc | apply pw_below_drewN | apply below_drew1) | exact HB.out)⟩
  ·rw [if_neg c7] at H
   have c7b0 : decide (t249 < 0) = false := decide_eq_false c7
   clear c7
   by_cases c9 : 0 ≤ t249
   ·rw [if_pos c9] at H
    have c9b0 : decide (0 ≤ t249) = true := decide_eq_true c9
    clear c9
    by_cases c10 : t249 < (l0.length : Int)
    ·rw [if_pos c10] at H
     have c10b0 : decide (t249 < (l0.length : Int)) = true := decide_eq_true c10
     clear c10
     obtain ⟨bq11, hbq11⟩ : ∃ b_ : Bool, b_ = ((rd_T94 l0 t249).f1) := ⟨_, rfl⟩
     replace H : (if (bq11 = true) then (some 0) else (some 7)) = some r := by rw [← hbq11] at H; exact H
     have Nbq11 := Aside0.mk hbq11
     clear hbq11
     by_cases c12 : (bq11 = true)
     ·subst c12
      have H1 : (some 0) = some r := by rw [if_pos rfl] at H; exact H
      clear H
      have H := H1
      clear H1
      obtain rfl := Option.some.inj H
      go_enter Tryd.func73, Tryd.ntmps73
      go_wp2_with (first | ((with_reducible refine gate_callee (f := 38) rfl ?_); refine goesL_ (some 10) rfl rfl Tryd.func38 (by kernel_rfl) rfl #[.string a1] rfl (by (try simp only [List.map_toArray, List.map_cons, List.map_nil]); first | done | rfl | (simp only [List.length_drop, List.length_take]; rfl)) ?_; (with_reducible refine (tallymanref7_Up.calls k a1 t247 t248 _ A3.out).mono ?_); rintro e w13 ⟨rfl, hb⟩; refine ⟨_, rfl, ?_⟩; replace HB := xa_ (below_step (by repeat (first | (with_reducible first | exact HB.out | apply below_alloc | apply pw_below_drewN | apply below_drew1) | exact HB.out)) hb); (try clear hb); (try clear hb2); (try clear hk); (try clear hi)) | ((with_reducible refine gate_callee (f := 72) rfl ?_); refine goesL_ (some 17) rfl rfl Tryd.func72 (by kernel_rfl) rfl #[.slice A0 l0.length c0, .string t247] rfl (by (try simp only [List.map_toArray, List.map_cons, List.map_nil]); first | done | rfl | (simp only [List.length_drop, List.length_take]; rfl)) ?_; (with_reducible refine (tallymanref7_At.calls k _ _ l0 t247 t249 _ ?side1 ?side2 A6.out).mono ?_); (case side1 => exact xC_ (Kd.C_below HR0.out HB.out)); (case side2 => exact HC0.out); rintro e w' ⟨rfl, ⟨nd, rfl⟩⟩; refine ⟨_, rfl, ?_⟩; have p250 : 0 ≤ (t249 : Int) := of_decide_eq_true (by first | (with_reducible assumption) | assumption); have q250 : t249 < (l0.length : Int) := of_decide_eq_true (by first | (with_reducible assumption) | assumption); obtain ⟨ad250, A250_2, c250_2, e250, hx250_0, hx250_1, hx250_2, hl250_2, hi250_2⟩ := at_T94 HR0.out t249 p250 q250; (try rw [← Nbq11.out] at hx250_1); cases e250; replace hx250_0 := (HB.out.cell (World.block_lt_of_cell? w _ hx250_0)).trans hx250_0; replace hx250_1 := (HB.out.cell (World.block_lt_of_cell? w _ hx250_1)).trans hx250_1; replace hx250_2 := (HB.out.cell (World.block_lt_of_cell? w _ hx250_2)).trans hx250_2; have HR250_2 := Aside0.mk hi250_2; have HC250_2 := Aside0.mk hl250_2; clear hi250_2 hl250_2; replace p250 := eq_true p250; replace q250 := eq_true q250))
      go_ret
      exact ⟨by first | rfl | (simp [errW_none, errW_some] <;> rfl) | (simp [*, errW_none, errW_some] <;> rfl), by repeat (first | (with_reducible first | exact HB.out | apply below_alloc | apply pw_below_drewN | apply below_drew1) | exact HB.out)⟩
     ·replace c12 := Bool.eq_false_iff.mpr c12
      subst c12
      have H1 : (some 7) = some r := by rw [if_neg (show ¬ (false = true) by decide)] at H; exact H
      clear H
      have H := H1
      clear H1
      obtain rfl := Option.some.inj H
      go_enter Tryd.func73, Tryd.ntmps73
      go_wp2_with (first | ((with_reducible refine gate_callee (f := 38) rfl ?_); refine goesL_ (some 10) rfl rfl Tryd.func38 (by kernel_rfl) rfl #[.string a1] rfl (by (try simp only [List.map_toArray, List.map_cons, List.map_nil]); first | done | rfl | (simp only [List.length_drop, List.length_take]; rfl)) ?_; (with_reducible refine (tallymanref7_Up.calls k a1 t247 t248 _ A3.out).mono ?_); rintro e w14 ⟨rfl, hb⟩; refine ⟨_, rfl, ?_⟩; replace HB := xa_ (below_step (by repeat (first | (with_reducible first | exact HB.out | apply below_alloc | apply pw_below_drewN | apply below_drew1) | exact HB.out)) hb); (try clear hb); (try clear hb2); (try clear hk); (try clear hi)) | ((with_reducible refine gate_callee (f := 72) rfl ?_); refine goesL_ (some 17) rfl rfl Tryd.func72 (by kernel_rfl) rfl #[.slice A0 l0.length c0, .string t247] rfl (by (try simp only [List.map_toArray, List.map_cons, List.map_nil]); first | done | rfl | (simp only [List.length_drop, List.length_take]; rfl)) ?_; (with_reducible refine (tallymanref7_At.calls k _ _ l0 t247 t249 _ ?side1 ?side2 A6.out).mono ?_); (case side1 => exact xC_ (Kd.C_below HR0.out HB.out)); (case side2 => exact HC0.out); rintro e w' ⟨rfl, ⟨nd, rfl⟩⟩; refine ⟨_, rfl, ?_⟩; have p250 : 0 ≤ (t249 : Int) := of_decide_eq_true (by first | (with_reducible assumption) | assumption); have q250 : t249 < (l0.length : Int) := of_decide_eq_true (by first | (with_reducible assumption) | assumption); obtain ⟨ad250, A250_2, c250_2, e250, hx250_0, hx250_1, hx250_2, hl250_2, hi250_2⟩ := at_T94 HR0.out t249 p250 q250; (try rw [← Nbq11.out] at hx250_1); cases e250; replace hx250_0 := (HB.out.cell (World.block_lt_of_cell? w _ hx250_0)).trans hx250_0; replace hx250_1 := (HB.out.cell (World.block_lt_of_cell? w _ hx250_1)).trans hx250_1; replace hx250_2 := (HB.out.cell (World.block_lt_of_cell? w _ hx250_2)).trans hx250_2; have HR250_2 := Aside0.mk hi250_2; have HC250_2 := Aside0.mk hl250_2; clear hi250_2 hl250_2; replace p250 := eq_true p250; replace q250 := eq_true q250))
      go_ret
      exact ⟨by first | rfl | (simp [errW_none, errW_some] <;> rfl) | (simp [*, errW_none, errW_some] <;> rfl), by repeat (first | (with_reducible first | exact HB.out | apply below_alloc | apply pw_below_drewN | apply below_drew1) | exact HB.out)⟩
    ·rw [if_neg c10] at H
     exact absurd H (by simp)
   ·rw [if_neg c9] at H
    exact absurd H (by simp)


end Go.Proofs.YtidlldfghkaeeaaDoor.P
end
