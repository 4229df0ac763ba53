/- Put together by pack2.py: PfTallymanref7Inside, PfTallymanref7Clean, PfTallymanref7Find -/
import Derived.Test.YtidlldfghkaeeaaGreatDoorZyRefNamesEtc
import Derived.Test.YtidlldfghkaeeaaGreatDoorZyPfTallymanref7GoodTree
import Derived.Test.YtidlldfghkaeeaaGreatDoorZyPfTallymanlaw8OwnEtc
import Derived.Test.YtidlldfghkaeeaaGreatDoorZyW0
set_option linter.unusedVariables false
set_option linter.unusedSimpArgs false
set_option maxHeartbeats 8000000
set_option maxRecDepth 100000
namespace Go.Proofs.YtidlldfghkaeeaaGreatDoor.P
open Go.RowKit Go.Proofs.YtidlldfghkaeeaaGreatDoorW.PrintWords Go.Proofs.YtidlldfghkaeeaaGreatDoorW.PrintLast Go.Proofs.YtidlldfghkaeeaaGreatDoorW.PrintMore
attribute [local go_sem] max2_int min2_int max_two min_two max_three min_three max_four min_four
def tallymanref7_Inside.f (a0 : ByteArray) : Option (Bool) := if a0.toList = ([46, 119, 111, 114, 107] : List UInt8) then (some true) else ((tallymanref7_Under.f a0 (⟨#[46, 119, 111, 114, 107]⟩ : ByteArray)).bind fun t314 => (some t314))
theorem tallymanref7_Inside.calls (a0 : ByteArray) (r : Bool) (w : World) (h : tallymanref7_Inside.f a0 = some r) :
  Calls Tryz.prog 67 #[.string a0] w fun e w' => e = .returned (.bool r) ∧ Below w.heap.size w w' := by
 have HB := xa_ (Below.refl w.heap.size w)
 have H : (if a0.toList = ([46, 119, 111, 114, 107] : List UInt8) then (some true) else ((tallymanref7_Under.f a0 (⟨#[46, 119, 111, 114, 107]⟩ : ByteArray)).bind fun t314 => (some t314))) = some r := h
 clear h
 by_cases c2 : a0.toList = ([46, 119, 111, 114, 107] : List UInt8)
 ·rw [if_pos c2] at H
  have c2b0 : (a0.toList == ([46, 119, 111, 114, 107] : List UInt8)) = true := beq_iff_eq.mpr c2
  have c2b1 : (a0.toList != ([46, 119, 111, 114, 107] : List UInt8)) = false := bne_eq_false_iff_eq.mpr c2
  clear c2
  obtain rfl := Option.some.inj H
  go_enter Tryz.func67, Tryz.ntmps67
  go_wp2
  go_ret
  exact ⟨by first | rfl | (simp [*, errW_none, errW_some] <;> rfl), by repeat (first | (with_reducible first | exact HB.out | apply below_alloc | apply pw_below_drewN | apply below_drew1) | exact HB.out)⟩
 ·rw [if_neg c2] at H
  have c2b0 : (a0.toList == ([46, 119, 111, 114, 107] : List UInt8)) = false := beq_eq_false_iff_ne.mpr c2
  have c2b1 : (a0.toList != ([46, 119, 111, 114, 107] : List UInt8)) = true := bne_iff_ne.mpr c2
  replace H := Option.bind_eq_some_iff.mp H
  obtain ⟨t314, A30, H⟩ := H
  replace H : (some t314) = some r := H
  have A3 := Aside0.mk A30
  clear A30
  obtain rfl := Option.some.inj H
  go_enter Tryz.func67, Tryz.ntmps67
  go_wp2_with (first | (go_at_call 56; (with_reducible refine (tallymanref7_Under.calls a0 (⟨#[46, 119, 111, 114, 107]⟩ : ByteArray) t314 _ A3.out).mono ?_); rintro e w4 ⟨rfl, hb⟩; replace HB := xa_ (below_step (xw_ HB.out) hb); (try clear hb); (try clear hb2); (try clear hk); (try clear hi)))
  go_ret
  exact ⟨by first | rfl | (simp [*, errW_none, errW_some] <;> rfl), by repeat (first | (with_reducible first | exact HB.out | apply below_alloc | apply pw_below_drewN | apply below_drew1) | exact HB.out)⟩
def tallymanref7_Clean.l0 : Nat → List (S45) → List (S45) → Int → Option ((List (S45)))
 | 0, _, _, _ => none
 | k + 1, x0, x3, x4 => if x4 < (x0.length : Int) then (if 0 ≤ x4 then ((tallymanref7_Inside.f ((rd_T45 x0 x4).f0)).bind fun t317 => (if t317 = true then (tallymanref7_Clean.l0 k x0 x3 (wrap64 (x4 + 1))) else (if x3.length < 2932031007402 then (tallymanref7_Clean.l0 k x0 (x3 ++ [(⟨(rd_T45 x0 x4).f0, (rd_T45 x0 x4).f1, (rd_T45 x0 x4).f2⟩ : S45)]) (wrap64 (x4 + 1))) else (none)))) else (none)) else (some x3)
def tallymanref7_Clean.f (k : Nat) (l0 : List (S45)) : Option ((List (S45))) := (tallymanref7_GoodTree.f k l0).bind fun t315 => (if t315 = true then (tallymanref7_Clean.l0 k l0 ([] : List (S45)) 0) else (some l0))
theorem tallymanref7_Clean.calls (k : Nat) (P0_ : Nat → Prop) (A0 : Option Addr) (c0 : Nat) (l0 : List (S45)) (r : List (S45)) (w : World) (hs0 : Kd.V k45 45 w w.heap.size (fun k_ => P0_ k_) (.slice A0 l0.length c0) l0) (h : tallymanref7_Clean.f k l0 = some r) :
  Calls Tryz.prog 25 #[.slice A0 l0.length c0] w fun e w' => ∃ v0_ : Value, e = .returned (v0_) ∧ Kd.V k45 45 w' w.heap.size (fun k_ => (P0_ k_ ∨ w.heap.size ≤ k_)) v0_ r ∧ Below w.heap.size w w' := by
 have hu45 := Tryz.underlying45
 have HO0 := xa_ (show Kd.V k45 45 w w.heap.size (fun k_ => (P0_ k_ ∨ w.heap.size ≤ k_)) (.slice A0 l0.length c0) l0 from Kd.V_mono hs0 (fun k_ hk => .inl hk))
 have HB := xa_ (Below.refl w.heap.size w)
 have H : ((tallymanref7_GoodTree.f k l0).bind fun t315 => (if t315 = true then (tallymanref7_Clean.l0 k l0 ([] : List (S45)) 0) else (some l0))) = some r := h
 clear h
 replace H := Option.bind_eq_some_iff.mp H
 obtain ⟨t315, A20, H⟩ := H
 replace H : (if t315 = true then (tallymanref7_Clean.l0 k l0 ([] : List (S45)) 0) else (some l0)) = some r := H
 have A2 := Aside0.mk A20
 clear A20
 by_cases c3 : t315 = true
 ·subst c3
  have H1 : (tallymanref7_Clean.l0 k l0 ([] : List (S45)) 0) = some r := by rw [if_pos rfl] at H; exact H
  clear H
  have H := H1
  clear H1
  have H' := Aside0.mk H
  clear H
  go_enter Tryz.func25, Tryz.ntmps25
  go_wp2_with (first | ((with_reducible refine gate_callee (f := 48) rfl ?_); refine goesL_ (some 6) rfl rfl Tryz.func48 (by kernel_rfl) rfl #[.slice A0 l0.length c0] rfl (by (try simp only [ca_]); first | done | rfl) ?_; (with_reducible refine (tallymanref7_GoodTree.calls k _ _ l0 true _ ?side1 ?side2 A2.out).mono ?_); (case side1 => exact xC_ (Kd.V_reads' HO0.out).2.2); (case side2 => exact (Kd.V_reads' HO0.out).2.1); rintro e w4 ⟨rfl, hb⟩; refine ⟨_, rfl, ?_⟩; replace HO0 := xa_ (Kd.V_below (xV_ HO0.out) hb); replace HB := xa_ (below_step (xw_ HB.out) hb); (try clear hb); (try clear hb2); (try clear hk); (try clear hi)))
  go_loopg [3, 4] k (fun kq v3 v4 w' => ∃ (x3_1 : List (S45)) (x4_1 : Int), v4 = .int .i64 x4_1 ∧ Aside0 (tallymanref7_Clean.l0 kq l0 x3_1 x4_1 = some r) ∧ Aside0 (kq ≤ k) ∧ Aside0 (Kd.V k45 45 w' w.heap.size (fun k_ => (P0_ k_ ∨ w.heap.size ≤ k_) ∧ some k_ ≠ (v3 : Value).ownBlock) (.slice A0 l0.length c0) l0) ∧ Aside0 (Kd.N k45 45 w' w.heap.size (fun k_ => (P0_ k_ ∨ w.heap.size ≤ k_)) v3 x3_1) ∧ Aside0 (Below w.heap.size w w'))
  case atStart => exact ⟨(([] : List (S45))), (0), (by first | rfl | (simp; done) | (simp [*]; done)), H', ⟨Nat.le_refl _⟩, ⟨by (with_reducible repeat (first | apply Kd.V_alloc | apply Kd.V_drewN | apply Kd.V_drew)); exact Kd.V_mono HO0.out (fun _ hk => ⟨hk, (by simp [Value.ownBlock])⟩)⟩, ⟨by first | exact Kd.S_nil _ _ _ _ _ | exact Kd.N_nil _ _ _ _ _ | exact Kd.V_nil _ _ _ _ _ | exact Kd.Q_nil _ _ _ _ _ | exact Kd.R_nil _ _ _ _ _⟩, ⟨by repeat (first | (with_reducible first | exact HB.out | apply below_alloc | apply pw_below_drewN | apply below_drew1) | exact HB.out)⟩⟩
  case round =>
   clear H'
   try clear c2
   try clear p2
   try clear c3
   try clear c4
   obtain ⟨x3_1, x4_1, rfl, HA, HK1, HO_0, HO_3, HB⟩ := hrel
   cases gk with
   | zero => exact absurd HA.out (by simp [tallymanref7_Clean.l0])
   | succ k1 =>
    have H := HA.out
    clear HA
    simp only [tallymanref7_Clean.l0] at H
    by_cases c5 : x4_1 < (l0.length : Int)
    ·rw [if_pos c5] at H
     have c5b0 : decide (x4_1 < (l0.length : Int)) = true := decide_eq_true c5
     clear c5
     by_cases c6 : 0 ≤ x4_1
     ·rw [if_pos c6] at H
      have c6b0 : decide (0 ≤ x4_1) = true := decide_eq_true c6
      clear c6
      replace H := Option.bind_eq_some_iff.mp H
      obtain ⟨t317, A70, H⟩ := H
      replace H : (if t317 = true then (tallymanref7_Clean.l0 k1 l0 x3_1 (wrap64 (x4_1 + 1))) else (if x3_1.length < 2932031007402 then (tallymanref7_Clean.l0 k1 l0 (x3_1 ++ [(⟨(rd_T45 l0 x4_1).f0, (rd_T45 l0 x4_1).f1, (rd_T45 l0 x4_1).f2⟩ : S45)]) (wrap64 (x4_1 + 1))) else (none))) = some r := H
      have A7 := Aside0.mk A70
      clear A70
      by_cases c8 : t317 = true
      ·subst c8
       have H1 : (tallymanref7_Clean.l0 k1 l0 x3_1 (wrap64 (x4_1 + 1))) = some r := by rw [if_pos rfl] at H; exact H
       clear H
       have H := H1
       clear H1
       have H' := Aside0.mk H
       clear H
       have p316 : 0 ≤ (x4_1 : Int) := of_decide_eq_true (by first | (with_reducible assumption) | assumption)
       have q316 : x4_1 < (l0.length : Int) := of_decide_eq_true (by first | (with_reducible assumption) | assumption)
       obtain ⟨ad316, A316_2, c316_2, e316, hx316_0, hx316_1, hx316_2, hl316_2, hi316_2⟩ := at_T45 (Kd.V_reads' HO_0.out).2.2 x4_1 p316 q316
       cases e316
       obtain ⟨ce316, hce316, hMe316, hcc316⟩ := Kd.V_get HO_0.out z45 x4_1 p316 (by first | exact q316 | exact of_decide_eq_true (by first | (with_reducible assumption) | assumption) | (have e_ := (Kd.V_reads' HO_0.out).1; omega))
       obtain ⟨ua316_2, uc316_2, rfl, ul316_2, ge316_2⟩ := k45_openF hMe316
       have hv316_2 := hcc316 2 _ rfl
       rw [add_field _ _ 2 (by omega)] at hv316_2
       replace hv316_2 := Option.some.inj (hv316_2.symm.trans hx316_2)
       injection hv316_2 with hva_ hvn_ hvc_
       rw [hva_] at ge316_2
       rw [hvc_] at ul316_2
       have HL316_2 := xa_ (show Kd.V (Kd.int .u8) 5 _ w.heap.size _ _ ((rd_T45 l0 x4_1).f2) from Kd.V_mk ul316_2 ge316_2)
       clear hva_ hvn_ hvc_ ge316_2 ul316_2
       clear hcc316 hce316
       have HR316_2 := Aside0.mk hi316_2
       have HC316_2 := Aside0.mk hl316_2
       clear hi316_2 hl316_2
       replace p316 := eq_true p316
       replace q316 := eq_true q316
       go_wp2_with (first | ((with_reducible refine gate_callee (f := 67) rfl ?_); refine goesL_ (some 20) rfl rfl Tryz.func67 (by kernel_rfl) rfl #[.string ((rd_T45 l0 x4_1).f0)] rfl (by (try simp only [ca_]); first | done | rfl) ?_; (with_reducible refine (tallymanref7_Inside.calls ((rd_T45 l0 x4_1).f0) true _ A7.out).mono ?_); rintro e w9 ⟨rfl, hb⟩; refine ⟨_, rfl, ?_⟩; replace HO_0 := xa_ (Kd.V_below (xV_ HO_0.out) hb); replace HO_3 := xa_ (Kd.N_below (xN_ HO_3.out) hb); replace HL316_2 := xa_ (Kd.V_below (xV_ HL316_2.out) hb); replace HR316_2 := xa_ (Kd.C_below (by repeat (first | (with_reducible exact HR316_2.out) | (with_reducible refine Kd.C_alloc ?_ _) | (with_reducible refine Kd.C_drewN ?_ _) | (with_reducible refine Kd.C_drew ?_) | exact HR316_2.out)) hb); replace HB := xa_ (below_step (xw_ HB.out) hb); (try clear hb); (try clear hb2); (try clear hk); (try clear hi)))
       go_roundg k1
       case measure => have := HK1.out; omega
       case rel => exact ⟨(x3_1), (wrap64 (x4_1 + 1)), (by first | rfl | (simp; done) | (simp [*]; done)), H', ⟨by have := HK1.out; omega⟩, ⟨by (with_reducible repeat (first | apply Kd.V_alloc | apply Kd.V_drewN | apply Kd.V_drew)); exact HO_0.out⟩, ⟨by (with_reducible repeat (first | apply Kd.N_alloc | apply Kd.N_drewN | apply Kd.N_drew)); exact HO_3.out⟩, ⟨by repeat (first | (with_reducible first | exact HB.out | apply below_alloc | apply pw_below_drewN | apply below_drew1) | exact HB.out)⟩⟩
      ·replace c8 := Bool.eq_false_iff.mpr c8
       subst c8
       have H1 : (if x3_1.length < 2932031007402 then (tallymanref7_Clean.l0 k1 l0 (x3_1 ++ [(⟨(rd_T45 l0 x4_1).f0, (rd_T45 l0 x4_1).f1, (rd_T45 l0 x4_1).f2⟩ : S45)]) (wrap64 (x4_1 + 1))) else (none)) = some r := by rw [if_neg (show ¬ (false = true) by decide)] at H; exact H
       clear H
       have H := H1
       clear H1
       by_cases c10 : x3_1.length < 2932031007402
       ·rw [if_pos c10] at H
        have LMc10 := Aside0.mk c10
        clear c10
        obtain ⟨y319, hy319⟩ : ∃ y_ : List (S45), y_ = (x3_1 ++ [(⟨(rd_T45 l0 x4_1).f0, (rd_T45 l0 x4_1).f1, (rd_T45 l0 x4_1).f2⟩ : S45)]) := ⟨_, rfl⟩
        replace H : (tallymanref7_Clean.l0 k1 l0 y319 (wrap64 (x4_1 + 1))) = some r := by first | (rw [hy319]; with_reducible exact H) | (have H2_ := (Option.bind_some _ _).symm.trans H; rw [hy319]; with_reducible exact H2_) | (have H2_ := (Option.bind_some _ _).symm.trans H; with_reducible exact H2_) | with_reducible exact H | (rw [hy319]; exact H) | exact H
        have Ny319 := Aside0.mk hy319
        clear hy319
        have H' := Aside0.mk H
        clear H
        have p316 : 0 ≤ (x4_1 : Int) := of_decide_eq_true (by first | (with_reducible assumption) | assumption)
        have q316 : x4_1 < (l0.length : Int) := of_decide_eq_true (by first | (with_reducible assumption) | assumption)
        obtain ⟨ad316, A316_2, c316_2, e316, hx316_0, hx316_1, hx316_2, hl316_2, hi316_2⟩ := at_T45 (Kd.V_reads' HO_0.out).2.2 x4_1 p316 q316
        cases e316
        obtain ⟨ce316, hce316, hMe316, hcc316⟩ := Kd.V_get HO_0.out z45 x4_1 p316 (by first | exact q316 | exact of_decide_eq_true (by first | (with_reducible assumption) | assumption) | (have e_ := (Kd.V_reads' HO_0.out).1; omega))
        obtain ⟨ua316_2, uc316_2, rfl, ul316_2, ge316_2⟩ := k45_openF hMe316
        have hv316_2 := hcc316 2 _ rfl
        rw [add_field _ _ 2 (by omega)] at hv316_2
        replace hv316_2 := Option.some.inj (hv316_2.symm.trans hx316_2)
        injection hv316_2 with hva_ hvn_ hvc_
        rw [hva_] at ge316_2
        rw [hvc_] at ul316_2
        have HL316_2 := xa_ (show Kd.V (Kd.int .u8) 5 _ w.heap.size _ _ ((rd_T45 l0 x4_1).f2) from Kd.V_mk ul316_2 ge316_2)
        clear hva_ hvn_ hvc_ ge316_2 ul316_2
        clear hcc316 hce316
        have HR316_2 := Aside0.mk hi316_2
        have HC316_2 := Aside0.mk hl316_2
        clear hi316_2 hl316_2
        replace p316 := eq_true p316
        replace q316 := eq_true q316
        go_wp2_with (first | ((with_reducible refine gate_callee (f := 67) rfl ?_); refine goesL_ (some 20) rfl rfl Tryz.func67 (by kernel_rfl) rfl #[.string ((rd_T45 l0 x4_1).f0)] rfl (by (try simp only [ca_]); first | done | rfl) ?_; (with_reducible refine (tallymanref7_Inside.calls ((rd_T45 l0 x4_1).f0) false _ A7.out).mono ?_); rintro e w11 ⟨rfl, hb⟩; refine ⟨_, rfl, ?_⟩; replace HO_0 := xa_ (Kd.V_below (xV_ HO_0.out) hb); replace HO_3 := xa_ (Kd.N_below (xN_ HO_3.out) hb); replace HL316_2 := xa_ (Kd.V_below (xV_ HL316_2.out) hb); replace HR316_2 := xa_ (Kd.C_below (by repeat (first | (with_reducible exact HR316_2.out) | (with_reducible refine Kd.C_alloc ?_ _) | (with_reducible refine Kd.C_drewN ?_ _) | (with_reducible refine Kd.C_drew ?_) | exact HR316_2.out)) hb); replace HB := xa_ (below_step (xw_ HB.out) hb); (try clear hb); (try clear hb2); (try clear hk); (try clear hi); have p318 : 0 ≤ (x4_1 : Int) := of_decide_eq_true (by first | (with_reducible assumption) | assumption); have q318 : x4_1 < (l0.length : Int) := of_decide_eq_true (by first | (with_reducible assumption) | assumption); obtain ⟨ad318, A318_2, c318_2, e318, hx318_0, hx318_1, hx318_2, hl318_2, hi318_2⟩ := at_T45 (Kd.V_reads' HO_0.out).2.2 x4_1 p318 q318; obtain rfl : ad316 = ad318 := (by injection e318); obtain ⟨ce318, hce318, hMe318, hcc318⟩ := Kd.V_get HO_0.out z45 x4_1 p318 (by first | exact q318 | exact of_decide_eq_true (by first | (with_reducible assumption) | assumption) | (have e_ := (Kd.V_reads' HO_0.out).1; omega)); obtain ⟨ua318_2, uc318_2, rfl, ul318_2, ge318_2⟩ := k45_openF hMe318; have hv318_2 := hcc318 2 _ rfl; rw [add_field _ _ 2 (by omega)] at hv318_2; replace hv318_2 := Option.some.inj (hv318_2.symm.trans hx318_2); injection hv318_2 with hva_ hvn_ hvc_; rw [hva_] at ge318_2; rw [hvc_] at ul318_2; have HL318_2 := xa_ (show Kd.V (Kd.int .u8) 5 _ w.heap.size _ _ ((rd_T45 l0 x4_1).f2) from Kd.V_mk ul318_2 ge318_2); clear hva_ hvn_ hvc_ ge318_2 ul318_2; clear hcc318 hce318; have HR318_2 := Aside0.mk hi318_2; have HC318_2 := Aside0.mk hl318_2; clear hi318_2 hl318_2; replace p318 := eq_true p318; replace q318 := eq_true q318) | ((with_reducible refine gate_builtin (b := .append) (xs := #[.tmp 22, .tmp 27]) rfl ?_); at_builtin; refine Kd.N_append k45 (w0 := w) w.heap.size rfl (.tmp 22) (.tmp 27) 28 45 (.agg #[(.string ⟨#[]⟩), (.bool false), (.slice none 0 0)]) 48 rfl Tryz.underlying28 info45 rfl (by decide) (by omega) u3 x3_1 (⟨(rd_T45 l0 x4_1).f0, (rd_T45 l0 x4_1).f1, (rd_T45 l0 x4_1).f2⟩ : S45) [.string ((rd_T45 l0 x4_1).f0), .bool ((rd_T45 l0 x4_1).f1), .slice A318_2 ((rd_T45 l0 x4_1).f2).length c318_2] (fun k_ => (P0_ k_ ∨ w.heap.size ≤ k_)) (fun k_ => ((fun k_ => (P0_ k_ ∨ w.heap.size ≤ k_))) k_ ∧ some k_ ≠ (u3 : Value).ownBlock) rfl rfl ?aP (fun _ hk => hk) ?aF ?aO ?aB ?aS ?aL ?_; (case aP => exact (k45_mkF _ _ (⟨(rd_T45 l0 x4_1).f0, (rd_T45 l0 x4_1).f1, (rd_T45 l0 x4_1).f2⟩ : S45) (Kd.V_reads' (Kd.V_mono (ok' := (fun k_ => ((fun k_ => (P0_ k_ ∨ w.heap.size ≤ k_))) k_ ∧ some k_ ≠ (u3 : Value).ownBlock)) (HL318_2.out) (fun k_ hk => ⟨hk.1, hk.2⟩))).2.1 (Kd.V_F (Kd.V_mono (ok' := (fun k_ => ((fun k_ => (P0_ k_ ∨ w.heap.size ≤ k_))) k_ ∧ some k_ ≠ (u3 : Value).ownBlock)) (HL318_2.out) (fun k_ hk => ⟨hk.1, hk.2⟩))))); (case aB => exact (xw_ HB.out)); (case aF => exact (fun k_ hk => (.inr (Nat.le_trans (below_size (xw_ HB.out)) hk)))); (case aO => exact (xN_ HO_3.out)); (case aS => exact (below_size (xw_ HB.out))); (case aL => have := LMc10.out; omega); intro v320 w12 ho hb hg hat; rw [← Ny319.out] at ho; replace HO_0 := xa_ (Kd.V_afterv (ok := (fun k_ => (P0_ k_ ∨ w.heap.size ≤ k_))) (xV_ HO_0.out) hg hat); replace HL316_2 := xa_ (Kd.V_afterv (ok := (fun k_ => (P0_ k_ ∨ w.heap.size ≤ k_))) (xV_ HL316_2.out) hg hat); replace HL318_2 := xa_ (Kd.V_afterv (ok := (fun k_ => (P0_ k_ ∨ w.heap.size ≤ k_))) (xV_ HL318_2.out) hg hat); replace HB := xa_ (hb); replace HO321 := xa_ (ho); clear ho hb hg hat))
        go_roundg k1
        case measure => have := HK1.out; omega
        case rel => exact ⟨(y319), (wrap64 (x4_1 + 1)), (by first | rfl | (simp; done) | (simp [*]; done)), H', ⟨by have := HK1.out; omega⟩, ⟨by (with_reducible repeat (first | apply Kd.V_alloc | apply Kd.V_drewN | apply Kd.V_drew)); exact HO_0.out⟩, ⟨by (with_reducible repeat (first | apply Kd.N_alloc | apply Kd.N_drewN | apply Kd.N_drew)); exact HO321.out⟩, ⟨by repeat (first | (with_reducible first | exact HB.out | apply below_alloc | apply pw_below_drewN | apply below_drew1) | exact HB.out)⟩⟩
       ·rw [if_neg c10] at H
        exact absurd H (by simp)
     ·rw [if_neg c6] at H
      exact absurd H (by simp)
    ·rw [if_neg c5] at H
     have c5b0 : decide (x4_1 < (l0.length : Int)) = false := decide_eq_false c5
     clear c5
     obtain rfl := Option.some.inj H
     go_wp2
     go_ret
     exact ⟨_, by first | rfl | (simp [*, errW_none, errW_some] <;> rfl), Kd.N_V (xN_ HO_3.out), by repeat (first | (with_reducible first | exact HB.out | apply below_alloc | apply pw_below_drewN | apply below_drew1) | exact HB.out)⟩
 ·replace c3 := Bool.eq_false_iff.mpr c3
  subst c3
  have H1 : (some l0) = some r := by rw [if_neg (show ¬ (false = true) by decide)] at H; exact H
  clear H
  have H := H1
  clear H1
  obtain rfl := Option.some.inj H
  go_enter Tryz.func25, Tryz.ntmps25
  go_wp2_with (first | ((with_reducible refine gate_callee (f := 48) rfl ?_); refine goesL_ (some 6) rfl rfl Tryz.func48 (by kernel_rfl) rfl #[.slice A0 l0.length c0] rfl (by (try simp only [ca_]); first | done | rfl) ?_; (with_reducible refine (tallymanref7_GoodTree.calls k _ _ l0 false _ ?side1 ?side2 A2.out).mono ?_); (case side1 => exact xC_ (Kd.V_reads' HO0.out).2.2); (case side2 => exact (Kd.V_reads' HO0.out).2.1); rintro e w13 ⟨rfl, hb⟩; refine ⟨_, rfl, ?_⟩; replace HO0 := xa_ (Kd.V_below (xV_ HO0.out) hb); replace HB := xa_ (below_step (xw_ HB.out) hb); (try clear hb); (try clear hb2); (try clear hk); (try clear hi)))
  go_ret
  exact ⟨_, by first | rfl | (simp [*, errW_none, errW_some] <;> rfl), by (with_reducible repeat (first | apply Kd.V_alloc | apply Kd.V_drewN | apply Kd.V_drew)); exact HO0.out, by repeat (first | (with_reducible first | exact HB.out | apply below_alloc | apply pw_below_drewN | apply below_drew1) | exact HB.out)⟩
def tallymanref7_Find.f (k : Nat) (l0 : List (S45)) (a1 : ByteArray) : Option (ByteArray × Bool × List Int × Int) := (tallymanref7_GoodTree.f k l0).bind fun t231 => (if t231 = true then ((tallymanref7_Good.f a1).bind fun t232 => (if t232 = true then ((tallymanref7_At.f k l0 a1).bind fun t233 => (if t233 < 0 then (some ((⟨#[]⟩ : ByteArray), false, ([] : List Int), 5)) else ((tallymanref7_At.f k l0 a1).bind fun t234 => (if 0 ≤ t234 then (if t234 < (l0.length : Int) then (some ((rd_T45 l0 t234).f0, (rd_T45 l0 t234).f1, (rd_T45 l0 t234).f2, 0)) else (none)) else (none))))) else (some ((⟨#[]⟩ : ByteArray), false, ([] : List Int), 4)))) else (some ((⟨#[]⟩ : ByteArray), false, ([] : List Int), 1)))
theorem tallymanref7_Find.calls (k : Nat) (P0_ : Nat → Prop) (A0 : Option Addr) (c0 : Nat) (l0 : List (S45)) (a1 : ByteArray) (r1 : ByteArray) (r2 : Bool) (r3 : List Int) (r4 : Int) (w : World) (hs0 : Kd.V k45 45 w w.heap.size (fun k_ => P0_ k_) (.slice A0 l0.length c0) l0) (h : tallymanref7_Find.f k l0 a1 = some (r1, r2, r3, r4)) :
  Calls Tryz.prog 15 #[.slice A0 l0.length c0, .string a1] w fun e w' => ∃ v2_ : Value, e = .returned (.tuple #[.agg #[.string r1, .bool r2, v2_], .int .i64 r4]) ∧ Kd.V (Kd.int .u8) 5 w' w.heap.size (fun k_ => (P0_ k_ ∨ w.heap.size ≤ k_)) v2_ r3 ∧ Below w.heap.size w w' := by
 have hu45 := Tryz.underlying45
 have HO0 := xa_ (show Kd.V k45 45 w w.heap.size (fun k_ => (P0_ k_ ∨ w.heap.size ≤ k_)) (.slice A0 l0.length c0) l0 from Kd.V_mono hs0 (fun k_ hk => .inl hk))
 have HB := xa_ (Below.refl w.heap.size w)
 have H : ((tallymanref7_GoodTree.f k l0).bind fun t231 => (if t231 = true then ((tallymanref7_Good.f a1).bind fun t232 => (if t232 = true then ((tallymanref7_At.f k l0 a1).bind fun t233 => (if t233 < 0 then (some ((⟨#[]⟩ : ByteArray), false, ([] : List Int), 5)) else ((tallymanref7_At.f k l0 a1).bind fun t234 => (if 0 ≤ t234 then (if t234 < (l0.length : Int) then (some ((rd_T45 l0 t234).f0, (rd_T45 l0 t234).f1, (rd_T45 l0 t234).f2, 0)) else (none)) else (none))))) else (some ((⟨#[]⟩ : ByteArray), false, ([] : List Int), 4)))) else (some ((⟨#[]⟩ : ByteArray), false, ([] : List Int), 1)))) = some (r1, r2, r3, r4) := h
 clear h
 replace H := Option.bind_eq_some_iff.mp H
 obtain ⟨t231, A30, H⟩ := H
 replace H : (if t231 = true then ((tallymanref7_Good.f a1).bind fun t232 => (if t232 = true then ((tallymanref7_At.f k l0 a1).bind fun t233 => (if t233 < 0 then (some ((⟨#[]⟩ : ByteArray), false, ([] : List Int), 5)) else ((tallymanref7_At.f k l0 a1).bind fun t234 => (if 0 ≤ t234 then (if t234 < (l0.length : Int) then (some ((rd_T45 l0 t234).f0, (rd_T45 l0 t234).f1, (rd_T45 l0 t234).f2, 0)) else (none)) else (none))))) else (some ((⟨#[]⟩ : ByteArray), false, ([] : List Int), 4)))) else (some ((⟨#[]⟩ : ByteArray), false, ([] : List Int), 1))) = some (r1, r2, r3, r4) := H
 have A3 := Aside0.mk A30
 clear A30
 by_cases c4 : t231 = true
 ·subst c4
  have H1 : ((tallymanref7_Good.f a1).bind fun t232 => (if t232 = true then ((tallymanref7_At.f k l0 a1).bind fun t233 => (if t233 < 0 then (some ((⟨#[]⟩ : ByteArray), false, ([] : List Int), 5)) else ((tallymanref7_At.f k l0 a1).bind fun t234 => (if 0 ≤ t234 then (if t234 < (l0.length : Int) then (some ((rd_T45 l0 t234).f0, (rd_T45 l0 t234).f1, (rd_T45 l0 t234).f2, 0)) else (none)) else (none))))) else (some ((⟨#[]⟩ : ByteArray), false, ([] : List Int), 4)))) = some (r1, r2, r3, r4) := by rw [if_pos rfl] at H; exact H
  clear H
  have H := H1
  clear H1
  replace H := Option.bind_eq_some_iff.mp H
  obtain ⟨t232, A50, H⟩ := H
  replace H : (if t232 = true then ((tallymanref7_At.f k l0 a1).bind fun t233 => (if t233 < 0 then (some ((⟨#[]⟩ : ByteArray), false, ([] : List Int), 5)) else ((tallymanref7_At.f k l0 a1).bind fun t234 => (if 0 ≤ t234 then (if t234 < (l0.length : Int) then (some ((rd_T45 l0 t234).f0, (rd_T45 l0 t234).f1, (rd_T45 l0 t234).f2, 0)) else (none)) else (none))))) else (some ((⟨#[]⟩ : ByteArray), false, ([] : List Int), 4))) = some (r1, r2, r3, r4) := H
  have A5 := Aside0.mk A50
  clear A50
  by_cases c6 : t232 = true
  ·subst c6
   have H1 : ((tallymanref7_At.f k l0 a1).bind fun t233 => (if t233 < 0 then (some ((⟨#[]⟩ : ByteArray), false, ([] : List Int), 5)) else ((tallymanref7_At.f k l0 a1).bind fun t234 => (if 0 ≤ t234 then (if t234 < (l0.length : Int) then (some ((rd_T45 l0 t234).f0, (rd_T45 l0 t234).f1, (rd_T45 l0 t234).f2, 0)) else (none)) else (none))))) = some (r1, r2, r3, r4) := by rw [if_pos rfl] at H; exact H
   clear H
   have H := H1
   clear H1
   replace H := Option.bind_eq_some_iff.mp H
   obtain ⟨t233, A70, H⟩ := H
   replace H : (if t233 < 0 then (some ((⟨#[]⟩ : ByteArray), false, ([] : List Int), 5)) else ((tallymanref7_At.f k l0 a1).bind fun t234 => (if 0 ≤ t234 then (if t234 < (l0.length : Int) then (some ((rd_T45 l0 t234).f0, (rd_T45 l0 t234).f1, (rd_T45 l0 t234).f2, 0)) else (none)) else (none)))) = some (r1, r2, r3, r4) := H
   have A7 := Aside0.mk A70
   clear A70
   by_cases c8 : t233 < 0
   ·rw [if_pos c8] at H
    have c8b0 : decide (t233 < 0) = true := decide_eq_true c8
    clear c8
    simp only [Option.some.injEq, Prod.mk.injEq] at H
    obtain ⟨rfl, rfl, rfl, rfl⟩ := H
    go_enter Tryz.func15, Tryz.ntmps15
    go_wp2_with (first | ((with_reducible refine gate_dst (N := 4) rfl ?_); refine box_event ?hg (N := 4) ?hd (cs := #[.string (⟨#[]⟩ : ByteArray), .bool false, .slice none 0 0]) (t := 45) ?hr ?_; (case hd => rfl); (case hg => rfl); (case hr => first | (go_simp; done) | (go_simp; rfl)); intro gb230 hg w9 hbox hb; have BK230 := xa_ (hbox); have GW230 := xa_ ((by rw [hg]; exact (below_size (xw_ HB.out)) : w.heap.size ≤ gb230)); have GE230 := xa_ ((by rw [hg]; exact (below_size (xw_ HB.out)) : w.heap.size ≤ gb230)); replace HO0 := xa_ (Kd.V_below (Kd.V_elderB (xV_ HO0.out) gb230 (Nat.le_of_eq hg.symm)) hb); replace HB := xa_ (below_step (xw_ HB.out) hb); clear hb hbox hg) | ((with_reducible refine gate_callee (f := 48) rfl ?_); refine goesL_ (some 8) rfl rfl Tryz.func48 (by kernel_rfl) rfl #[.slice A0 l0.length c0] rfl (by (try simp only [ca_]); first | done | rfl) ?_; (with_reducible refine (tallymanref7_GoodTree.calls k _ _ l0 true _ ?side1 ?side2 A3.out).mono ?_); (case side1 => exact xC_ (Kd.V_reads' HO0.out).2.2); (case side2 => exact (Kd.V_reads' HO0.out).2.1); rintro e w10 ⟨rfl, hb⟩; refine ⟨_, rfl, ?_⟩; replace HO0 := xa_ (Kd.V_below (xV_ HO0.out) hb); replace BK230 := xa_ (blk_below (g := gb230) (o := .cells #[.string (⟨#[]⟩ : ByteArray), .bool false, .slice none 0 0] 45 (0, 0)) (xb_ BK230.out) hb); replace HB := xa_ (below_step (xw_ HB.out) hb); (try clear hb); (try clear hb2); (try clear hk); (try clear hi)) | ((with_reducible refine gate_callee (f := 49) rfl ?_); refine goesL_ (some 13) rfl rfl Tryz.func49 (by kernel_rfl) rfl #[.string a1] rfl (by (try simp only [ca_]); first | done | rfl) ?_; (with_reducible refine (tallymanref7_Good.calls a1 true _ A5.out).mono ?_); rintro e w11 ⟨rfl, hb⟩; refine ⟨_, rfl, ?_⟩; replace HO0 := xa_ (Kd.V_below (xV_ HO0.out) hb); replace BK230 := xa_ (blk_below (g := gb230) (o := .cells #[.string (⟨#[]⟩ : ByteArray), .bool false, .slice none 0 0] 45 (0, 0)) (xb_ BK230.out) hb); replace HB := xa_ (below_step (xw_ HB.out) hb); (try clear hb); (try clear hb2); (try clear hk); (try clear hi)) | ((with_reducible refine gate_callee (f := 51) rfl ?_); refine goesL_ (some 19) rfl rfl Tryz.func51 (by kernel_rfl) rfl #[.slice A0 l0.length c0, .string a1] rfl (by (try simp only [ca_]); first | done | rfl) ?_; (with_reducible refine (tallymanref7_At.calls k _ _ l0 a1 t233 _ ?side1 ?side2 A7.out).mono ?_); (case side1 => exact xC_ (Kd.V_reads' HO0.out).2.2); (case side2 => exact (Kd.V_reads' HO0.out).2.1); rintro e w' ⟨rfl, ⟨nd, rfl⟩⟩; refine ⟨_, rfl, ?_⟩; (try (rw [drewN_self w11]; generalize hq_ : World.drewN w11 _ = w11; have n0_ : Aside0 (Kd.V k45 45 w11 w.heap.size (fun k_ => (P0_ k_ ∨ w.heap.size ≤ k_) ∧ k_ ≠ gb230) (.slice A0 l0.length c0) l0) := ⟨by rw [← hq_]; exact (xV_ HO0.out)⟩; have n1_ : Aside0 (w11.heap[gb230]? = some (.cells #[.string (⟨#[]⟩ : ByteArray), .bool false, .slice none 0 0] 45 (0, 0))) := ⟨by rw [← hq_]; exact (xb_ BK230.out)⟩; have n2_ : Aside0 (Below w.heap.size w w11) := ⟨by rw [← hq_]; exact (xw_ HB.out)⟩; clear HO0 BK230 HB hq_; have HO0 := n0_; have BK230 := n1_; have HB := n2_; clear n0_ n1_ n2_)); have hcz12_0 : w11.cell? ⟨gb230, 0, none⟩ = some (.string (⟨#[]⟩ : ByteArray)) := (blk_cell BK230.out 0).trans rfl; have hcz12_1 : w11.cell? ⟨gb230, 1, none⟩ = some (.bool false) := (blk_cell BK230.out 1).trans rfl; have hcz12_2 : w11.cell? ⟨gb230, 2, none⟩ = some (.slice none 0 0) := (blk_cell BK230.out 2).trans rfl; have hfz12_0 := blk_frozen BK230.out 0; have hfz12_1 := blk_frozen BK230.out 1; have hfz12_2 := blk_frozen BK230.out 2))
    refine bodyPost_ret (results_ct rfl _ _ gb230 45 #[.string (⟨#[]⟩ : ByteArray), .bool false, .slice none 0 0] (0, 0) _ rfl (by (with_reducible repeat (first | refine blk_drewN ?_ _ | refine blk_drew ?_ | refine blk_alloc ?_ _)); refine blk_put (cs := #[.string (⟨#[]⟩ : ByteArray), .bool false, .slice none 0 0]) ?_ 2 _ rfl; (with_reducible repeat (first | refine blk_drewN ?_ _ | refine blk_drew ?_ | refine blk_alloc ?_ _)); refine blk_put (cs := #[.string (⟨#[]⟩ : ByteArray), .bool false, .slice none 0 0]) ?_ 1 _ rfl; (with_reducible repeat (first | refine blk_drewN ?_ _ | refine blk_drew ?_ | refine blk_alloc ?_ _)); refine blk_put (cs := #[.string (⟨#[]⟩ : ByteArray), .bool false, .slice none 0 0]) ?_ 0 _ rfl; (with_reducible repeat (first | refine blk_drewN ?_ _ | refine blk_drew ?_ | refine blk_alloc ?_ _)); exact BK230.out) Tryz.underlying45 rfl (by kernel_rfl)) rfl ?_
    exact ⟨_, by first | rfl | (simp [*, errW_none, errW_some] <;> rfl), Kd.V_nil _ _ _ _ _, by repeat (first | (with_reducible first | exact HB.out | apply below_alloc | apply pw_below_drewN | apply below_drew1 | refine below_set ?_ GE230.out) | exact HB.out)⟩
   ·rw [if_neg c8] at H
    have c8b0 : decide (t233 < 0) = false := decide_eq_false c8
    clear c8
    replace H := Option.bind_eq_some_iff.mp H
    obtain ⟨t234, A130, H⟩ := H
    replace H : (if 0 ≤ t234 then (if t234 < (l0.length : Int) then (some ((rd_T45 l0 t234).f0, (rd_T45 l0 t234).f1, (rd_T45 l0 t234).f2, 0)) else (none)) else (none)) = some (r1, r2, r3, r4) := H
    have A13 := Aside0.mk A130
    clear A130
    by_cases c14 : 0 ≤ t234
    ·rw [if_pos c14] at H
     have c14b0 : decide (0 ≤ t234) = true := decide_eq_true c14
     clear c14
     by_cases c15 : t234 < (l0.length : Int)
     ·rw [if_pos c15] at H
      have c15b0 : decide (t234 < (l0.length : Int)) = true := decide_eq_true c15
      clear c15
      simp only [Option.some.injEq, Prod.mk.injEq] at H
      obtain ⟨rfl, rfl, rfl, rfl⟩ := H
      go_enter Tryz.func15, Tryz.ntmps15
      go_wp2_with (first | ((with_reducible refine gate_dst (N := 4) rfl ?_); refine box_event ?hg (N := 4) ?hd (cs := #[.string (⟨#[]⟩ : ByteArray), .bool false, .slice none 0 0]) (t := 45) ?hr ?_; (case hd => rfl); (case hg => rfl); (case hr => first | (go_simp; done) | (go_simp; rfl)); intro gb230 hg w16 hbox hb; have BK230 := xa_ (hbox); have GW230 := xa_ ((by rw [hg]; exact (below_size (xw_ HB.out)) : w.heap.size ≤ gb230)); have GE230 := xa_ ((by rw [hg]; exact (below_size (xw_ HB.out)) : w.heap.size ≤ gb230)); replace HO0 := xa_ (Kd.V_below (Kd.V_elderB (xV_ HO0.out) gb230 (Nat.le_of_eq hg.symm)) hb); replace HB := xa_ (below_step (xw_ HB.out) hb); clear hb hbox hg) | ((with_reducible refine gate_callee (f := 48) rfl ?_); refine goesL_ (some 8) rfl rfl Tryz.func48 (by kernel_rfl) rfl #[.slice A0 l0.length c0] rfl (by (try simp only [ca_]); first | done | rfl) ?_; (with_reducible refine (tallymanref7_GoodTree.calls k _ _ l0 true _ ?side1 ?side2 A3.out).mono ?_); (case side1 => exact xC_ (Kd.V_reads' HO0.out).2.2); (case side2 => exact (Kd.V_reads' HO0.out).2.1); rintro e w17 ⟨rfl, hb⟩; refine ⟨_, rfl, ?_⟩; replace HO0 := xa_ (Kd.V_below (xV_ HO0.out) hb); replace BK230 := xa_ (blk_below (g := gb230) (o := .cells #[.string (⟨#[]⟩ : ByteArray), .bool false, .slice none 0 0] 45 (0, 0)) (xb_ BK230.out) hb); replace HB := xa_ (below_step (xw_ HB.out) hb); (try clear hb); (try clear hb2); (try clear hk); (try clear hi)) | ((with_reducible refine gate_callee (f := 49) rfl ?_); refine goesL_ (some 13) rfl rfl Tryz.func49 (by kernel_rfl) rfl #[.string a1] rfl (by (try simp only [ca_]); first | done | rfl) ?_; (with_reducible refine (tallymanref7_Good.calls a1 true _ A5.out).mono ?_); rintro e w18 ⟨rfl, hb⟩; refine ⟨_, rfl, ?_⟩; replace HO0 := xa_ (Kd.V_below (xV_ HO0.out) hb); replace BK230 := xa_ (blk_below (g := gb230) (o := .cells #[.string (⟨#[]⟩ : ByteArray), .bool false, .slice none 0 0] 45 (0, 0)) (xb_ BK230.out) hb); replace HB := xa_ (below_step (xw_ HB.out) hb); (try clear hb); (try clear hb2); (try clear hk); (try clear hi)) | ((with_reducible refine gate_callee (f := 51) rfl ?_); refine goesL_ (some 19) rfl rfl Tryz.func51 (by kernel_rfl) rfl #[.slice A0 l0.length c0, .string a1] rfl (by (try simp only [ca_]); first | done | rfl) ?_; (with_reducible refine (tallymanref7_At.calls k _ _ l0 a1 t233 _ ?side1 ?side2 A7.out).mono ?_); (case side1 => exact xC_ (Kd.V_reads' HO0.out).2.2); (case side2 => exact (Kd.V_reads' HO0.out).2.1); rintro e w' ⟨rfl, ⟨nd, rfl⟩⟩; refine ⟨_, rfl, ?_⟩; (try (rw [drewN_self w18]; generalize hq_ : World.drewN w18 _ = w18; have n0_ : Aside0 (Kd.V k45 45 w18 w.heap.size (fun k_ => (P0_ k_ ∨ w.heap.size ≤ k_) ∧ k_ ≠ gb230) (.slice A0 l0.length c0) l0) := ⟨by rw [← hq_]; exact (xV_ HO0.out)⟩; have n1_ : Aside0 (w18.heap[gb230]? = some (.cells #[.string (⟨#[]⟩ : ByteArray), .bool false, .slice none 0 0] 45 (0, 0))) := ⟨by rw [← hq_]; exact (xb_ BK230.out)⟩; have n2_ : Aside0 (Below w.heap.size w w18) := ⟨by rw [← hq_]; exact (xw_ HB.out)⟩; clear HO0 BK230 HB hq_; have HO0 := n0_; have BK230 := n1_; have HB := n2_; clear n0_ n1_ n2_))) | ((with_reducible refine gate_callee (f := 51) rfl ?_); refine goesL_ (some 25) rfl rfl Tryz.func51 (by kernel_rfl) rfl #[.slice A0 l0.length c0, .string a1] rfl (by (try simp only [ca_]); first | done | rfl) ?_; (with_reducible refine (tallymanref7_At.calls k _ _ l0 a1 t234 _ ?side1 ?side2 A13.out).mono ?_); (case side1 => exact xC_ (Kd.V_reads' HO0.out).2.2); (case side2 => exact (Kd.V_reads' HO0.out).2.1); rintro e w' ⟨rfl, ⟨nd, rfl⟩⟩; refine ⟨_, rfl, ?_⟩; (try (rw [drewN_self w18]; generalize hq_ : World.drewN w18 _ = w18; have n0_ : Aside0 (Kd.V k45 45 w18 w.heap.size (fun k_ => (P0_ k_ ∨ w.heap.size ≤ k_) ∧ k_ ≠ gb230) (.slice A0 l0.length c0) l0) := ⟨by rw [← hq_]; exact (xV_ HO0.out)⟩; have n1_ : Aside0 (w18.heap[gb230]? = some (.cells #[.string (⟨#[]⟩ : ByteArray), .bool false, .slice none 0 0] 45 (0, 0))) := ⟨by rw [← hq_]; exact (xb_ BK230.out)⟩; have n2_ : Aside0 (Below w.heap.size w w18) := ⟨by rw [← hq_]; exact (xw_ HB.out)⟩; clear HO0 BK230 HB hq_; have HO0 := n0_; have BK230 := n1_; have HB := n2_; clear n0_ n1_ n2_)); have p235 : 0 ≤ (t234 : Int) := of_decide_eq_true (by first | (with_reducible assumption) | assumption); have q235 : t234 < (l0.length : Int) := of_decide_eq_true (by first | (with_reducible assumption) | assumption); obtain ⟨ad235, A235_2, c235_2, e235, hx235_0, hx235_1, hx235_2, hl235_2, hi235_2⟩ := at_T45 (Kd.V_reads' HO0.out).2.2 t234 p235 q235; cases e235; obtain ⟨ce235, hce235, hMe235, hcc235⟩ := Kd.V_get HO0.out z45 t234 p235 (by first | exact q235 | exact of_decide_eq_true (by first | (with_reducible assumption) | assumption) | (have e_ := (Kd.V_reads' HO0.out).1; omega)); obtain ⟨ua235_2, uc235_2, rfl, ul235_2, ge235_2⟩ := k45_openF hMe235; have hv235_2 := hcc235 2 _ rfl; rw [add_field _ _ 2 (by omega)] at hv235_2; replace hv235_2 := Option.some.inj (hv235_2.symm.trans hx235_2); injection hv235_2 with hva_ hvn_ hvc_; rw [hva_] at ge235_2; rw [hvc_] at ul235_2; have HL235_2 := xa_ (show Kd.V (Kd.int .u8) 5 _ w.heap.size _ _ ((rd_T45 l0 t234).f2) from Kd.V_mk ul235_2 ge235_2); clear hva_ hvn_ hvc_ ge235_2 ul235_2; clear hcc235 hce235; have HR235_2 := Aside0.mk hi235_2; have HC235_2 := Aside0.mk hl235_2; clear hi235_2 hl235_2; replace p235 := eq_true p235; replace q235 := eq_true q235; have hcz19_0 : w18.cell? ⟨gb230, 0, none⟩ = some (.string (⟨#[]⟩ : ByteArray)) := (blk_cell BK230.out 0).trans rfl; have hcz19_1 : w18.cell? ⟨gb230, 1, none⟩ = some (.bool false) := (blk_cell BK230.out 1).trans rfl; have hcz19_2 : w18.cell? ⟨gb230, 2, none⟩ = some (.slice none 0 0) := (blk_cell BK230.out 2).trans rfl; have hfz19_0 := blk_frozen BK230.out 0; have hfz19_1 := blk_frozen BK230.out 1; have hfz19_2 := blk_frozen BK230.out 2))
      refine bodyPost_ret (results_ct rfl _ _ gb230 45 #[.string ((rd_T45 l0 t234).f0), .bool ((rd_T45 l0 t234).f1), .slice A235_2 ((rd_T45 l0 t234).f2).length c235_2] (0, 0) _ rfl (by (with_reducible repeat (first | refine blk_drewN ?_ _ | refine blk_drew ?_ | refine blk_alloc ?_ _)); refine blk_put (cs := #[.string ((rd_T45 l0 t234).f0), .bool ((rd_T45 l0 t234).f1), .slice none 0 0]) ?_ 2 _ rfl; (with_reducible repeat (first | refine blk_drewN ?_ _ | refine blk_drew ?_ | refine blk_alloc ?_ _)); refine blk_put (cs := #[.string ((rd_T45 l0 t234).f0), .bool false, .slice none 0 0]) ?_ 1 _ rfl; (with_reducible repeat (first | refine blk_drewN ?_ _ | refine blk_drew ?_ | refine blk_alloc ?_ _)); refine blk_put (cs := #[.string (⟨#[]⟩ : ByteArray), .bool false, .slice none 0 0]) ?_ 0 _ rfl; (with_reducible repeat (first | refine blk_drewN ?_ _ | refine blk_drew ?_ | refine blk_alloc ?_ _)); exact BK230.out) Tryz.underlying45 rfl (by kernel_rfl)) rfl ?_
      exact ⟨_, by first | rfl | (simp [*, errW_none, errW_some] <;> rfl), by (with_reducible repeat (first | apply Kd.V_alloc | apply Kd.V_drewN | apply Kd.V_drew)); exact Kd.V_mono (vf_ (vf_ (vf_ (Kd.V_mono HL235_2.out (fun k_ hk => (⟨hk, hk.2⟩ : _ ∧ k_ ≠ gb230)))))) (fun _ hk => hk.1.1), by repeat (first | (with_reducible first | exact HB.out | apply below_alloc | apply pw_below_drewN | apply below_drew1 | refine below_set ?_ GE230.out) | exact HB.out)⟩
     ·rw [if_neg c15] at H
      exact absurd H (by simp)
    ·rw [if_neg c14] at H
     exact absurd H (by simp)
  ·replace c6 := Bool.eq_false_iff.mpr c6
   subst c6
   have H1 : (some ((⟨#[]⟩ : ByteArray), false, ([] : List Int), 4)) = some (r1, r2, r3, r4) := by rw [if_neg (show ¬ (false = true) by decide)] at H; exact H
   clear H
   have H := H1
   clear H1
   simp only [Option.some.injEq, Prod.mk.injEq] at H
   obtain ⟨rfl, rfl, rfl, rfl⟩ := H
   go_enter Tryz.func15, Tryz.ntmps15
   go_wp2_with (first | ((with_reducible refine gate_dst (N := 4) rfl ?_); refine box_event ?hg (N := 4) ?hd (cs := #[.string (⟨#[]⟩ : ByteArray), .bool false, .slice none 0 0]) (t := 45) ?hr ?_; (case hd => rfl); (case hg => rfl); (case hr => first | (go_simp; done) | (go_simp; rfl)); intro gb230 hg w20 hbox hb; have BK230 := xa_ (hbox); have GW230 := xa_ ((by rw [hg]; exact (below_size (xw_ HB.out)) : w.heap.size ≤ gb230)); have GE230 := xa_ ((by rw [hg]; exact (below_size (xw_ HB.out)) : w.heap.size ≤ gb230)); replace HO0 := xa_ (Kd.V_below (Kd.V_elderB (xV_ HO0.out) gb230 (Nat.le_of_eq hg.symm)) hb); replace HB := xa_ (below_step (xw_ HB.out) hb); clear hb hbox hg) | ((with_reducible refine gate_callee (f := 48) rfl ?_); refine goesL_ (some 8) rfl rfl Tryz.func48 (by kernel_rfl) rfl #[.slice A0 l0.length c0] rfl (by (try simp only [ca_]); first | done | rfl) ?_; (with_reducible refine (tallymanref7_GoodTree.calls k _ _ l0 true _ ?side1 ?side2 A3.out).mono ?_); (case side1 => exact xC_ (Kd.V_reads' HO0.out).2.2); (case side2 => exact (Kd.V_reads' HO0.out).2.1); rintro e w21 ⟨rfl, hb⟩; refine ⟨_, rfl, ?_⟩; replace HO0 := xa_ (Kd.V_below (xV_ HO0.out) hb); replace BK230 := xa_ (blk_below (g := gb230) (o := .cells #[.string (⟨#[]⟩ : ByteArray), .bool false, .slice none 0 0] 45 (0, 0)) (xb_ BK230.out) hb); replace HB := xa_ (below_step (xw_ HB.out) hb); (try clear hb); (try clear hb2); (try clear hk); (try clear hi)) | ((with_reducible refine gate_callee (f := 49) rfl ?_); refine goesL_ (some 13) rfl rfl Tryz.func49 (by kernel_rfl) rfl #[.string a1] rfl (by (try simp only [ca_]); first | done | rfl) ?_; (with_reducible refine (tallymanref7_Good.calls a1 false _ A5.out).mono ?_); rintro e w22 ⟨rfl, hb⟩; refine ⟨_, rfl, ?_⟩; replace HO0 := xa_ (Kd.V_below (xV_ HO0.out) hb); replace BK230 := xa_ (blk_below (g := gb230) (o := .cells #[.string (⟨#[]⟩ : ByteArray), .bool false, .slice none 0 0] 45 (0, 0)) (xb_ BK230.out) hb); replace HB := xa_ (below_step (xw_ HB.out) hb); (try clear hb); (try clear hb2); (try clear hk); (try clear hi); have hcz23_0 : w22.cell? ⟨gb230, 0, none⟩ = some (.string (⟨#[]⟩ : ByteArray)) := (blk_cell BK230.out 0).trans rfl; have hcz23_1 : w22.cell? ⟨gb230, 1, none⟩ = some (.bool false) := (blk_cell BK230.out 1).trans rfl; have hcz23_2 : w22.cell? ⟨gb230, 2, none⟩ = some (.slice none 0 0) := (blk_cell BK230.out 2).trans rfl; have hfz23_0 := blk_frozen BK230.out 0; have hfz23_1 := blk_frozen BK230.out 1; have hfz23_2 := blk_frozen BK230.out 2))
   refine bodyPost_ret (results_ct rfl _ _ gb230 45 #[.string (⟨#[]⟩ : ByteArray), .bool false, .slice none 0 0] (0, 0) _ rfl (by (with_reducible repeat (first | refine blk_drewN ?_ _ | refine blk_drew ?_ | refine blk_alloc ?_ _)); refine blk_put (cs := #[.string (⟨#[]⟩ : ByteArray), .bool false, .slice none 0 0]) ?_ 2 _ rfl; (with_reducible repeat (first | refine blk_drewN ?_ _ | refine blk_drew ?_ | refine blk_alloc ?_ _)); refine blk_put (cs := #[.string (⟨#[]⟩ : ByteArray), .bool false, .slice none 0 0]) ?_ 1 _ rfl; (with_reducible repeat (first | refine blk_drewN ?_ _ | refine blk_drew ?_ | refine blk_alloc ?_ _)); refine blk_put (cs := #[.string (⟨#[]⟩ : ByteArray), .bool false, .slice none 0 0]) ?_ 0 _ rfl; (with_reducible repeat (first | refine blk_drewN ?_ _ | refine blk_drew ?_ | refine blk_alloc ?_ _)); exact BK230.out) Tryz.underlying45 rfl (by kernel_rfl)) rfl ?_
   exact ⟨_, by first | rfl | (simp [*, errW_none, errW_some] <;> rfl), Kd.V_nil _ _ _ _ _, by repeat (first | (with_reducible first | exact HB.out | apply below_alloc | apply pw_below_drewN | apply below_drew1 | refine below_set ?_ GE230.out) | exact HB.out)⟩
 ·replace c4 := Bool.eq_false_iff.mpr c4
  subst c4
  have H1 : (some ((⟨#[]⟩ : ByteArray), false, ([] : List Int), 1)) = some (r1, r2, r3, r4) := by rw [if_neg (show ¬ (false = true) by decide)] at H; exact H
  clear H
  have H := H1
  clear H1
  simp only [Option.some.injEq, Prod.mk.injEq] at H
  obtain ⟨rfl, rfl, rfl, rfl⟩ := H
  go_enter Tryz.func15, Tryz.ntmps15
  go_wp2_with (first | ((with_reducible refine gate_dst (N := 4) rfl ?_); refine box_event ?hg (N := 4) ?hd (cs := #[.string (⟨#[]⟩ : ByteArray), .bool false, .slice none 0 0]) (t := 45) ?hr ?_; (case hd => rfl); (case hg => rfl); (case hr => first | (go_simp; done) | (go_simp; rfl)); intro gb230 hg w24 hbox hb; have BK230 := xa_ (hbox); have GW230 := xa_ ((by rw [hg]; exact (below_size (xw_ HB.out)) : w.heap.size ≤ gb230)); have GE230 := xa_ ((by rw [hg]; exact (below_size (xw_ HB.out)) : w.heap.size ≤ gb230)); replace HO0 := xa_ (Kd.V_below (Kd.V_elderB (xV_ HO0.out) gb230 (Nat.le_of_eq hg.symm)) hb); replace HB := xa_ (below_step (xw_ HB.out) hb); clear hb hbox hg) | ((with_reducible refine gate_callee (f := 48) rfl ?_); refine goesL_ (some 8) rfl rfl Tryz.func48 (by kernel_rfl) rfl #[.slice A0 l0.length c0] rfl (by (try simp only [ca_]); first | done | rfl) ?_; (with_reducible refine (tallymanref7_GoodTree.calls k _ _ l0 false _ ?side1 ?side2 A3.out).mono ?_); (case side1 => exact xC_ (Kd.V_reads' HO0.out).2.2); (case side2 => exact (Kd.V_reads' HO0.out).2.1); rintro e w25 ⟨rfl, hb⟩; refine ⟨_, rfl, ?_⟩; replace HO0 := xa_ (Kd.V_below (xV_ HO0.out) hb); replace BK230 := xa_ (blk_below (g := gb230) (o := .cells #[.string (⟨#[]⟩ : ByteArray), .bool false, .slice none 0 0] 45 (0, 0)) (xb_ BK230.out) hb); replace HB := xa_ (below_step (xw_ HB.out) hb); (try clear hb); (try clear hb2); (try clear hk); (try clear hi); have hcz26_0 : w25.cell? ⟨gb230, 0, none⟩ = some (.string (⟨#[]⟩ : ByteArray)) := (blk_cell BK230.out 0).trans rfl; have hcz26_1 : w25.cell? ⟨gb230, 1, none⟩ = some (.bool false) := (blk_cell BK230.out 1).trans rfl; have hcz26_2 : w25.cell? ⟨gb230, 2, none⟩ = some (.slice none 0 0) := (blk_cell BK230.out 2).trans rfl; have hfz26_0 := blk_frozen BK230.out 0; have hfz26_1 := blk_frozen BK230.out 1; have hfz26_2 := blk_frozen BK230.out 2))
  refine bodyPost_ret (results_ct rfl _ _ gb230 45 #[.string (⟨#[]⟩ : ByteArray), .bool false, .slice none 0 0] (0, 0) _ rfl (by (with_reducible repeat (first | refine blk_drewN ?_ _ | refine blk_drew ?_ | refine blk_alloc ?_ _)); refine blk_put (cs := #[.string (⟨#[]⟩ : ByteArray), .bool false, .slice none 0 0]) ?_ 2 _ rfl; (with_reducible repeat (first | refine blk_drewN ?_ _ | refine blk_drew ?_ | refine blk_alloc ?_ _)); refine blk_put (cs := #[.string (⟨#[]⟩ : ByteArray), .bool false, .slice none 0 0]) ?_ 1 _ rfl; (with_reducible repeat (first | refine blk_drewN ?_ _ | refine blk_drew ?_ | refine blk_alloc ?_ _)); refine blk_put (cs := #[.string (⟨#[]⟩ : ByteArray), .bool false, .slice none 0 0]) ?_ 0 _ rfl; (with_reducible repeat (first | refine blk_drewN ?_ _ | refine blk_drew ?_ | refine blk_alloc ?_ _)); exact BK230.out) Tryz.underlying45 rfl (by kernel_rfl)) rfl ?_
  exact ⟨_, by first | rfl | (simp [*, errW_none, errW_some] <;> rfl), Kd.V_nil _ _ _ _ _, by repeat (first | (with_reducible first | exact HB.out | apply below_alloc | apply pw_below_drewN | apply below_drew1 | refine below_set ?_ GE230.out) | exact HB.out)⟩
end Go.Proofs.YtidlldfghkaeeaaGreatDoor.P
