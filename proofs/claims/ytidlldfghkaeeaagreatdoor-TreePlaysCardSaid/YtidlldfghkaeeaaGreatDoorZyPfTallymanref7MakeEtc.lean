/- Put together by pack2.py: PfTallymanref7Make, PfTallymanref7Put -/
import Derived.Test.YtidlldfghkaeeaaGreatDoorZyRefNamesEtc
import Derived.Test.YtidlldfghkaeeaaGreatDoorZyPfTallymanlaw8OwnEtc
import Derived.Test.YtidlldfghkaeeaaGreatDoorZyPfTallymanref7GoodTree
import Derived.Test.YtidlldfghkaeeaaGreatDoorZyPfTallymanref7KidsEtc
import Derived.Test.YtidlldfghkaeeaaGreatDoorZyPfTallymanref7With
import Derived.Test.YtidlldfghkaeeaaGreatDoorZyW0
set_option linter.unusedVariables false
set_option linter.unusedSimpArgs false
set_option maxHeartbeats 8000000
set_option maxRecDepth 100000
namespace Go.Proofs.YtidlldfghkaeeaaGreatDoor.P
open Go.RowKit Go.Proofs.YtidlldfghkaeeaaGreatDoorW.PrintWords Go.Proofs.YtidlldfghkaeeaaGreatDoorW.PrintLast Go.Proofs.YtidlldfghkaeeaaGreatDoorW.PrintMore
attribute [local go_sem] max2_int min2_int max_two min_two max_three min_three max_four min_four
def tallymanref7_Make.f (k : Nat) (l0 : List (S45)) (a1 : ByteArray) : Option ((List (S45)) × Int) := (tallymanref7_GoodTree.f k l0).bind fun t213 => (if t213 = true then ((tallymanref7_Good.f a1).bind fun t214 => (if t214 = true then ((tallymanref7_At.f k l0 a1).bind fun t215 => (if t215 ≥ 0 then (some (l0, 6)) else ((tallymanref7_room.f k l0 a1).bind fun t216 => (if t216 = 0 then ((tallymanref7_with.f k l0 a1 true ([] : List Int)).bind fun t217 => ((tallymanref7_GoodTree.f k t217).bind fun t220 => (if t220 = true then (some (t217, 0)) else (some (l0, 9))))) else (some (l0, t216)))))) else (some (l0, 4)))) else (some (l0, 1)))
theorem tallymanref7_Make.calls (k : Nat) (P0_ : Nat → Prop) (A0 : Option Addr) (c0 : Nat) (l0 : List (S45)) (a1 : ByteArray) (r1 : List (S45)) (r2 : Int) (w : World) (hs0 : Kd.V k45 45 w w.heap.size (fun k_ => P0_ k_) (.slice A0 l0.length c0) l0) (h : tallymanref7_Make.f k l0 a1 = some (r1, r2)) :
  Calls Tryz.prog 9 #[.slice A0 l0.length c0, .string a1] w fun e w' => ∃ v0_ : Value, e = .returned (.tuple #[v0_, .int .i64 r2]) ∧ Kd.V k45 45 w' w.heap.size (fun k_ => (P0_ k_ ∨ w.heap.size ≤ k_)) v0_ r1 ∧ Below w.heap.size w w' := by
 have hu45 := Tryz.underlying45
 have HO0 := xa_ (show Kd.V k45 45 w w.heap.size (fun k_ => (P0_ k_ ∨ w.heap.size ≤ k_)) (.slice A0 l0.length c0) l0 from Kd.V_mono hs0 (fun k_ hk => .inl hk))
 have HB := xa_ (Below.refl w.heap.size w)
 have H : ((tallymanref7_GoodTree.f k l0).bind fun t213 => (if t213 = true then ((tallymanref7_Good.f a1).bind fun t214 => (if t214 = true then ((tallymanref7_At.f k l0 a1).bind fun t215 => (if t215 ≥ 0 then (some (l0, 6)) else ((tallymanref7_room.f k l0 a1).bind fun t216 => (if t216 = 0 then ((tallymanref7_with.f k l0 a1 true ([] : List Int)).bind fun t217 => ((tallymanref7_GoodTree.f k t217).bind fun t220 => (if t220 = true then (some (t217, 0)) else (some (l0, 9))))) else (some (l0, t216)))))) else (some (l0, 4)))) else (some (l0, 1)))) = some (r1, r2) := h
 clear h
 replace H := Option.bind_eq_some_iff.mp H
 obtain ⟨t213, A30, H⟩ := H
 replace H : (if t213 = true then ((tallymanref7_Good.f a1).bind fun t214 => (if t214 = true then ((tallymanref7_At.f k l0 a1).bind fun t215 => (if t215 ≥ 0 then (some (l0, 6)) else ((tallymanref7_room.f k l0 a1).bind fun t216 => (if t216 = 0 then ((tallymanref7_with.f k l0 a1 true ([] : List Int)).bind fun t217 => ((tallymanref7_GoodTree.f k t217).bind fun t220 => (if t220 = true then (some (t217, 0)) else (some (l0, 9))))) else (some (l0, t216)))))) else (some (l0, 4)))) else (some (l0, 1))) = some (r1, r2) := H
 have A3 := Aside0.mk A30
 clear A30
 by_cases c4 : t213 = true
 ·subst c4
  have H1 : ((tallymanref7_Good.f a1).bind fun t214 => (if t214 = true then ((tallymanref7_At.f k l0 a1).bind fun t215 => (if t215 ≥ 0 then (some (l0, 6)) else ((tallymanref7_room.f k l0 a1).bind fun t216 => (if t216 = 0 then ((tallymanref7_with.f k l0 a1 true ([] : List Int)).bind fun t217 => ((tallymanref7_GoodTree.f k t217).bind fun t220 => (if t220 = true then (some (t217, 0)) else (some (l0, 9))))) else (some (l0, t216)))))) else (some (l0, 4)))) = some (r1, r2) := by rw [if_pos rfl] at H; exact H
  clear H
  have H := H1
  clear H1
  replace H := Option.bind_eq_some_iff.mp H
  obtain ⟨t214, A50, H⟩ := H
  replace H : (if t214 = true then ((tallymanref7_At.f k l0 a1).bind fun t215 => (if t215 ≥ 0 then (some (l0, 6)) else ((tallymanref7_room.f k l0 a1).bind fun t216 => (if t216 = 0 then ((tallymanref7_with.f k l0 a1 true ([] : List Int)).bind fun t217 => ((tallymanref7_GoodTree.f k t217).bind fun t220 => (if t220 = true then (some (t217, 0)) else (some (l0, 9))))) else (some (l0, t216)))))) else (some (l0, 4))) = some (r1, r2) := H
  have A5 := Aside0.mk A50
  clear A50
  by_cases c6 : t214 = true
  ·subst c6
   have H1 : ((tallymanref7_At.f k l0 a1).bind fun t215 => (if t215 ≥ 0 then (some (l0, 6)) else ((tallymanref7_room.f k l0 a1).bind fun t216 => (if t216 = 0 then ((tallymanref7_with.f k l0 a1 true ([] : List Int)).bind fun t217 => ((tallymanref7_GoodTree.f k t217).bind fun t220 => (if t220 = true then (some (t217, 0)) else (some (l0, 9))))) else (some (l0, t216)))))) = some (r1, r2) := by rw [if_pos rfl] at H; exact H
   clear H
   have H := H1
   clear H1
   replace H := Option.bind_eq_some_iff.mp H
   obtain ⟨t215, A70, H⟩ := H
   replace H : (if t215 ≥ 0 then (some (l0, 6)) else ((tallymanref7_room.f k l0 a1).bind fun t216 => (if t216 = 0 then ((tallymanref7_with.f k l0 a1 true ([] : List Int)).bind fun t217 => ((tallymanref7_GoodTree.f k t217).bind fun t220 => (if t220 = true then (some (t217, 0)) else (some (l0, 9))))) else (some (l0, t216))))) = some (r1, r2) := H
   have A7 := Aside0.mk A70
   clear A70
   by_cases c8 : t215 ≥ 0
   ·rw [if_pos c8] at H
    have c8b0 : decide (0 ≤ t215) = true := decide_eq_true c8
    clear c8
    simp only [Option.some.injEq, Prod.mk.injEq] at H
    obtain ⟨rfl, rfl⟩ := H
    go_enter Tryz.func9, Tryz.ntmps9
    go_wp2_with (first | ((with_reducible refine gate_callee (f := 48) rfl ?_); refine goesL_ (some 9) rfl rfl Tryz.func48 (by kernel_rfl) rfl #[.slice A0 l0.length c0] rfl (by (try simp only [ca_]); first | done | rfl) ?_; (with_reducible refine (tallymanref7_GoodTree.calls k _ _ l0 true _ ?side1 ?side2 A3.out).mono ?_); (case side1 => exact xC_ (Kd.V_reads' HO0.out).2.2); (case side2 => exact (Kd.V_reads' HO0.out).2.1); rintro e w9 ⟨rfl, hb⟩; refine ⟨_, rfl, ?_⟩; replace HO0 := xa_ (Kd.V_below (xV_ HO0.out) hb); replace HB := xa_ (below_step (xw_ HB.out) hb); (try clear hb); (try clear hb2); (try clear hk); (try clear hi)) | ((with_reducible refine gate_callee (f := 49) rfl ?_); refine goesL_ (some 13) rfl rfl Tryz.func49 (by kernel_rfl) rfl #[.string a1] rfl (by (try simp only [ca_]); first | done | rfl) ?_; (with_reducible refine (tallymanref7_Good.calls a1 true _ A5.out).mono ?_); rintro e w10 ⟨rfl, hb⟩; refine ⟨_, rfl, ?_⟩; replace HO0 := xa_ (Kd.V_below (xV_ HO0.out) hb); replace HB := xa_ (below_step (xw_ HB.out) hb); (try clear hb); (try clear hb2); (try clear hk); (try clear hi)) | ((with_reducible refine gate_callee (f := 51) rfl ?_); refine goesL_ (some 18) rfl rfl Tryz.func51 (by kernel_rfl) rfl #[.slice A0 l0.length c0, .string a1] rfl (by (try simp only [ca_]); first | done | rfl) ?_; (with_reducible refine (tallymanref7_At.calls k _ _ l0 a1 t215 _ ?side1 ?side2 A7.out).mono ?_); (case side1 => exact xC_ (Kd.V_reads' HO0.out).2.2); (case side2 => exact (Kd.V_reads' HO0.out).2.1); rintro e w' ⟨rfl, ⟨nd, rfl⟩⟩; refine ⟨_, rfl, ?_⟩))
    go_ret2
    exact ⟨_, by first | rfl | (simp [*, errW_none, errW_some] <;> rfl), by (with_reducible repeat (first | apply Kd.V_alloc | apply Kd.V_drewN | apply Kd.V_drew)); exact HO0.out, by repeat (first | (with_reducible first | exact HB.out | apply below_alloc | apply pw_below_drewN | apply below_drew1) | exact HB.out)⟩
   ·rw [if_neg c8] at H
    have c8b0 : decide (0 ≤ t215) = false := decide_eq_false c8
    clear c8
    replace H := Option.bind_eq_some_iff.mp H
    obtain ⟨t216, A110, H⟩ := H
    replace H : (if t216 = 0 then ((tallymanref7_with.f k l0 a1 true ([] : List Int)).bind fun t217 => ((tallymanref7_GoodTree.f k t217).bind fun t220 => (if t220 = true then (some (t217, 0)) else (some (l0, 9))))) else (some (l0, t216))) = some (r1, r2) := H
    have A11 := Aside0.mk A110
    clear A110
    by_cases c12 : t216 = 0
    ·rw [if_pos c12] at H
     have c12b0 : (t216 == 0) = true := beq_iff_eq.mpr c12
     have c12b1 : (t216 != 0) = false := bne_eq_false_iff_eq.mpr c12
     clear c12
     replace H := Option.bind_eq_some_iff.mp H
     obtain ⟨t217, A130, H⟩ := H
     replace H : ((tallymanref7_GoodTree.f k t217).bind fun t220 => (if t220 = true then (some (t217, 0)) else (some (l0, 9)))) = some (r1, r2) := H
     have A13 := Aside0.mk A130
     clear A130
     replace H := Option.bind_eq_some_iff.mp H
     obtain ⟨t220, A140, H⟩ := H
     replace H : (if t220 = true then (some (t217, 0)) else (some (l0, 9))) = some (r1, r2) := H
     have A14 := Aside0.mk A140
     clear A140
     by_cases c15 : t220 = true
     ·subst c15
      have H1 : (some (t217, 0)) = some (r1, r2) := by rw [if_pos rfl] at H; exact H
      clear H
      have H := H1
      clear H1
      simp only [Option.some.injEq, Prod.mk.injEq] at H
      obtain ⟨rfl, rfl⟩ := H
      go_enter Tryz.func9, Tryz.ntmps9
      go_wp2_with (first | ((with_reducible refine gate_callee (f := 48) rfl ?_); refine goesL_ (some 9) rfl rfl Tryz.func48 (by kernel_rfl) rfl #[.slice A0 l0.length c0] rfl (by (try simp only [ca_]); first | done | rfl) ?_; (with_reducible refine (tallymanref7_GoodTree.calls k _ _ l0 true _ ?side1 ?side2 A3.out).mono ?_); (case side1 => exact xC_ (Kd.V_reads' HO0.out).2.2); (case side2 => exact (Kd.V_reads' HO0.out).2.1); rintro e w16 ⟨rfl, hb⟩; refine ⟨_, rfl, ?_⟩; replace HO0 := xa_ (Kd.V_below (xV_ HO0.out) hb); replace HB := xa_ (below_step (xw_ HB.out) hb); (try clear hb); (try clear hb2); (try clear hk); (try clear hi)) | ((with_reducible refine gate_callee (f := 49) rfl ?_); refine goesL_ (some 13) rfl rfl Tryz.func49 (by kernel_rfl) rfl #[.string a1] rfl (by (try simp only [ca_]); first | done | rfl) ?_; (with_reducible refine (tallymanref7_Good.calls a1 true _ A5.out).mono ?_); rintro e w17 ⟨rfl, hb⟩; refine ⟨_, rfl, ?_⟩; replace HO0 := xa_ (Kd.V_below (xV_ HO0.out) hb); replace HB := xa_ (below_step (xw_ HB.out) hb); (try clear hb); (try clear hb2); (try clear hk); (try clear hi)) | ((with_reducible refine gate_callee (f := 51) rfl ?_); refine goesL_ (some 18) rfl rfl Tryz.func51 (by kernel_rfl) rfl #[.slice A0 l0.length c0, .string a1] rfl (by (try simp only [ca_]); first | done | rfl) ?_; (with_reducible refine (tallymanref7_At.calls k _ _ l0 a1 t215 _ ?side1 ?side2 A7.out).mono ?_); (case side1 => exact xC_ (Kd.V_reads' HO0.out).2.2); (case side2 => exact (Kd.V_reads' HO0.out).2.1); rintro e w' ⟨rfl, ⟨nd, rfl⟩⟩; refine ⟨_, rfl, ?_⟩) | ((with_reducible refine gate_callee (f := 50) rfl ?_); refine goesL_ (some 23) rfl rfl Tryz.func50 (by kernel_rfl) rfl #[.slice A0 l0.length c0, .string a1] rfl (by (try simp only [ca_]); first | done | rfl) ?_; (with_reducible refine (tallymanref7_room.calls k _ _ l0 a1 t216 _ ?side1 ?side2 A11.out).mono ?_); (case side1 => exact xC_ (Kd.V_reads' HO0.out).2.2); (case side2 => exact (Kd.V_reads' HO0.out).2.1); rintro e w18 ⟨rfl, hb⟩; refine ⟨_, rfl, ?_⟩; replace HO0 := xa_ (Kd.V_below (xV_ HO0.out) hb); replace HB := xa_ (below_step (xw_ HB.out) hb); (try clear hb); (try clear hb2); (try clear hk); (try clear hi)) | ((with_reducible refine gate_callee (f := 52) rfl ?_); refine goesL_ (some 31) rfl rfl Tryz.func52 (by kernel_rfl) rfl #[.slice A0 l0.length c0, .agg #[.string a1, .bool true, .slice none 0 0]] rfl (by (try simp only [ca_]); first | done | rfl) ?_; (refine (tallymanref7_with.calls k (fun k_ => (P0_ k_ ∨ w.heap.size ≤ k_)) _ _ l0 a1 true (fun k_ => False) _ _ ([] : List Int) t217 _ ?side1 ?side2 A13.out).mono ?_); (case side1 => exact HO0.out); (case side2 => exact Kd.V_nil _ _ _ _ _); rintro e w19 ⟨v218, rfl, ho0, hb⟩; refine ⟨_, rfl, ?_⟩; replace HO0 := xa_ (Kd.V_elder' (xV_ HO0.out) (Kd.N_base ho0) hb); replace HO219 := xa_ (Kd.N_lower (Kd.N_mono (ok' := fun k_ => (P0_ k_ ∨ w.heap.size ≤ k_)) ho0 (fun k_ hk_ => Or.elim hk_ (fun hs_ => Or.elim hs_ (fun hs_ => hs_) (fun hs_ => (hs_).elim)) (fun hn_ => (.inr (Nat.le_trans (below_size (xw_ HB.out)) hn_))))) (below_size (xw_ HB.out))); replace HB := xa_ (below_step (xw_ HB.out) hb); (try clear hb); (try clear hb2); (try clear hk); (try clear hi); (try clear ho0); obtain ⟨Ao20, co20, eo20⟩ := Kd.N_slice HO219.out; subst eo20) | ((with_reducible refine gate_callee (f := 48) rfl ?_); refine goesL_ (some 33) rfl rfl Tryz.func48 (by kernel_rfl) rfl #[.slice Ao20 t217.length co20] rfl (by (try simp only [ca_]); first | done | rfl) ?_; (with_reducible refine (tallymanref7_GoodTree.calls k _ _ t217 true _ ?side1 ?side2 A14.out).mono ?_); (case side1 => exact xC_ (Kd.N_reads' HO219.out).2.2); (case side2 => exact (Kd.N_reads' HO219.out).2.1); rintro e w21 ⟨rfl, hb⟩; refine ⟨_, rfl, ?_⟩; replace HO0 := xa_ (Kd.V_below (xV_ HO0.out) hb); replace HO219 := xa_ (Kd.N_below (xN_ HO219.out) hb); replace HB := xa_ (below_step (xw_ HB.out) hb); (try clear hb); (try clear hb2); (try clear hk); (try clear hi)))
      go_ret2
      exact ⟨_, by first | rfl | (simp [*, errW_none, errW_some] <;> rfl), Kd.N_V (xN_ HO219.out), by repeat (first | (with_reducible first | exact HB.out | apply below_alloc | apply pw_below_drewN | apply below_drew1) | exact HB.out)⟩
     ·replace c15 := Bool.eq_false_iff.mpr c15
      subst c15
      have H1 : (some (l0, 9)) = some (r1, r2) := by rw [if_neg (show ¬ (false = true) by decide)] at H; exact H
      clear H
      have H := H1
      clear H1
      simp only [Option.some.injEq, Prod.mk.injEq] at H
      obtain ⟨rfl, rfl⟩ := H
      go_enter Tryz.func9, Tryz.ntmps9
      go_wp2_with (first | ((with_reducible refine gate_callee (f := 48) rfl ?_); refine goesL_ (some 9) rfl rfl Tryz.func48 (by kernel_rfl) rfl #[.slice A0 l0.length c0] rfl (by (try simp only [ca_]); first | done | rfl) ?_; (with_reducible refine (tallymanref7_GoodTree.calls k _ _ l0 true _ ?side1 ?side2 A3.out).mono ?_); (case side1 => exact xC_ (Kd.V_reads' HO0.out).2.2); (case side2 => exact (Kd.V_reads' HO0.out).2.1); rintro e w22 ⟨rfl, hb⟩; refine ⟨_, rfl, ?_⟩; replace HO0 := xa_ (Kd.V_below (xV_ HO0.out) hb); replace HB := xa_ (below_step (xw_ HB.out) hb); (try clear hb); (try clear hb2); (try clear hk); (try clear hi)) | ((with_reducible refine gate_callee (f := 49) rfl ?_); refine goesL_ (some 13) rfl rfl Tryz.func49 (by kernel_rfl) rfl #[.string a1] rfl (by (try simp only [ca_]); first | done | rfl) ?_; (with_reducible refine (tallymanref7_Good.calls a1 true _ A5.out).mono ?_); rintro e w23 ⟨rfl, hb⟩; refine ⟨_, rfl, ?_⟩; replace HO0 := xa_ (Kd.V_below (xV_ HO0.out) hb); replace HB := xa_ (below_step (xw_ HB.out) hb); (try clear hb); (try clear hb2); (try clear hk); (try clear hi)) | ((with_reducible refine gate_callee (f := 51) rfl ?_); refine goesL_ (some 18) rfl rfl Tryz.func51 (by kernel_rfl) rfl #[.slice A0 l0.length c0, .string a1] rfl (by (try simp only [ca_]); first | done | rfl) ?_; (with_reducible refine (tallymanref7_At.calls k _ _ l0 a1 t215 _ ?side1 ?side2 A7.out).mono ?_); (case side1 => exact xC_ (Kd.V_reads' HO0.out).2.2); (case side2 => exact (Kd.V_reads' HO0.out).2.1); rintro e w' ⟨rfl, ⟨nd, rfl⟩⟩; refine ⟨_, rfl, ?_⟩) | ((with_reducible refine gate_callee (f := 50) rfl ?_); refine goesL_ (some 23) rfl rfl Tryz.func50 (by kernel_rfl) rfl #[.slice A0 l0.length c0, .string a1] rfl (by (try simp only [ca_]); first | done | rfl) ?_; (with_reducible refine (tallymanref7_room.calls k _ _ l0 a1 t216 _ ?side1 ?side2 A11.out).mono ?_); (case side1 => exact xC_ (Kd.V_reads' HO0.out).2.2); (case side2 => exact (Kd.V_reads' HO0.out).2.1); rintro e w24 ⟨rfl, hb⟩; refine ⟨_, rfl, ?_⟩; replace HO0 := xa_ (Kd.V_below (xV_ HO0.out) hb); replace HB := xa_ (below_step (xw_ HB.out) hb); (try clear hb); (try clear hb2); (try clear hk); (try clear hi)) | ((with_reducible refine gate_callee (f := 52) rfl ?_); refine goesL_ (some 31) rfl rfl Tryz.func52 (by kernel_rfl) rfl #[.slice A0 l0.length c0, .agg #[.string a1, .bool true, .slice none 0 0]] rfl (by (try simp only [ca_]); first | done | rfl) ?_; (refine (tallymanref7_with.calls k (fun k_ => (P0_ k_ ∨ w.heap.size ≤ k_)) _ _ l0 a1 true (fun k_ => False) _ _ ([] : List Int) t217 _ ?side1 ?side2 A13.out).mono ?_); (case side1 => exact HO0.out); (case side2 => exact Kd.V_nil _ _ _ _ _); rintro e w25 ⟨v218, rfl, ho0, hb⟩; refine ⟨_, rfl, ?_⟩; replace HO0 := xa_ (Kd.V_elder' (xV_ HO0.out) (Kd.N_base ho0) hb); replace HO219 := xa_ (Kd.N_lower (Kd.N_mono (ok' := fun k_ => (P0_ k_ ∨ w.heap.size ≤ k_)) ho0 (fun k_ hk_ => Or.elim hk_ (fun hs_ => Or.elim hs_ (fun hs_ => hs_) (fun hs_ => (hs_).elim)) (fun hn_ => (.inr (Nat.le_trans (below_size (xw_ HB.out)) hn_))))) (below_size (xw_ HB.out))); replace HB := xa_ (below_step (xw_ HB.out) hb); (try clear hb); (try clear hb2); (try clear hk); (try clear hi); (try clear ho0); obtain ⟨Ao26, co26, eo26⟩ := Kd.N_slice HO219.out; subst eo26) | ((with_reducible refine gate_callee (f := 48) rfl ?_); refine goesL_ (some 33) rfl rfl Tryz.func48 (by kernel_rfl) rfl #[.slice Ao26 t217.length co26] rfl (by (try simp only [ca_]); first | done | rfl) ?_; (with_reducible refine (tallymanref7_GoodTree.calls k _ _ t217 false _ ?side1 ?side2 A14.out).mono ?_); (case side1 => exact xC_ (Kd.N_reads' HO219.out).2.2); (case side2 => exact (Kd.N_reads' HO219.out).2.1); rintro e w27 ⟨rfl, hb⟩; refine ⟨_, rfl, ?_⟩; replace HO0 := xa_ (Kd.V_below (xV_ HO0.out) hb); replace HO219 := xa_ (Kd.N_below (xN_ HO219.out) hb); replace HB := xa_ (below_step (xw_ HB.out) hb); (try clear hb); (try clear hb2); (try clear hk); (try clear hi)))
      go_ret2
      exact ⟨_, by first | rfl | (simp [*, errW_none, errW_some] <;> rfl), by (with_reducible repeat (first | apply Kd.V_alloc | apply Kd.V_drewN | apply Kd.V_drew)); exact Kd.V_mono HO0.out (fun _ hk => hk.1), by repeat (first | (with_reducible first | exact HB.out | apply below_alloc | apply pw_below_drewN | apply below_drew1) | exact HB.out)⟩
    ·rw [if_neg c12] at H
     have c12b0 : (t216 == 0) = false := beq_eq_false_iff_ne.mpr c12
     have c12b1 : (t216 != 0) = true := bne_iff_ne.mpr c12
     simp only [Option.some.injEq, Prod.mk.injEq] at H
     obtain ⟨rfl, rfl⟩ := H
     go_enter Tryz.func9, Tryz.ntmps9
     go_wp2_with (first | ((with_reducible refine gate_callee (f := 48) rfl ?_); refine goesL_ (some 9) rfl rfl Tryz.func48 (by kernel_rfl) rfl #[.slice A0 l0.length c0] rfl (by (try simp only [ca_]); first | done | rfl) ?_; (with_reducible refine (tallymanref7_GoodTree.calls k _ _ l0 true _ ?side1 ?side2 A3.out).mono ?_); (case side1 => exact xC_ (Kd.V_reads' HO0.out).2.2); (case side2 => exact (Kd.V_reads' HO0.out).2.1); rintro e w28 ⟨rfl, hb⟩; refine ⟨_, rfl, ?_⟩; replace HO0 := xa_ (Kd.V_below (xV_ HO0.out) hb); replace HB := xa_ (below_step (xw_ HB.out) hb); (try clear hb); (try clear hb2); (try clear hk); (try clear hi)) | ((with_reducible refine gate_callee (f := 49) rfl ?_); refine goesL_ (some 13) rfl rfl Tryz.func49 (by kernel_rfl) rfl #[.string a1] rfl (by (try simp only [ca_]); first | done | rfl) ?_; (with_reducible refine (tallymanref7_Good.calls a1 true _ A5.out).mono ?_); rintro e w29 ⟨rfl, hb⟩; refine ⟨_, rfl, ?_⟩; replace HO0 := xa_ (Kd.V_below (xV_ HO0.out) hb); replace HB := xa_ (below_step (xw_ HB.out) hb); (try clear hb); (try clear hb2); (try clear hk); (try clear hi)) | ((with_reducible refine gate_callee (f := 51) rfl ?_); refine goesL_ (some 18) rfl rfl Tryz.func51 (by kernel_rfl) rfl #[.slice A0 l0.length c0, .string a1] rfl (by (try simp only [ca_]); first | done | rfl) ?_; (with_reducible refine (tallymanref7_At.calls k _ _ l0 a1 t215 _ ?side1 ?side2 A7.out).mono ?_); (case side1 => exact xC_ (Kd.V_reads' HO0.out).2.2); (case side2 => exact (Kd.V_reads' HO0.out).2.1); rintro e w' ⟨rfl, ⟨nd, rfl⟩⟩; refine ⟨_, rfl, ?_⟩) | ((with_reducible refine gate_callee (f := 50) rfl ?_); refine goesL_ (some 23) rfl rfl Tryz.func50 (by kernel_rfl) rfl #[.slice A0 l0.length c0, .string a1] rfl (by (try simp only [ca_]); first | done | rfl) ?_; (with_reducible refine (tallymanref7_room.calls k _ _ l0 a1 t216 _ ?side1 ?side2 A11.out).mono ?_); (case side1 => exact xC_ (Kd.V_reads' HO0.out).2.2); (case side2 => exact (Kd.V_reads' HO0.out).2.1); rintro e w30 ⟨rfl, hb⟩; refine ⟨_, rfl, ?_⟩; replace HO0 := xa_ (Kd.V_below (xV_ HO0.out) hb); replace HB := xa_ (below_step (xw_ HB.out) hb); (try clear hb); (try clear hb2); (try clear hk); (try clear hi)))
     go_ret2
     exact ⟨_, by first | rfl | (simp [*, errW_none, errW_some] <;> rfl), by (with_reducible repeat (first | apply Kd.V_alloc | apply Kd.V_drewN | apply Kd.V_drew)); exact HO0.out, by repeat (first | (with_reducible first | exact HB.out | apply below_alloc | apply pw_below_drewN | apply below_drew1) | exact HB.out)⟩
  ·replace c6 := Bool.eq_false_iff.mpr c6
   subst c6
   have H1 : (some (l0, 4)) = some (r1, r2) := by rw [if_neg (show ¬ (false = true) by decide)] at H; exact H
   clear H
   have H := H1
   clear H1
   simp only [Option.some.injEq, Prod.mk.injEq] at H
   obtain ⟨rfl, rfl⟩ := H
   go_enter Tryz.func9, Tryz.ntmps9
   go_wp2_with (first | ((with_reducible refine gate_callee (f := 48) rfl ?_); refine goesL_ (some 9) rfl rfl Tryz.func48 (by kernel_rfl) rfl #[.slice A0 l0.length c0] rfl (by (try simp only [ca_]); first | done | rfl) ?_; (with_reducible refine (tallymanref7_GoodTree.calls k _ _ l0 true _ ?side1 ?side2 A3.out).mono ?_); (case side1 => exact xC_ (Kd.V_reads' HO0.out).2.2); (case side2 => exact (Kd.V_reads' HO0.out).2.1); rintro e w31 ⟨rfl, hb⟩; refine ⟨_, rfl, ?_⟩; replace HO0 := xa_ (Kd.V_below (xV_ HO0.out) hb); replace HB := xa_ (below_step (xw_ HB.out) hb); (try clear hb); (try clear hb2); (try clear hk); (try clear hi)) | ((with_reducible refine gate_callee (f := 49) rfl ?_); refine goesL_ (some 13) rfl rfl Tryz.func49 (by kernel_rfl) rfl #[.string a1] rfl (by (try simp only [ca_]); first | done | rfl) ?_; (with_reducible refine (tallymanref7_Good.calls a1 false _ A5.out).mono ?_); rintro e w32 ⟨rfl, hb⟩; refine ⟨_, rfl, ?_⟩; replace HO0 := xa_ (Kd.V_below (xV_ HO0.out) hb); replace HB := xa_ (below_step (xw_ HB.out) hb); (try clear hb); (try clear hb2); (try clear hk); (try clear hi)))
   go_ret2
   exact ⟨_, by first | rfl | (simp [*, errW_none, errW_some] <;> rfl), by (with_reducible repeat (first | apply Kd.V_alloc | apply Kd.V_drewN | apply Kd.V_drew)); exact HO0.out, by repeat (first | (with_reducible first | exact HB.out | apply below_alloc | apply pw_below_drewN | apply below_drew1) | exact HB.out)⟩
 ·replace c4 := Bool.eq_false_iff.mpr c4
  subst c4
  have H1 : (some (l0, 1)) = some (r1, r2) := by rw [if_neg (show ¬ (false = true) by decide)] at H; exact H
  clear H
  have H := H1
  clear H1
  simp only [Option.some.injEq, Prod.mk.injEq] at H
  obtain ⟨rfl, rfl⟩ := H
  go_enter Tryz.func9, Tryz.ntmps9
  go_wp2_with (first | ((with_reducible refine gate_callee (f := 48) rfl ?_); refine goesL_ (some 9) rfl rfl Tryz.func48 (by kernel_rfl) rfl #[.slice A0 l0.length c0] rfl (by (try simp only [ca_]); first | done | rfl) ?_; (with_reducible refine (tallymanref7_GoodTree.calls k _ _ l0 false _ ?side1 ?side2 A3.out).mono ?_); (case side1 => exact xC_ (Kd.V_reads' HO0.out).2.2); (case side2 => exact (Kd.V_reads' HO0.out).2.1); rintro e w33 ⟨rfl, hb⟩; refine ⟨_, rfl, ?_⟩; replace HO0 := xa_ (Kd.V_below (xV_ HO0.out) hb); replace HB := xa_ (below_step (xw_ HB.out) hb); (try clear hb); (try clear hb2); (try clear hk); (try clear hi)))
  go_ret2
  exact ⟨_, by first | rfl | (simp [*, errW_none, errW_some] <;> rfl), by (with_reducible repeat (first | apply Kd.V_alloc | apply Kd.V_drewN | apply Kd.V_drew)); exact HO0.out, by repeat (first | (with_reducible first | exact HB.out | apply below_alloc | apply pw_below_drewN | apply below_drew1) | exact HB.out)⟩
def tallymanref7_Put.j0 : Nat → List (S45) → ByteArray → List Int → Bool → Option ((List (S45)) × Int)
 | 0, _, _, _, _ => none
 | k + 1, x0, x1, x2, x37 => if x37 = true then (some (x0, 7)) else ((some (([] : List Int) : List Int)).bind fun y203 => (if y203.length + x2.length < 140737488355328 then ((tallymanref7_with.f k x0 x1 false (y203 ++ x2)).bind fun t209 => ((tallymanref7_GoodTree.f k t209).bind fun t212 => (if t212 = true then (some (t209, 0)) else (some (x0, 9))))) else (none)))
def tallymanref7_Put.f (k : Nat) (l0 : List (S45)) (a1 : ByteArray) (l2 : List Int) : Option ((List (S45)) × Int) := (tallymanref7_GoodTree.f k l0).bind fun t198 => (if t198 = true then ((tallymanref7_Good.f a1).bind fun t199 => (if t199 = true then ((tallymanref7_room.f k l0 a1).bind fun t200 => (if t200 = 0 then ((tallymanref7_At.f k l0 a1).bind fun t201 => (if t201 ≥ 0 then (if 0 ≤ t201 then (if t201 < (l0.length : Int) then (tallymanref7_Put.j0 k l0 a1 l2 ((rd_T45 l0 t201).f1)) else (none)) else (none)) else (tallymanref7_Put.j0 k l0 a1 l2 false))) else (some (l0, t200)))) else (some (l0, 4)))) else (some (l0, 1)))
theorem tallymanref7_Put.calls (k : Nat) (P0_ : Nat → Prop) (A0 : Option Addr) (c0 : Nat) (l0 : List (S45)) (a1 : ByteArray) (A2 : Option Addr) (c2 : Nat) (l2 : List Int) (r1 : List (S45)) (r2 : Int) (w : World) (hs0 : Kd.V k45 45 w w.heap.size (fun k_ => P0_ k_) (.slice A0 l0.length c0) l0) (hr2 : Kd.C (Kd.int .u8) w A2 l2.length l2) (hc2 : l2.length ≤ c2) (h : tallymanref7_Put.f k l0 a1 l2 = some (r1, r2)) :
  Calls Tryz.prog 7 #[.slice A0 l0.length c0, .string a1, .slice A2 l2.length c2] w fun e w' => ∃ v0_ : Value, e = .returned (.tuple #[v0_, .int .i64 r2]) ∧ Kd.V k45 45 w' w.heap.size (fun k_ => (P0_ k_ ∨ w.heap.size ≤ k_)) v0_ r1 ∧ Below w.heap.size w w' := by
 have hu45 := Tryz.underlying45
 have HO0 := xa_ (show Kd.V k45 45 w w.heap.size (fun k_ => (P0_ k_ ∨ w.heap.size ≤ k_)) (.slice A0 l0.length c0) l0 from Kd.V_mono hs0 (fun k_ hk => .inl hk))
 have HR2 := Aside0.mk hr2
 have HC2 := Aside0.mk hc2
 clear hr2 hc2
 have HB := xa_ (Below.refl w.heap.size w)
 have H : ((tallymanref7_GoodTree.f k l0).bind fun t198 => (if t198 = true then ((tallymanref7_Good.f a1).bind fun t199 => (if t199 = true then ((tallymanref7_room.f k l0 a1).bind fun t200 => (if t200 = 0 then ((tallymanref7_At.f k l0 a1).bind fun t201 => (if t201 ≥ 0 then (if 0 ≤ t201 then (if t201 < (l0.length : Int) then (tallymanref7_Put.j0 k l0 a1 l2 ((rd_T45 l0 t201).f1)) else (none)) else (none)) else (tallymanref7_Put.j0 k l0 a1 l2 false))) else (some (l0, t200)))) else (some (l0, 4)))) else (some (l0, 1)))) = some (r1, r2) := h
 clear h
 replace H := Option.bind_eq_some_iff.mp H
 obtain ⟨t198, A40, H⟩ := H
 replace H : (if t198 = true then ((tallymanref7_Good.f a1).bind fun t199 => (if t199 = true then ((tallymanref7_room.f k l0 a1).bind fun t200 => (if t200 = 0 then ((tallymanref7_At.f k l0 a1).bind fun t201 => (if t201 ≥ 0 then (if 0 ≤ t201 then (if t201 < (l0.length : Int) then (tallymanref7_Put.j0 k l0 a1 l2 ((rd_T45 l0 t201).f1)) else (none)) else (none)) else (tallymanref7_Put.j0 k l0 a1 l2 false))) else (some (l0, t200)))) else (some (l0, 4)))) else (some (l0, 1))) = some (r1, r2) := H
 have A4 := Aside0.mk A40
 clear A40
 by_cases c5 : t198 = true
 ·subst c5
  have H1 : ((tallymanref7_Good.f a1).bind fun t199 => (if t199 = true then ((tallymanref7_room.f k l0 a1).bind fun t200 => (if t200 = 0 then ((tallymanref7_At.f k l0 a1).bind fun t201 => (if t201 ≥ 0 then (if 0 ≤ t201 then (if t201 < (l0.length : Int) then (tallymanref7_Put.j0 k l0 a1 l2 ((rd_T45 l0 t201).f1)) else (none)) else (none)) else (tallymanref7_Put.j0 k l0 a1 l2 false))) else (some (l0, t200)))) else (some (l0, 4)))) = some (r1, r2) := by rw [if_pos rfl] at H; exact H
  clear H
  have H := H1
  clear H1
  replace H := Option.bind_eq_some_iff.mp H
  obtain ⟨t199, A60, H⟩ := H
  replace H : (if t199 = true then ((tallymanref7_room.f k l0 a1).bind fun t200 => (if t200 = 0 then ((tallymanref7_At.f k l0 a1).bind fun t201 => (if t201 ≥ 0 then (if 0 ≤ t201 then (if t201 < (l0.length : Int) then (tallymanref7_Put.j0 k l0 a1 l2 ((rd_T45 l0 t201).f1)) else (none)) else (none)) else (tallymanref7_Put.j0 k l0 a1 l2 false))) else (some (l0, t200)))) else (some (l0, 4))) = some (r1, r2) := H
  have A6 := Aside0.mk A60
  clear A60
  by_cases c7 : t199 = true
  ·subst c7
   have H1 : ((tallymanref7_room.f k l0 a1).bind fun t200 => (if t200 = 0 then ((tallymanref7_At.f k l0 a1).bind fun t201 => (if t201 ≥ 0 then (if 0 ≤ t201 then (if t201 < (l0.length : Int) then (tallymanref7_Put.j0 k l0 a1 l2 ((rd_T45 l0 t201).f1)) else (none)) else (none)) else (tallymanref7_Put.j0 k l0 a1 l2 false))) else (some (l0, t200)))) = some (r1, r2) := by rw [if_pos rfl] at H; exact H
   clear H
   have H := H1
   clear H1
   replace H := Option.bind_eq_some_iff.mp H
   obtain ⟨t200, A80, H⟩ := H
   replace H : (if t200 = 0 then ((tallymanref7_At.f k l0 a1).bind fun t201 => (if t201 ≥ 0 then (if 0 ≤ t201 then (if t201 < (l0.length : Int) then (tallymanref7_Put.j0 k l0 a1 l2 ((rd_T45 l0 t201).f1)) else (none)) else (none)) else (tallymanref7_Put.j0 k l0 a1 l2 false))) else (some (l0, t200))) = some (r1, r2) := H
   have A8 := Aside0.mk A80
   clear A80
   by_cases c9 : t200 = 0
   ·rw [if_pos c9] at H
    have c9b0 : (t200 == 0) = true := beq_iff_eq.mpr c9
    have c9b1 : (t200 != 0) = false := bne_eq_false_iff_eq.mpr c9
    clear c9
    replace H := Option.bind_eq_some_iff.mp H
    obtain ⟨t201, A100, H⟩ := H
    replace H : (if t201 ≥ 0 then (if 0 ≤ t201 then (if t201 < (l0.length : Int) then (tallymanref7_Put.j0 k l0 a1 l2 ((rd_T45 l0 t201).f1)) else (none)) else (none)) else (tallymanref7_Put.j0 k l0 a1 l2 false)) = some (r1, r2) := H
    have A10 := Aside0.mk A100
    clear A100
    have HC11 := Aside0.mk H
    clear H
    go_enter Tryz.func7, Tryz.ntmps7
    go_upto_region 9 with (first | ((with_reducible refine gate_callee (f := 48) rfl ?_); refine goesL_ (some 12) rfl rfl Tryz.func48 (by kernel_rfl) rfl #[.slice A0 l0.length c0] rfl (by (try simp only [ca_]); first | done | rfl) ?_; (with_reducible refine (tallymanref7_GoodTree.calls k _ _ l0 true _ ?side1 ?side2 A4.out).mono ?_); (case side1 => exact xC_ (Kd.V_reads' HO0.out).2.2); (case side2 => exact (Kd.V_reads' HO0.out).2.1); rintro e w12 ⟨rfl, hb⟩; refine ⟨_, rfl, ?_⟩; replace HO0 := xa_ (Kd.V_below (xV_ HO0.out) hb); replace HB := xa_ (below_step (xw_ HB.out) hb); (try clear hb); (try clear hb2); (try clear hk); (try clear hi)) | ((with_reducible refine gate_callee (f := 49) rfl ?_); refine goesL_ (some 16) rfl rfl Tryz.func49 (by kernel_rfl) rfl #[.string a1] rfl (by (try simp only [ca_]); first | done | rfl) ?_; (with_reducible refine (tallymanref7_Good.calls a1 true _ A6.out).mono ?_); rintro e w13 ⟨rfl, hb⟩; refine ⟨_, rfl, ?_⟩; replace HO0 := xa_ (Kd.V_below (xV_ HO0.out) hb); replace HB := xa_ (below_step (xw_ HB.out) hb); (try clear hb); (try clear hb2); (try clear hk); (try clear hi)) | ((with_reducible refine gate_callee (f := 50) rfl ?_); refine goesL_ (some 21) rfl rfl Tryz.func50 (by kernel_rfl) rfl #[.slice A0 l0.length c0, .string a1] rfl (by (try simp only [ca_]); first | done | rfl) ?_; (with_reducible refine (tallymanref7_room.calls k _ _ l0 a1 t200 _ ?side1 ?side2 A8.out).mono ?_); (case side1 => exact xC_ (Kd.V_reads' HO0.out).2.2); (case side2 => exact (Kd.V_reads' HO0.out).2.1); rintro e w14 ⟨rfl, hb⟩; refine ⟨_, rfl, ?_⟩; replace HO0 := xa_ (Kd.V_below (xV_ HO0.out) hb); replace HB := xa_ (below_step (xw_ HB.out) hb); (try clear hb); (try clear hb2); (try clear hk); (try clear hi)) | ((with_reducible refine gate_callee (f := 51) rfl ?_); refine goesL_ (some 28) rfl rfl Tryz.func51 (by kernel_rfl) rfl #[.slice A0 l0.length c0, .string a1] rfl (by (try simp only [ca_]); first | done | rfl) ?_; (with_reducible refine (tallymanref7_At.calls k _ _ l0 a1 t201 _ ?side1 ?side2 A10.out).mono ?_); (case side1 => exact xC_ (Kd.V_reads' HO0.out).2.2); (case side2 => exact (Kd.V_reads' HO0.out).2.1); rintro e w' ⟨rfl, ⟨nd, rfl⟩⟩; refine ⟨_, rfl, ?_⟩))
    (try simp only [Act.put, List.setIfInBounds_toArray, List.set_cons_zero, List.set_cons_succ])
    go_cut [37] (fun v37 wc => ∃ (kq : Nat) (x37_10 : Bool), v37 = .bool x37_10 ∧ Aside0 (tallymanref7_Put.j0 kq l0 a1 l2 x37_10 = some (r1, r2)) ∧ Aside0 (kq ≤ k) ∧ Aside0 (Kd.V k45 45 wc w.heap.size (fun k_ => (P0_ k_ ∨ w.heap.size ≤ k_)) (.slice A0 l0.length c0) l0) ∧ Aside0 (Below w.heap.size w wc))
    case first =>
     have H := HC11.out
     clear HC11
     by_cases c15 : t201 ≥ 0
     ·rw [if_pos c15] at H
      have c15b0 : decide (0 ≤ t201) = true := decide_eq_true c15
      clear c15
      (first | rw [c15b0] | (simp only [i64_w, i32_w]; rw [c15b0]) | skip)
      by_cases c16 : 0 ≤ t201
      ·rw [if_pos c16] at H
       have c16b0 : decide (0 ≤ t201) = true := decide_eq_true c16
       clear c16
       by_cases c17 : t201 < (l0.length : Int)
       ·rw [if_pos c17] at H
        have c17b0 : decide (t201 < (l0.length : Int)) = true := decide_eq_true c17
        clear c17
        have H' := Aside0.mk H
        clear H
        have p202 : 0 ≤ (t201 : Int) := of_decide_eq_true (by first | (with_reducible assumption) | assumption)
        have q202 : t201 < (l0.length : Int) := of_decide_eq_true (by first | (with_reducible assumption) | assumption)
        obtain ⟨ad202, A202_2, c202_2, e202, hx202_0, hx202_1, hx202_2, hl202_2, hi202_2⟩ := at_T45 (Kd.V_reads' HO0.out).2.2 t201 p202 q202
        cases e202
        obtain ⟨ce202, hce202, hMe202, hcc202⟩ := Kd.V_get HO0.out z45 t201 p202 (by first | exact q202 | exact of_decide_eq_true (by first | (with_reducible assumption) | assumption) | (have e_ := (Kd.V_reads' HO0.out).1; omega))
        obtain ⟨ua202_2, uc202_2, rfl, ul202_2, ge202_2⟩ := k45_openF hMe202
        have hv202_2 := hcc202 2 _ rfl
        rw [add_field _ _ 2 (by omega)] at hv202_2
        replace hv202_2 := Option.some.inj (hv202_2.symm.trans hx202_2)
        injection hv202_2 with hva_ hvn_ hvc_
        rw [hva_] at ge202_2
        rw [hvc_] at ul202_2
        have HL202_2 := xa_ (show Kd.V (Kd.int .u8) 5 _ w.heap.size _ _ ((rd_T45 l0 t201).f2) from Kd.V_mk ul202_2 ge202_2)
        clear hva_ hvn_ hvc_ ge202_2 ul202_2
        clear hcc202 hce202
        have HR202_2 := Aside0.mk hi202_2
        have HC202_2 := Aside0.mk hl202_2
        clear hi202_2 hl202_2
        replace p202 := eq_true p202
        replace q202 := eq_true q202
        go_wp2
        go_meet
        case rel => exact ⟨_, ((rd_T45 l0 t201).f1), (by first | rfl | (simp; done) | (simp [*]; done)), H', ⟨by first | omega | exact Nat.le_refl _⟩, ⟨by (with_reducible repeat (first | apply Kd.V_alloc | apply Kd.V_drewN | apply Kd.V_drew)); exact HO0.out⟩, ⟨by repeat (first | (with_reducible first | exact HB.out | apply below_alloc | apply pw_below_drewN | apply below_drew1) | exact HB.out)⟩⟩
       ·rw [if_neg c17] at H
        exact absurd H (by simp)
      ·rw [if_neg c16] at H
       exact absurd H (by simp)
     ·rw [if_neg c15] at H
      have c15b0 : decide (0 ≤ t201) = false := decide_eq_false c15
      clear c15
      (first | rw [c15b0] | (simp only [i64_w, i32_w]; rw [c15b0]) | skip)
      have H' := Aside0.mk H
      clear H
      go_wp2
      go_meet
      case rel => exact ⟨_, (false), (by first | rfl | (simp; done) | (simp [*]; done)), H', ⟨by first | omega | exact Nat.le_refl _⟩, ⟨by (with_reducible repeat (first | apply Kd.V_alloc | apply Kd.V_drewN | apply Kd.V_drew)); exact HO0.out⟩, ⟨by repeat (first | (with_reducible first | exact HB.out | apply below_alloc | apply pw_below_drewN | apply below_drew1) | exact HB.out)⟩⟩
    case rest =>
     clear HC11
     try clear c1
     try clear c2
     try clear p2
     try clear q2
     try clear hx2
     try clear c4
     try clear c5
     try clear c7
     try clear c9
     try clear c9b0
     try clear c9b1
     try clear c15
     try clear c15b0
     try clear c16
     try clear c16b0
     try clear c17
     try clear c17b0
     try clear hx202_0
     try clear hx202_1
     try clear hx202_2
     try clear p202
     try clear q202
     obtain ⟨kq, x37_10, rfl, HA, HJ10, HO_0, HB⟩ := hcut
     cases kq with
     | zero => exact absurd HA.out (by simp [tallymanref7_Put.j0])
     | succ kj10 =>
      have H := HA.out
      clear HA
      simp only [tallymanref7_Put.j0] at H
      by_cases c18 : x37_10 = true
      ·subst c18
       have H1 : (some (l0, 7)) = some (r1, r2) := by rw [if_pos rfl] at H; exact H
       clear H
       have H := H1
       clear H1
       simp only [Option.some.injEq, Prod.mk.injEq] at H
       obtain ⟨rfl, rfl⟩ := H
       go_wp2
       go_ret2
       exact ⟨_, by first | rfl | (simp [*, errW_none, errW_some] <;> rfl), by (with_reducible repeat (first | apply Kd.V_alloc | apply Kd.V_drewN | apply Kd.V_drew)); exact HO_0.out, by repeat (first | (with_reducible first | exact HB.out | apply below_alloc | apply pw_below_drewN | apply below_drew1) | exact HB.out)⟩
      ·replace c18 := Bool.eq_false_iff.mpr c18
       subst c18
       have H1 : ((some (([] : List Int) : List Int)).bind fun y203 => (if y203.length + l2.length < 140737488355328 then ((tallymanref7_with.f kj10 l0 a1 false (y203 ++ l2)).bind fun t209 => ((tallymanref7_GoodTree.f kj10 t209).bind fun t212 => (if t212 = true then (some (t209, 0)) else (some (l0, 9))))) else (none))) = some (r1, r2) := by rw [if_neg (show ¬ (false = true) by decide)] at H; exact H
       clear H
       have H := H1
       clear H1
       obtain ⟨y203, hy203⟩ : ∃ y_ : List Int, y_ = (([] : List Int)) := ⟨_, rfl⟩
       replace H : (if y203.length + l2.length < 140737488355328 then ((tallymanref7_with.f kj10 l0 a1 false (y203 ++ l2)).bind fun t209 => ((tallymanref7_GoodTree.f kj10 t209).bind fun t212 => (if t212 = true then (some (t209, 0)) else (some (l0, 9))))) else (none)) = some (r1, r2) := by first | (rw [hy203]; with_reducible exact H) | (have H2_ := (Option.bind_some _ _).symm.trans H; rw [hy203]; with_reducible exact H2_) | (have H2_ := (Option.bind_some _ _).symm.trans H; with_reducible exact H2_) | with_reducible exact H | (rw [hy203]; exact H) | exact H
       have Ny203 := Aside0.mk hy203
       clear hy203
       by_cases c19 : y203.length + l2.length < 140737488355328
       ·rw [if_pos c19] at H
        have LMc19 := Aside0.mk c19
        clear c19
        obtain ⟨y206, hy206⟩ : ∃ y_ : List Int, y_ = (y203 ++ l2) := ⟨_, rfl⟩
        replace H : ((tallymanref7_with.f kj10 l0 a1 false y206).bind fun t209 => ((tallymanref7_GoodTree.f kj10 t209).bind fun t212 => (if t212 = true then (some (t209, 0)) else (some (l0, 9))))) = some (r1, r2) := by first | (rw [hy206]; with_reducible exact H) | (have H2_ := (Option.bind_some _ _).symm.trans H; rw [hy206]; with_reducible exact H2_) | (have H2_ := (Option.bind_some _ _).symm.trans H; with_reducible exact H2_) | with_reducible exact H | (rw [hy206]; exact H) | exact H
        have Ny206 := Aside0.mk hy206
        clear hy206
        replace H := Option.bind_eq_some_iff.mp H
        obtain ⟨t209, A200, H⟩ := H
        replace H : ((tallymanref7_GoodTree.f kj10 t209).bind fun t212 => (if t212 = true then (some (t209, 0)) else (some (l0, 9)))) = some (r1, r2) := H
        have A20 := Aside0.mk A200
        clear A200
        replace H := Option.bind_eq_some_iff.mp H
        obtain ⟨t212, A210, H⟩ := H
        replace H : (if t212 = true then (some (t209, 0)) else (some (l0, 9))) = some (r1, r2) := H
        have A21 := Aside0.mk A210
        clear A210
        by_cases c22 : t212 = true
        ·subst c22
         have H1 : (some (t209, 0)) = some (r1, r2) := by rw [if_pos rfl] at H; exact H
         clear H
         have H := H1
         clear H1
         simp only [Option.some.injEq, Prod.mk.injEq] at H
         obtain ⟨rfl, rfl⟩ := H
         go_wp2_with (first | ((with_reducible refine gate_dst (N := 41) rfl ?_); refine Kd.R_lit (Kd.int .u8) _ 5 ?hg (N := 41) ?hd (xs := ([] : List Int)) (inner := []) (ok := fun _ => True) (okp := fun _ => True) ?hr ?hp (fun _ hk => hk) trivial (Below.refl _ _) (Nat.le_refl _) (by simp) ?_; (case hd => rfl); (case hg => rfl); (case hr => first | (go_simp; done) | (go_simp; rfl)); (case hp => exact (Reps.none _ _)); intro v204 w23 ho24 hb hg_ hnew_; clear hg_ hnew_; (first | rw [← Ny203.out] at ho24 | (simp only [Int.reduceToNat] at ho24; rw [← Ny203.out] at ho24)); replace HO_0 := xa_ (Kd.V_elder' (xV_ HO_0.out) (Kd.R_base ho24) hb); replace HO205 := xa_ (Kd.R_lower (Kd.R_newM (M := fun k_ => (w.heap.size ≤ k_)) ho24 (below_size (xw_ HB.out)) (fun k_ h_ => h_)) (below_size (xw_ HB.out))); replace HB := xa_ (below_step (xw_ HB.out) hb); clear hb ho24) | ((with_reducible refine gate_builtin (b := .append) (xs := #[.tmp 41, .tmp 42]) rfl ?_); at_builtin; refine Kd.R_append_rows (Kd.int .u8) (w0 := w) w.heap.size rfl (.tmp 41) (.tmp 42) 29 5 (.int .u8 0) 1 rfl Tryz.underlying29 info5 rfl (by decide) (by omega) v204 y203 l2 _ _ _ (fun k_ => (w.heap.size ≤ k_)) (fun _ => False) rfl rfl ?aO ?aR (fun _ _ h => h) (fun _ h => h.elim) ?aF ?aB ?aS ?aL ?_; (case aR => exact xC_ (Kd.C_below HR2.out HB.out)); (case aB => exact (xw_ HB.out)); (case aF => exact (fun k_ hk => (Nat.le_trans (below_size (xw_ HB.out)) hk))); (case aO => exact (by (with_reducible repeat (first | apply Kd.R_alloc | apply Kd.R_drewN | apply Kd.R_drew)); exact Kd.R_mono HO205.out (fun _ hk => hk.1))); (case aS => exact (below_size (xw_ HB.out))); (case aL => have := LMc19.out; omega); intro v207 w25 ho hb hg hat; rw [← Ny206.out] at ho; replace HO_0 := xa_ (Kd.V_afterv (ok := (fun k_ => (P0_ k_ ∨ w.heap.size ≤ k_))) (xV_ HO_0.out) hg hat); replace HB := xa_ (hb); replace HO208 := xa_ (ho); clear ho hb hg hat; obtain ⟨Ao26, co26, eo26⟩ := Kd.R_slice HO208.out; subst eo26) | ((with_reducible refine gate_callee (f := 52) rfl ?_); refine goesL_ (some 45) rfl rfl Tryz.func52 (by kernel_rfl) rfl #[.slice A0 l0.length c0, .agg #[.string a1, .bool false, .slice Ao26 y206.length co26]] rfl (by (try simp only [ca_]); first | done | rfl) ?_; (with_reducible refine (tallymanref7_with.calls kj10 (fun k_ => ((P0_ k_ ∨ w.heap.size ≤ k_) ∧ some k_ ≠ (.slice Ao26 y206.length co26 : Value).ownBlock)) _ _ l0 a1 false (fun k_ => some k_ = (.slice Ao26 y206.length co26 : Value).ownBlock) _ _ y206 t209 _ ?side1 ?side2 A20.out).mono ?_); (case side1 => exact HO_0.out); (case side2 => exact Kd.R_V (Kd.R_tight rfl (HO208.out))); rintro e w27 ⟨v210, rfl, ho0, hb⟩; refine ⟨_, rfl, ?_⟩; have HO211 := xa_ (Kd.N_lower (Kd.N_mono (ok' := fun k_ => (P0_ k_ ∨ w.heap.size ≤ k_)) ho0 (fun k_ hk_ => Or.elim hk_ (fun hs_ => Or.elim hs_ (fun hs_ => hs_.1) (fun hs_ => (.inr (((HO208.out).1 k_ hs_.symm))))) (fun hn_ => (.inr (Nat.le_trans (below_size (xw_ HB.out)) hn_))))) (below_size (xw_ HB.out))); replace HO_0 := xa_ (Kd.V_elder' (xV_ HO_0.out) (Kd.N_base ho0) hb); replace HO208 := xa_ (Kd.R_below (xR_ HO208.out) hb); replace HB := xa_ (below_step (xw_ HB.out) hb); (try clear hb); (try clear hb2); (try clear hk); (try clear hi); (try clear ho0); obtain ⟨Ao28, co28, eo28⟩ := Kd.N_slice HO211.out; subst eo28) | ((with_reducible refine gate_callee (f := 48) rfl ?_); refine goesL_ (some 47) rfl rfl Tryz.func48 (by kernel_rfl) rfl #[.slice Ao28 t209.length co28] rfl (by (try simp only [ca_]); first | done | rfl) ?_; (with_reducible refine (tallymanref7_GoodTree.calls kj10 _ _ t209 true _ ?side1 ?side2 A21.out).mono ?_); (case side1 => exact xC_ (Kd.N_reads' HO211.out).2.2); (case side2 => exact (Kd.N_reads' HO211.out).2.1); rintro e w29 ⟨rfl, hb⟩; refine ⟨_, rfl, ?_⟩; replace HO_0 := xa_ (Kd.V_below (xV_ HO_0.out) hb); replace HO208 := xa_ (Kd.R_below (xR_ HO208.out) hb); replace HO211 := xa_ (Kd.N_below (xN_ HO211.out) hb); replace HB := xa_ (below_step (xw_ HB.out) hb); (try clear hb); (try clear hb2); (try clear hk); (try clear hi)))
         go_ret2
         exact ⟨_, by first | rfl | (simp [*, errW_none, errW_some] <;> rfl), Kd.N_V (xN_ HO211.out), by repeat (first | (with_reducible first | exact HB.out | apply below_alloc | apply pw_below_drewN | apply below_drew1) | exact HB.out)⟩
        ·replace c22 := Bool.eq_false_iff.mpr c22
         subst c22
         have H1 : (some (l0, 9)) = some (r1, r2) := by rw [if_neg (show ¬ (false = true) by decide)] at H; exact H
         clear H
         have H := H1
         clear H1
         simp only [Option.some.injEq, Prod.mk.injEq] at H
         obtain ⟨rfl, rfl⟩ := H
         go_wp2_with (first | ((with_reducible refine gate_dst (N := 41) rfl ?_); refine Kd.R_lit (Kd.int .u8) _ 5 ?hg (N := 41) ?hd (xs := ([] : List Int)) (inner := []) (ok := fun _ => True) (okp := fun _ => True) ?hr ?hp (fun _ hk => hk) trivial (Below.refl _ _) (Nat.le_refl _) (by simp) ?_; (case hd => rfl); (case hg => rfl); (case hr => first | (go_simp; done) | (go_simp; rfl)); (case hp => exact (Reps.none _ _)); intro v204 w30 ho31 hb hg_ hnew_; clear hg_ hnew_; (first | rw [← Ny203.out] at ho31 | (simp only [Int.reduceToNat] at ho31; rw [← Ny203.out] at ho31)); replace HO_0 := xa_ (Kd.V_elder' (xV_ HO_0.out) (Kd.R_base ho31) hb); replace HO205 := xa_ (Kd.R_lower (Kd.R_newM (M := fun k_ => (w.heap.size ≤ k_)) ho31 (below_size (xw_ HB.out)) (fun k_ h_ => h_)) (below_size (xw_ HB.out))); replace HB := xa_ (below_step (xw_ HB.out) hb); clear hb ho31) | ((with_reducible refine gate_builtin (b := .append) (xs := #[.tmp 41, .tmp 42]) rfl ?_); at_builtin; refine Kd.R_append_rows (Kd.int .u8) (w0 := w) w.heap.size rfl (.tmp 41) (.tmp 42) 29 5 (.int .u8 0) 1 rfl Tryz.underlying29 info5 rfl (by decide) (by omega) v204 y203 l2 _ _ _ (fun k_ => (w.heap.size ≤ k_)) (fun _ => False) rfl rfl ?aO ?aR (fun _ _ h => h) (fun _ h => h.elim) ?aF ?aB ?aS ?aL ?_; (case aR => exact xC_ (Kd.C_below HR2.out HB.out)); (case aB => exact (xw_ HB.out)); (case aF => exact (fun k_ hk => (Nat.le_trans (below_size (xw_ HB.out)) hk))); (case aO => exact (by (with_reducible repeat (first | apply Kd.R_alloc | apply Kd.R_drewN | apply Kd.R_drew)); exact Kd.R_mono HO205.out (fun _ hk => hk.1))); (case aS => exact (below_size (xw_ HB.out))); (case aL => have := LMc19.out; omega); intro v207 w32 ho hb hg hat; rw [← Ny206.out] at ho; replace HO_0 := xa_ (Kd.V_afterv (ok := (fun k_ => (P0_ k_ ∨ w.heap.size ≤ k_))) (xV_ HO_0.out) hg hat); replace HB := xa_ (hb); replace HO208 := xa_ (ho); clear ho hb hg hat; obtain ⟨Ao33, co33, eo33⟩ := Kd.R_slice HO208.out; subst eo33) | ((with_reducible refine gate_callee (f := 52) rfl ?_); refine goesL_ (some 45) rfl rfl Tryz.func52 (by kernel_rfl) rfl #[.slice A0 l0.length c0, .agg #[.string a1, .bool false, .slice Ao33 y206.length co33]] rfl (by (try simp only [ca_]); first | done | rfl) ?_; (with_reducible refine (tallymanref7_with.calls kj10 (fun k_ => ((P0_ k_ ∨ w.heap.size ≤ k_) ∧ some k_ ≠ (.slice Ao33 y206.length co33 : Value).ownBlock)) _ _ l0 a1 false (fun k_ => some k_ = (.slice Ao33 y206.length co33 : Value).ownBlock) _ _ y206 t209 _ ?side1 ?side2 A20.out).mono ?_); (case side1 => exact HO_0.out); (case side2 => exact Kd.R_V (Kd.R_tight rfl (HO208.out))); rintro e w34 ⟨v210, rfl, ho0, hb⟩; refine ⟨_, rfl, ?_⟩; have HO211 := xa_ (Kd.N_lower (Kd.N_mono (ok' := fun k_ => (P0_ k_ ∨ w.heap.size ≤ k_)) ho0 (fun k_ hk_ => Or.elim hk_ (fun hs_ => Or.elim hs_ (fun hs_ => hs_.1) (fun hs_ => (.inr (((HO208.out).1 k_ hs_.symm))))) (fun hn_ => (.inr (Nat.le_trans (below_size (xw_ HB.out)) hn_))))) (below_size (xw_ HB.out))); replace HO_0 := xa_ (Kd.V_elder' (xV_ HO_0.out) (Kd.N_base ho0) hb); replace HO208 := xa_ (Kd.R_below (xR_ HO208.out) hb); replace HB := xa_ (below_step (xw_ HB.out) hb); (try clear hb); (try clear hb2); (try clear hk); (try clear hi); (try clear ho0); obtain ⟨Ao35, co35, eo35⟩ := Kd.N_slice HO211.out; subst eo35) | ((with_reducible refine gate_callee (f := 48) rfl ?_); refine goesL_ (some 47) rfl rfl Tryz.func48 (by kernel_rfl) rfl #[.slice Ao35 t209.length co35] rfl (by (try simp only [ca_]); first | done | rfl) ?_; (with_reducible refine (tallymanref7_GoodTree.calls kj10 _ _ t209 false _ ?side1 ?side2 A21.out).mono ?_); (case side1 => exact xC_ (Kd.N_reads' HO211.out).2.2); (case side2 => exact (Kd.N_reads' HO211.out).2.1); rintro e w36 ⟨rfl, hb⟩; refine ⟨_, rfl, ?_⟩; replace HO_0 := xa_ (Kd.V_below (xV_ HO_0.out) hb); replace HO208 := xa_ (Kd.R_below (xR_ HO208.out) hb); replace HO211 := xa_ (Kd.N_below (xN_ HO211.out) hb); replace HB := xa_ (below_step (xw_ HB.out) hb); (try clear hb); (try clear hb2); (try clear hk); (try clear hi)))
         go_ret2
         exact ⟨_, by first | rfl | (simp [*, errW_none, errW_some] <;> rfl), by (with_reducible repeat (first | apply Kd.V_alloc | apply Kd.V_drewN | apply Kd.V_drew)); exact Kd.V_mono HO_0.out (fun _ hk => hk.1.1), by repeat (first | (with_reducible first | exact HB.out | apply below_alloc | apply pw_below_drewN | apply below_drew1) | exact HB.out)⟩
       ·rw [if_neg c19] at H
        exact absurd H (by simp)
   ·rw [if_neg c9] at H
    have c9b0 : (t200 == 0) = false := beq_eq_false_iff_ne.mpr c9
    have c9b1 : (t200 != 0) = true := bne_iff_ne.mpr c9
    simp only [Option.some.injEq, Prod.mk.injEq] at H
    obtain ⟨rfl, rfl⟩ := H
    go_enter Tryz.func7, Tryz.ntmps7
    go_wp2_with (first | ((with_reducible refine gate_callee (f := 48) rfl ?_); refine goesL_ (some 12) rfl rfl Tryz.func48 (by kernel_rfl) rfl #[.slice A0 l0.length c0] rfl (by (try simp only [ca_]); first | done | rfl) ?_; (with_reducible refine (tallymanref7_GoodTree.calls k _ _ l0 true _ ?side1 ?side2 A4.out).mono ?_); (case side1 => exact xC_ (Kd.V_reads' HO0.out).2.2); (case side2 => exact (Kd.V_reads' HO0.out).2.1); rintro e w37 ⟨rfl, hb⟩; refine ⟨_, rfl, ?_⟩; replace HO0 := xa_ (Kd.V_below (xV_ HO0.out) hb); replace HB := xa_ (below_step (xw_ HB.out) hb); (try clear hb); (try clear hb2); (try clear hk); (try clear hi)) | ((with_reducible refine gate_callee (f := 49) rfl ?_); refine goesL_ (some 16) rfl rfl Tryz.func49 (by kernel_rfl) rfl #[.string a1] rfl (by (try simp only [ca_]); first | done | rfl) ?_; (with_reducible refine (tallymanref7_Good.calls a1 true _ A6.out).mono ?_); rintro e w38 ⟨rfl, hb⟩; refine ⟨_, rfl, ?_⟩; replace HO0 := xa_ (Kd.V_below (xV_ HO0.out) hb); replace HB := xa_ (below_step (xw_ HB.out) hb); (try clear hb); (try clear hb2); (try clear hk); (try clear hi)) | ((with_reducible refine gate_callee (f := 50) rfl ?_); refine goesL_ (some 21) rfl rfl Tryz.func50 (by kernel_rfl) rfl #[.slice A0 l0.length c0, .string a1] rfl (by (try simp only [ca_]); first | done | rfl) ?_; (with_reducible refine (tallymanref7_room.calls k _ _ l0 a1 t200 _ ?side1 ?side2 A8.out).mono ?_); (case side1 => exact xC_ (Kd.V_reads' HO0.out).2.2); (case side2 => exact (Kd.V_reads' HO0.out).2.1); rintro e w39 ⟨rfl, hb⟩; refine ⟨_, rfl, ?_⟩; replace HO0 := xa_ (Kd.V_below (xV_ HO0.out) hb); replace HB := xa_ (below_step (xw_ HB.out) hb); (try clear hb); (try clear hb2); (try clear hk); (try clear hi)))
    go_ret2
    exact ⟨_, by first | rfl | (simp [*, errW_none, errW_some] <;> rfl), by (with_reducible repeat (first | apply Kd.V_alloc | apply Kd.V_drewN | apply Kd.V_drew)); exact HO0.out, by repeat (first | (with_reducible first | exact HB.out | apply below_alloc | apply pw_below_drewN | apply below_drew1) | exact HB.out)⟩
  ·replace c7 := Bool.eq_false_iff.mpr c7
   subst c7
   have H1 : (some (l0, 4)) = some (r1, r2) := by rw [if_neg (show ¬ (false = true) by decide)] at H; exact H
   clear H
   have H := H1
   clear H1
   simp only [Option.some.injEq, Prod.mk.injEq] at H
   obtain ⟨rfl, rfl⟩ := H
   go_enter Tryz.func7, Tryz.ntmps7
   go_wp2_with (first | ((with_reducible refine gate_callee (f := 48) rfl ?_); refine goesL_ (some 12) rfl rfl Tryz.func48 (by kernel_rfl) rfl #[.slice A0 l0.length c0] rfl (by (try simp only [ca_]); first | done | rfl) ?_; (with_reducible refine (tallymanref7_GoodTree.calls k _ _ l0 true _ ?side1 ?side2 A4.out).mono ?_); (case side1 => exact xC_ (Kd.V_reads' HO0.out).2.2); (case side2 => exact (Kd.V_reads' HO0.out).2.1); rintro e w40 ⟨rfl, hb⟩; refine ⟨_, rfl, ?_⟩; replace HO0 := xa_ (Kd.V_below (xV_ HO0.out) hb); replace HB := xa_ (below_step (xw_ HB.out) hb); (try clear hb); (try clear hb2); (try clear hk); (try clear hi)) | ((with_reducible refine gate_callee (f := 49) rfl ?_); refine goesL_ (some 16) rfl rfl Tryz.func49 (by kernel_rfl) rfl #[.string a1] rfl (by (try simp only [ca_]); first | done | rfl) ?_; (with_reducible refine (tallymanref7_Good.calls a1 false _ A6.out).mono ?_); rintro e w41 ⟨rfl, hb⟩; refine ⟨_, rfl, ?_⟩; replace HO0 := xa_ (Kd.V_below (xV_ HO0.out) hb); replace HB := xa_ (below_step (xw_ HB.out) hb); (try clear hb); (try clear hb2); (try clear hk); (try clear hi)))
   go_ret2
   exact ⟨_, by first | rfl | (simp [*, errW_none, errW_some] <;> rfl), by (with_reducible repeat (first | apply Kd.V_alloc | apply Kd.V_drewN | apply Kd.V_drew)); exact HO0.out, by repeat (first | (with_reducible first | exact HB.out | apply below_alloc | apply pw_below_drewN | apply below_drew1) | exact HB.out)⟩
 ·replace c5 := Bool.eq_false_iff.mpr c5
  subst c5
  have H1 : (some (l0, 1)) = some (r1, r2) := by rw [if_neg (show ¬ (false = true) by decide)] at H; exact H
  clear H
  have H := H1
  clear H1
  simp only [Option.some.injEq, Prod.mk.injEq] at H
  obtain ⟨rfl, rfl⟩ := H
  go_enter Tryz.func7, Tryz.ntmps7
  go_wp2_with (first | ((with_reducible refine gate_callee (f := 48) rfl ?_); refine goesL_ (some 12) rfl rfl Tryz.func48 (by kernel_rfl) rfl #[.slice A0 l0.length c0] rfl (by (try simp only [ca_]); first | done | rfl) ?_; (with_reducible refine (tallymanref7_GoodTree.calls k _ _ l0 false _ ?side1 ?side2 A4.out).mono ?_); (case side1 => exact xC_ (Kd.V_reads' HO0.out).2.2); (case side2 => exact (Kd.V_reads' HO0.out).2.1); rintro e w42 ⟨rfl, hb⟩; refine ⟨_, rfl, ?_⟩; replace HO0 := xa_ (Kd.V_below (xV_ HO0.out) hb); replace HB := xa_ (below_step (xw_ HB.out) hb); (try clear hb); (try clear hb2); (try clear hk); (try clear hi)))
  go_ret2
  exact ⟨_, by first | rfl | (simp [*, errW_none, errW_some] <;> rfl), by (with_reducible repeat (first | apply Kd.V_alloc | apply Kd.V_drewN | apply Kd.V_drew)); exact HO0.out, by repeat (first | (with_reducible first | exact HB.out | apply below_alloc | apply pw_below_drewN | apply below_drew1) | exact HB.out)⟩
end Go.Proofs.YtidlldfghkaeeaaGreatDoor.P
