/- Put together by pack2.py: PfTallymanref7Make, PfTreeCount, EntRow, DirMap, TreeList -/
import Derived.Test.YtidlldfghkaeeaaDoorZsRefNamesEtc
import Derived.Test.YtidlldfghkaeeaaDoorZsPfTallymanlaw8OwnEtc
import Derived.Test.YtidlldfghkaeeaaDoorZsPfTallymanref7GoodTree
import Derived.Test.YtidlldfghkaeeaaDoorZsPfTallymanref7InsideEtc
import Derived.Test.YtidlldfghkaeeaaDoorZsPfTallymanref7With
import Derived.Lib.AppendZerosOnto
import Derived.Lib.Overlaps
import Derived.Laws.CopyRow
import Derived.Maps.Own
import Derived.Maps.OwnOps
import Derived.Maps.Views
import Derived.StringKeys
import Derived.Test.YtidlldfghkaeeaaDoorZsW0
section
namespace Go.Proofs.YtidlldfghkaeeaaDoor.P
open Go.RowKit Go.Proofs.YtidlldfghkaeeaaDoorW.PrintWords Go.Proofs.YtidlldfghkaeeaaDoorW.PrintLast Go.Proofs.YtidlldfghkaeeaaDoorW.PrintMore
attribute [local go_sem] max2_int min2_int max_two min_two max_three min_three max_four min_four   -- for this text's walks alone
set_option linter.unusedVariables false
set_option linter.unusedSimpArgs false
/-! ### tallymanref7_Make: function 24 -/
def tallymanref7_Make.f (k : Nat) (l0 : List (S94)) (a1 : ByteArray) : Option ((List (S94)) × Int) := (tallymanref7_GoodTree.f k l0).bind fun t208 => (if t208 = true then ((tallymanref7_Good.f a1).bind fun t209 => (if t209 = true then ((tallymanref7_At.f k l0 a1).bind fun t210 => (if t210 ≥ 0 then (some (l0, 6)) else ((tallymanref7_room.f k l0 a1).bind fun t211 => (if t211 = 0 then ((tallymanref7_with.f k l0 a1 true ([] : List Int)).bind fun t212 => ((tallymanref7_GoodTree.f k t212).bind fun t215 => (if t215 = true then (some (t212, 0)) else (some (l0, 9))))) else (some (l0, t211)))))) else (some (l0, 4)))) else (some (l0, 1)))
set_option maxHeartbeats 8000000 in
set_option maxRecDepth 100000 in
theorem tallymanref7_Make.calls (k : Nat) (P0_ : Nat → Prop) (A0 : Option Addr) (c0 : Nat) (l0 : List (S94)) (a1 : ByteArray) (r1 : List (S94)) (r2 : Int) (w : World) (hs0 : Kd.V k94 94 w w.heap.size (fun k_ => P0_ k_) (.slice A0 l0.length c0) l0) (h : tallymanref7_Make.f k l0 a1 = some (r1, r2)) :
  Calls Tryd.prog 24 #[.slice A0 l0.length c0, .string a1] w fun e w' => ∃ v0_ : Value, e = .returned (.tuple #[v0_, .int .i64 r2]) ∧ Kd.V k94 94 w' w.heap.size (fun k_ => (P0_ k_ ∨ w.heap.size ≤ k_)) v0_ r1 ∧ Below w.heap.size w w' := by
 have hu94 := Tryd.underlying94
 have HO0 := xa_ (show Kd.V k94 94 w w.heap.size (fun k_ => (P0_ k_ ∨ w.heap.size ≤ k_)) (.slice A0 l0.length c0) l0 from Kd.V_mono hs0 (fun k_ hk => .inl hk))
 have HB := xa_ (Below.refl w.heap.size w)
 have H : ((tallymanref7_GoodTree.f k l0).bind fun t208 => (if t208 = true then ((tallymanref7_Good.f a1).bind fun t209 => (if t209 = true then ((tallymanref7_At.f k l0 a1).bind fun t210 => (if t210 ≥ 0 then (some (l0, 6)) else ((tallymanref7_room.f k l0 a1).bind fun t211 => (if t211 = 0 then ((tallymanref7_with.f k l0 a1 true ([] : List Int)).bind fun t212 => ((tallymanref7_GoodTree.f k t212).bind fun t215 => (if t215 = true then (some (t212, 0)) else (some (l0, 9))))) else (some (l0, t211)))))) else (some (l0, 4)))) else (some (l0, 1)))) = some (r1, r2) := h
 clear h
 replace H := Option.bind_eq_some_iff.mp H
 obtain ⟨t208, A30, H⟩ := H
 replace H : (if t208 = true then ((tallymanref7_Good.f a1).bind fun t209 => (if t209 = true then ((tallymanref7_At.f k l0 a1).bind fun t210 => (if t210 ≥ 0 then (some (l0, 6)) else ((tallymanref7_room.f k l0 a1).bind fun t211 => (if t211 = 0 then ((tallymanref7_with.f k l0 a1 true ([] : List Int)).bind fun t212 => ((tallymanref7_GoodTree.f k t212).bind fun t215 => (if t215 = true then (some (t212, 0)) else (some (l0, 9))))) else (some (l0, t211)))))) else (some (l0, 4)))) else (some (l0, 1))) = some (r1, r2) := H
 have A3 := Aside0.mk A30
 clear A30
 by_cases c4 : t208 = true
 ·subst c4
  have H1 : ((tallymanref7_Good.f a1).bind fun t209 => (if t209 = true then ((tallymanref7_At.f k l0 a1).bind fun t210 => (if t210 ≥ 0 then (some (l0, 6)) else ((tallymanref7_room.f k l0 a1).bind fun t211 => (if t211 = 0 then ((tallymanref7_with.f k l0 a1 true ([] : List Int)).bind fun t212 => ((tallymanref7_GoodTree.f k t212).bind fun t215 => (if t215 = true then (some (t212, 0)) else (some (l0, 9))))) else (some (l0, t211)))))) else (some (l0, 4)))) = some (r1, r2) := by rw [if_pos rfl] at H; exact H
  clear H
  have H := H1
  clear H1
  replace H := Option.bind_eq_some_iff.mp H
  obtain ⟨t209, A50, H⟩ := H
  replace H : (if t209 = true then ((tallymanref7_At.f k l0 a1).bind fun t210 => (if t210 ≥ 0 then (some (l0, 6)) else ((tallymanref7_room.f k l0 a1).bind fun t211 => (if t211 = 0 then ((tallymanref7_with.f k l0 a1 true ([] : List Int)).bind fun t212 => ((tallymanref7_GoodTree.f k t212).bind fun t215 => (if t215 = true then (some (t212, 0)) else (some (l0, 9))))) else (some (l0, t211)))))) else (some (l0, 4))) = some (r1, r2) := H
  have A5 := Aside0.mk A50
  clear A50
  by_cases c6 : t209 = true
  ·subst c6
   have H1 : ((tallymanref7_At.f k l0 a1).bind fun t210 => (if t210 ≥ 0 then (some (l0, 6)) else ((tallymanref7_room.f k l0 a1).bind fun t211 => (if t211 = 0 then ((tallymanref7_with.f k l0 a1 true ([] : List Int)).bind fun t212 => ((tallymanref7_GoodTree.f k t212).bind fun t215 => (if t215 = true then (some (t212, 0)) else (some (l0, 9))))) else (some (l0, t211)))))) = some (r1, r2) := by rw [if_pos rfl] at H; exact H
   clear H
   have H := H1
   clear H1
   replace H := Option.bind_eq_some_iff.mp H
   obtain ⟨t210, A70, H⟩ := H
   replace H : (if t210 ≥ 0 then (some (l0, 6)) else ((tallymanref7_room.f k l0 a1).bind fun t211 => (if t211 = 0 then ((tallymanref7_with.f k l0 a1 true ([] : List Int)).bind fun t212 => ((tallymanref7_GoodTree.f k t212).bind fun t215 => (if t215 = true then (some (t212, 0)) else (some (l0, 9))))) else (some (l0, t211))))) = some (r1, r2) := H
   have A7 := Aside0.mk A70
   clear A70
   by_cases c8 : t210 ≥ 0
   ·rw [if_pos c8] at H
    have c8b0 : decide (0 ≤ t210) = true := decide_eq_true c8
    clear c8
    simp only [Option.some.injEq, Prod.mk.injEq] at H
    obtain ⟨rfl, rfl⟩ := H
    go_enter Tryd.func24, Tryd.ntmps24
    go_wp2_with (first | ((with_reducible refine gate_callee (f := 23) rfl ?_); refine goesL_ (some 9) rfl rfl Tryd.func23 (by kernel_rfl) rfl #[.slice A0 l0.length c0] rfl (by (try simp only [List.map_toArray, List.map_cons, List.map_nil]); first | done | rfl | (simp only [List.length_drop, List.length_take]; rfl)) ?_; (with_reducible refine (tallymanref7_GoodTree.calls k _ _ l0 true _ ?side1 ?side2 A3.out).mono ?_); (case side1 => exact xC_ (Kd.V_reads' HO0.out).2.2); (case side2 => exact (Kd.V_reads' HO0.out).2.1); rintro e w9 ⟨rfl, hb⟩; refine ⟨_, rfl, ?_⟩; replace HO0 := xa_ (Kd.V_below (xV_ HO0.out) hb); replace HB := xa_ (below_step (by repeat (first | (with_reducible first | exact HB.out | apply below_alloc | apply pw_below_drewN | apply below_drew1) | exact HB.out)) hb); (try clear hb); (try clear hb2); (try clear hk); (try clear hi)) | ((with_reducible refine gate_callee (f := 42) rfl ?_); refine goesL_ (some 13) rfl rfl Tryd.func42 (by kernel_rfl) rfl #[.string a1] rfl (by (try simp only [List.map_toArray, List.map_cons, List.map_nil]); first | done | rfl | (simp only [List.length_drop, List.length_take]; rfl)) ?_; (with_reducible refine (tallymanref7_Good.calls a1 true _ A5.out).mono ?_); rintro e w10 ⟨rfl, hb⟩; refine ⟨_, rfl, ?_⟩; replace HO0 := xa_ (Kd.V_below (xV_ HO0.out) hb); replace HB := xa_ (below_step (by repeat (first | (with_reducible first | exact HB.out | apply below_alloc | apply pw_below_drewN | apply below_drew1) | exact HB.out)) hb); (try clear hb); (try clear hb2); (try clear hk); (try clear hi)) | ((with_reducible refine gate_callee (f := 72) rfl ?_); refine goesL_ (some 18) rfl rfl Tryd.func72 (by kernel_rfl) rfl #[.slice A0 l0.length c0, .string a1] rfl (by (try simp only [List.map_toArray, List.map_cons, List.map_nil]); first | done | rfl | (simp only [List.length_drop, List.length_take]; rfl)) ?_; (with_reducible refine (tallymanref7_At.calls k _ _ l0 a1 t210 _ ?side1 ?side2 A7.out).mono ?_); (case side1 => exact xC_ (Kd.V_reads' HO0.out).2.2); (case side2 => exact (Kd.V_reads' HO0.out).2.1); rintro e w' ⟨rfl, ⟨nd, rfl⟩⟩; refine ⟨_, rfl, ?_⟩))
    go_ret2
    exact ⟨_, by first | rfl | (simp [errW_none, errW_some] <;> rfl) | (simp [*, errW_none, errW_some] <;> rfl), by (with_reducible repeat (first | apply Kd.V_alloc | apply Kd.V_drewN | apply Kd.V_drew)); exact HO0.out, by repeat (first | (with_reducible first | exact HB.out | apply below_alloc | apply pw_below_drewN | apply below_drew1) | exact HB.out)⟩
   ·rw [if_neg c8] at H
    have c8b0 : decide (0 ≤ t210) = false := decide_eq_false c8
    clear c8
    replace H := Option.bind_eq_some_iff.mp H
    obtain ⟨t211, A110, H⟩ := H
    replace H : (if t211 = 0 then ((tallymanref7_with.f k l0 a1 true ([] : List Int)).bind fun t212 => ((tallymanref7_GoodTree.f k t212).bind fun t215 => (if t215 = true then (some (t212, 0)) else (some (l0, 9))))) else (some (l0, t211))) = some (r1, r2) := H
    have A11 := Aside0.mk A110
    clear A110
    by_cases c12 : t211 = 0
    ·rw [if_pos c12] at H
     have c12b0 : (t211 == 0) = true := beq_iff_eq.mpr c12
     have c12b1 : (t211 != 0) = false := bne_eq_false_iff_eq.mpr c12
     clear c12
     replace H := Option.bind_eq_some_iff.mp H
     obtain ⟨t212, A130, H⟩ := H
     replace H : ((tallymanref7_GoodTree.f k t212).bind fun t215 => (if t215 = true then (some (t212, 0)) else (some (l0, 9)))) = some (r1, r2) := H
     have A13 := Aside0.mk A130
     clear A130
     replace H := Option.bind_eq_some_iff.mp H
     obtain ⟨t215, A140, H⟩ := H
     replace H : (if t215 = true then (some (t212, 0)) else (some (l0, 9))) = some (r1, r2) := H
     have A14 := Aside0.mk A140
     clear A140
     by_cases c15 : t215 = true
     ·subst c15
      have H1 : (some (t212, 0)) = some (r1, r2) := by rw [if_pos rfl] at H; exact H
      clear H
      have H := H1
      clear H1
      simp only [Option.some.injEq, Prod.mk.injEq] at H
      obtain ⟨rfl, rfl⟩ := H
      go_enter Tryd.func24, Tryd.ntmps24
      go_wp2_with (first | ((with_reducible refine gate_callee (f := 23) rfl ?_); refine goesL_ (some 9) rfl rfl Tryd.func23 (by kernel_rfl) rfl #[.slice A0 l0.length c0] rfl (by (try simp only [List.map_toArray, List.map_cons, List.map_nil]); first | done | rfl | (simp only [List.length_drop, List.length_take]; rfl)) ?_; (with_reducible refine (tallymanref7_GoodTree.calls k _ _ l0 true _ ?side1 ?side2 A3.out).mono ?_); (case side1 => exact xC_ (Kd.V_reads' HO0.out).2.2); (case side2 => exact (Kd.V_reads' HO0.out).2.1); rintro e w16 ⟨rfl, hb⟩; refine ⟨_, rfl, ?_⟩; replace HO0 := xa_ (Kd.V_below (xV_ HO0.out) hb); replace HB := xa_ (below_step (by repeat (first | (with_reducible first | exact HB.out | apply below_alloc | apply pw_below_drewN | apply below_drew1) | exact HB.out)) hb); (try clear hb); (try clear hb2); (try clear hk); (try clear hi)) | ((with_reducible refine gate_callee (f := 42) rfl ?_); refine goesL_ (some 13) rfl rfl Tryd.func42 (by kernel_rfl) rfl #[.string a1] rfl (by (try simp only [List.map_toArray, List.map_cons, List.map_nil]); first | done | rfl | (simp only [List.length_drop, List.length_take]; rfl)) ?_; (with_reducible refine (tallymanref7_Good.calls a1 true _ A5.out).mono ?_); rintro e w17 ⟨rfl, hb⟩; refine ⟨_, rfl, ?_⟩; replace HO0 := xa_ (Kd.V_below (xV_ HO0.out) hb); replace HB := xa_ (below_step (by repeat (first | (with_reducible first | exact HB.out | apply below_alloc | apply pw_below_drewN | apply below_drew1) | exact HB.out)) hb); (try clear hb); (try clear hb2); (try clear hk); (try clear hi)) | ((with_reducible refine gate_callee (f := 72) rfl ?_); refine goesL_ (some 18) rfl rfl Tryd.func72 (by kernel_rfl) rfl #[.slice A0 l0.length c0, .string a1] rfl (by (try simp only [List.map_toArray, List.map_cons, List.map_nil]); first | done | rfl | (simp only [List.length_drop, List.length_take]; rfl)) ?_; (with_reducible refine (tallymanref7_At.calls k _ _ l0 a1 t210 _ ?side1 ?side2 A7.out).mono ?_); (case side1 => exact xC_ (Kd.V_reads' HO0.out).2.2); (case side2 => exact (Kd.V_reads' HO0.out).2.1); rintro e w' ⟨rfl, ⟨nd, rfl⟩⟩; refine ⟨_, rfl, ?_⟩) | ((with_reducible refine gate_callee (f := 73) rfl ?_); refine goesL_ (some 23) rfl rfl Tryd.func73 (by kernel_rfl) rfl #[.slice A0 l0.length c0, .string a1] rfl (by (try simp only [List.map_toArray, List.map_cons, List.map_nil]); first | done | rfl | (simp only [List.length_drop, List.length_take]; rfl)) ?_; (with_reducible refine (tallymanref7_room.calls k _ _ l0 a1 t211 _ ?side1 ?side2 A11.out).mono ?_); (case side1 => exact xC_ (Kd.V_reads' HO0.out).2.2); (case side2 => exact (Kd.V_reads' HO0.out).2.1); rintro e w18 ⟨rfl, hb⟩; refine ⟨_, rfl, ?_⟩; replace HO0 := xa_ (Kd.V_below (xV_ HO0.out) hb); replace HB := xa_ (below_step (by repeat (first | (with_reducible first | exact HB.out | apply below_alloc | apply pw_below_drewN | apply below_drew1) | exact HB.out)) hb); (try clear hb); (try clear hb2); (try clear hk); (try clear hi)) | ((with_reducible refine gate_callee (f := 74) rfl ?_); refine goesL_ (some 31) rfl rfl Tryd.func74 (by kernel_rfl) rfl #[.slice A0 l0.length c0, .agg #[.string a1, .bool true, .slice none 0 0]] rfl (by (try simp only [List.map_toArray, List.map_cons, List.map_nil]); first | done | rfl | (simp only [List.length_drop, List.length_take]; rfl)) ?_; (refine (tallymanref7_with.calls k (fun k_ => (P0_ k_ ∨ w.heap.size ≤ k_)) _ _ l0 a1 true (fun k_ => False) _ _ ([] : List Int) t212 _ ?side1 ?side2 A13.out).mono ?_); (case side1 => exact HO0.out); (case side2 => exact Kd.V_nil _ _ _ _ _); rintro e w19 ⟨v213, rfl, ho0, hb⟩; refine ⟨_, rfl, ?_⟩; replace HO0 := xa_ (Kd.V_elder' (xV_ HO0.out) (Kd.N_base ho0) hb); replace HO214 := xa_ (Kd.N_lower (Kd.N_mono (ok' := fun k_ => (P0_ k_ ∨ w.heap.size ≤ k_)) ho0 (fun k_ hk_ => Or.elim hk_ (fun hs_ => Or.elim hs_ (fun hs_ => hs_) (fun hs_ => (hs_).elim)) (fun hn_ => (.inr (Nat.le_trans (below_size (by repeat (first | (with_reducible first | exact HB.out | apply below_alloc | apply pw_below_drewN | apply below_drew1) | exact HB.out))) hn_))))) (below_size (by repeat (first | (with_reducible first | exact HB.out | apply below_alloc | apply pw_below_drewN | apply below_drew1) | exact HB.out)))); replace HB := xa_ (below_step (by repeat (first | (with_reducible first | exact HB.out | apply below_alloc | apply pw_below_drewN | apply below_drew1) | exact HB.out)) hb); (try clear hb); (try clear hb2); (try clear hk); (try clear hi); (try clear ho0); obtain ⟨Ao20, co20, eo20⟩ := Kd.N_slice HO214.out; subst eo20) | ((with_reducible refine gate_callee (f := 23) rfl ?_); refine goesL_ (some 33) rfl rfl Tryd.func23 (by kernel_rfl) rfl #[.slice Ao20 t212.length co20] rfl (by (try simp only [List.map_toArray, List.map_cons, List.map_nil]); first | done | rfl | (simp only [List.length_drop, List.length_take]; rfl)) ?_; (with_reducible refine (tallymanref7_GoodTree.calls k _ _ t212 true _ ?side1 ?side2 A14.out).mono ?_); (case side1 => exact xC_ (Kd.N_reads' HO214.out).2.2); (case side2 => exact (Kd.N_reads' HO214.out).2.1); rintro e w21 ⟨rfl, hb⟩; refine ⟨_, rfl, ?_⟩; replace HO0 := xa_ (Kd.V_below (xV_ HO0.out) hb); replace HO214 := xa_ (Kd.N_below (xN_ HO214.out) hb); replace HB := xa_ (below_step (by repeat (first | (with_reducible first | exact HB.out | apply below_alloc | apply pw_below_drewN | apply below_drew1) | exact HB.out)) hb); (try clear hb); (try clear hb2); (try clear hk); (try clear hi)))
      go_ret2
      exact ⟨_, by first | rfl | (simp [errW_none, errW_some] <;> rfl) | (simp [*, errW_none, errW_some] <;> rfl), Kd.N_V (xN_ HO214.out), by repeat (first | (with_reducible first | exact HB.out | apply below_alloc | apply pw_below_drewN | apply below_drew1) | exact HB.out)⟩
     ·replace c15 := Bool.eq_false_iff.mpr c15
      subst c15
      have H1 : (some (l0, 9)) = some (r1, r2) := by rw [if_neg (show ¬ (false = true) by decide)] at H; exact H
      clear H
      have H := H1
      clear H1
      simp only [Option.some.injEq, Prod.mk.injEq] at H
      obtain ⟨rfl, rfl⟩ := H
      go_enter Tryd.func24, Tryd.ntmps24
      go_wp2_with (first | ((with_reducible refine gate_callee (f := 23) rfl ?_); refine goesL_ (some 9) rfl rfl Tryd.func23 (by kernel_rfl) rfl #[.slice A0 l0.length c0] rfl (by (try simp only [List.map_toArray, List.map_cons, List.map_nil]); first | done | rfl | (simp only [List.length_drop, List.length_take]; rfl)) ?_; (with_reducible refine (tallymanref7_GoodTree.calls k _ _ l0 true _ ?side1 ?side2 A3.out).mono ?_); (case side1 => exact xC_ (Kd.V_reads' HO0.out).2.2); (case side2 => exact (Kd.V_reads' HO0.out).2.1); rintro e w22 ⟨rfl, hb⟩; refine ⟨_, rfl, ?_⟩; replace HO0 := xa_ (Kd.V_below (xV_ HO0.out) hb); replace HB := xa_ (below_step (by repeat (first | (with_reducible first | exact HB.out | apply below_alloc | apply pw_below_drewN | apply below_drew1) | exact HB.out)) hb); (try clear hb); (try clear hb2); (try clear hk); (try clear hi)) | ((with_reducible refine gate_callee (f := 42) rfl ?_); refine goesL_ (some 13) rfl rfl Tryd.func42 (by kernel_rfl) rfl #[.string a1] rfl (by (try simp only [List.map_toArray, List.map_cons, List.map_nil]); first | done | rfl | (simp only [List.length_drop, List.length_take]; rfl)) ?_; (with_reducible refine (tallymanref7_Good.calls a1 true _ A5.out).mono ?_); rintro e w23 ⟨rfl, hb⟩; refine ⟨_, rfl, ?_⟩; replace HO0 := xa_ (Kd.V_below (xV_ HO0.out) hb); replace HB := xa_ (below_step (by repeat (first | (with_reducible first | exact HB.out | apply below_alloc | apply pw_below_drewN | apply below_drew1) | exact HB.out)) hb); (try clear hb); (try clear hb2); (try clear hk); (try clear hi)) | ((with_reducible refine gate_callee (f := 72) rfl ?_); refine goesL_ (some 18) rfl rfl Tryd.func72 (by kernel_rfl) rfl #[.slice A0 l0.length c0, .string a1] rfl (by (try simp only [List.map_toArray, List.map_cons, List.map_nil]); first | done | rfl | (simp only [List.length_drop, List.length_take]; rfl)) ?_; (with_reducible refine (tallymanref7_At.calls k _ _ l0 a1 t210 _ ?side1 ?side2 A7.out).mono ?_); (case side1 => exact xC_ (Kd.V_reads' HO0.out).2.2); (case side2 => exact (Kd.V_reads' HO0.out).2.1); rintro e w' ⟨rfl, ⟨nd, rfl⟩⟩; refine ⟨_, rfl, ?_⟩) | ((with_reducible refine gate_callee (f := 73) rfl ?_); refine goesL_ (some 23) rfl rfl Tryd.func73 (by kernel_rfl) rfl #[.slice A0 l0.length c0, .string a1] rfl (by (try simp only [List.map_toArray, List.map_cons, List.map_nil]); first | done | rfl | (simp only [List.length_drop, List.length_take]; rfl)) ?_; (with_reducible refine (tallymanref7_room.calls k _ _ l0 a1 t211 _ ?side1 ?side2 A11.out).mono ?_); (case side1 => exact xC_ (Kd.V_reads' HO0.out).2.2); (case side2 => exact (Kd.V_reads' HO0.out).2.1); rintro e w24 ⟨rfl, hb⟩; refine ⟨_, rfl, ?_⟩; replace HO0 := xa_ (Kd.V_below (xV_ HO0.out) hb); replace HB := xa_ (below_step (by repeat (first | (with_reducible first | exact HB.out | apply below_alloc | apply pw_below_drewN | apply below_drew1) | exact HB.out)) hb); (try clear hb); (try clear hb2); (try clear hk); (try clear hi)) | ((with_reducible refine gate_callee (f := 74) rfl ?_); refine goesL_ (some 31) rfl rfl Tryd.func74 (by kernel_rfl) rfl #[.slice A0 l0.length c0, .agg #[.string a1, .bool true, .slice none 0 0]] rfl (by (try simp only [List.map_toArray, List.map_cons, List.map_nil]); first | done | rfl | (simp only [List.length_drop, List.length_take]; rfl)) ?_; (refine (tallymanref7_with.calls k (fun k_ => (P0_ k_ ∨ w.heap.size ≤ k_)) _ _ l0 a1 true (fun k_ => False) _ _ ([] : List Int) t212 _ ?side1 ?side2 A13.out).mono ?_); (case side1 => exact HO0.out); (case side2 => exact Kd.V_nil _ _ _ _ _); rintro e w25 ⟨v213, rfl, ho0, hb⟩; refine ⟨_, rfl, ?_⟩; replace HO0 := xa_ (Kd.V_elder' (xV_ HO0.out) (Kd.N_base ho0) hb); replace HO214 := xa_ (Kd.N_lower (Kd.N_mono (ok' := fun k_ => (P0_ k_ ∨ w.heap.size ≤ k_)) ho0 (fun k_ hk_ => Or.elim hk_ (fun hs_ => Or.elim hs_ (fun hs_ => hs_) (fun hs_ => (hs_).elim)) (fun hn_ => (.inr (Nat.le_trans (below_size (by repeat (first | (with_reducible first | exact HB.out | apply below_alloc | apply pw_below_drewN | apply below_drew1) | exact HB.out))) hn_))))) (below_size (by repeat (first | (with_reducible first | exact HB.out | apply below_alloc | apply pw_below_drewN | apply below_drew1) | exact HB.out)))); replace HB := xa_ (below_step (by repeat (first | (with_reducible first | exact HB.out | apply below_alloc | apply pw_below_drewN | apply below_drew1) | exact HB.out)) hb); (try clear hb); (try clear hb2); (try clear hk); (try clear hi); (try clear ho0); obtain ⟨Ao26, co26, eo26⟩ := Kd.N_slice HO214.out; subst eo26) | ((with_reducible refine gate_callee (f := 23) rfl ?_); refine goesL_ (some 33) rfl rfl Tryd.func23 (by kernel_rfl) rfl #[.slice Ao26 t212.length co26] rfl (by (try simp only [List.map_toArray, List.map_cons, List.map_nil]); first | done | rfl | (simp only [List.length_drop, List.length_take]; rfl)) ?_; (with_reducible refine (tallymanref7_GoodTree.calls k _ _ t212 false _ ?side1 ?side2 A14.out).mono ?_); (case side1 => exact xC_ (Kd.N_reads' HO214.out).2.2); (case side2 => exact (Kd.N_reads' HO214.out).2.1); rintro e w27 ⟨rfl, hb⟩; refine ⟨_, rfl, ?_⟩; replace HO0 := xa_ (Kd.V_below (xV_ HO0.out) hb); replace HO214 := xa_ (Kd.N_below (xN_ HO214.out) hb); replace HB := xa_ (below_step (by repeat (first | (with_reducible first | exact HB.out | apply below_alloc | apply pw_below_drewN | apply below_drew1) | exact HB.out)) hb); (try clear hb); (try clear hb2); (try clear hk); (try clear hi)))
      go_ret2
      exact ⟨_, by first | rfl | (simp [errW_none, errW_some] <;> rfl) | (simp [*, errW_none, errW_some] <;> rfl), by (with_reducible repeat (first | apply Kd.V_alloc | apply Kd.V_drewN | apply Kd.V_drew)); exact Kd.V_mono HO0.out (fun _ hk => hk.1), by repeat (first | (with_reducible first | exact HB.out | apply below_alloc | apply pw_below_drewN | apply below_drew1) | exact HB.out)⟩
    ·rw [if_neg c12] at H
     have c12b0 : (t211 == 0) = false := beq_eq_false_iff_ne.mpr c12
     have c12b1 : (t211 != 0) = true := bne_iff_ne.mpr c12
     simp only [Option.some.injEq, Prod.mk.injEq] at H
     obtain ⟨rfl, rfl⟩ := H
     go_enter Tryd.func24, Tryd.ntmps24
     go_wp2_with (first | ((with_reducible refine gate_callee (f := 23) rfl ?_); refine goesL_ (some 9) rfl rfl Tryd.func23 (by kernel_rfl) rfl #[.slice A0 l0.length c0] rfl (by (try simp only [List.map_toArray, List.map_cons, List.map_nil]); first | done | rfl | (simp only [List.length_drop, List.length_take]; rfl)) ?_; (with_reducible refine (tallymanref7_GoodTree.calls k _ _ l0 true _ ?side1 ?side2 A3.out).mono ?_); (case side1 => exact xC_ (Kd.V_reads' HO0.out).2.2); (case side2 => exact (Kd.V_reads' HO0.out).2.1); rintro e w28 ⟨rfl, hb⟩; refine ⟨_, rfl, ?_⟩; replace HO0 := xa_ (Kd.V_below (xV_ HO0.out) hb); replace HB := xa_ (below_step (by repeat (first | (with_reducible first | exact HB.out | apply below_alloc | apply pw_below_drewN | apply below_drew1) | exact HB.out)) hb); (try clear hb); (try clear hb2); (try clear hk); (try clear hi)) | ((with_reducible refine gate_callee (f := 42) rfl ?_); refine goesL_ (some 13) rfl rfl Tryd.func42 (by kernel_rfl) rfl #[.string a1] rfl (by (try simp only [List.map_toArray, List.map_cons, List.map_nil]); first | done | rfl | (simp only [List.length_drop, List.length_take]; rfl)) ?_; (with_reducible refine (tallymanref7_Good.calls a1 true _ A5.out).mono ?_); rintro e w29 ⟨rfl, hb⟩; refine ⟨_, rfl, ?_⟩; replace HO0 := xa_ (Kd.V_below (xV_ HO0.out) hb); replace HB := xa_ (below_step (by repeat (first | (with_reducible first | exact HB.out | apply below_alloc | apply pw_below_drewN | apply below_drew1) | exact HB.out)) hb); (try clear hb); (try clear hb2); (try clear hk); (try clear hi)) | ((with_reducible refine gate_callee (f := 72) rfl ?_); refine goesL_ (some 18) rfl rfl Tryd.func72 (by kernel_rfl) rfl #[.slice A0 l0.length c0, .string a1] rfl (by (try simp only [List.map_toArray, List.map_cons, List.map_nil]); first | done | rfl | (simp only [List.length_drop, List.length_take]; rfl)) ?_; (with_reducible refine (tallymanref7_At.calls k _ _ l0 a1 t210 _ ?side1 ?side2 A7.out).mono ?_); (case side1 => exact xC_ (Kd.V_reads' HO0.out).2.2); (case side2 => exact (Kd.V_reads' HO0.out).2.1); rintro e w' ⟨rfl, ⟨nd, rfl⟩⟩; refine ⟨_, rfl, ?_⟩) | ((with_reducible refine gate_callee (f := 73) rfl ?_); refine goesL_ (some 23) rfl rfl Tryd.func73 (by kernel_rfl) rfl #[.slice A0 l0.length c0, .string a1] rfl (by (try simp only [List.map_toArray, List.map_cons, List.map_nil]); first | done | rfl | (simp only [List.length_drop, List.length_take]; rfl)) ?_; (with_reducible refine (tallymanref7_room.calls k _ _ l0 a1 t211 _ ?side1 ?side2 A11.out).mono ?_); (case side1 => exact xC_ (Kd.V_reads' HO0.out).2.2); (case side2 => exact (Kd.V_reads' HO0.out).2.1); rintro e w30 ⟨rfl, hb⟩; refine ⟨_, rfl, ?_⟩; replace HO0 := xa_ (Kd.V_below (xV_ HO0.out) hb); replace HB := xa_ (below_step (by repeat (first | (with_reducible first | exact HB.out | apply below_alloc | apply pw_below_drewN | apply below_drew1) | exact HB.out)) hb); (try clear hb); (try clear hb2); (try clear hk); (try clear hi)))
     go_ret2
     exact ⟨_, by first | rfl | (simp [errW_none, errW_some] <;> rfl) | (simp [*, errW_none, errW_some] <;> rfl), by (with_reducible repeat (first | apply Kd.V_alloc | apply Kd.V_drewN | apply Kd.V_drew)); exact HO0.out, by repeat (first | (with_reducible first | exact HB.out | apply below_alloc | apply pw_below_drewN | apply below_drew1) | exact HB.out)⟩
  ·replace c6 := Bool.eq_false_iff.mpr c6
   subst c6
   have H1 : (some (l0, 4)) = some (r1, r2) := by rw [if_neg (show ¬ (false = true) by decide)] at H; exact H
   clear H
   have H := H1
   clear H1
   simp only [Option.some.injEq, Prod.mk.injEq] at H
   obtain ⟨rfl, rfl⟩ := H
   go_enter Tryd.func24, Tryd.ntmps24
   go_wp2_with (first | ((with_reducible refine gate_callee (f := 23) rfl ?_); refine goesL_ (some 9) rfl rfl Tryd.func23 (by kernel_rfl) rfl #[.slice A0 l0.length c0] rfl (by (try simp only [List.map_toArray, List.map_cons, List.map_nil]); first | done | rfl | (simp only [List.length_drop, List.length_take]; rfl)) ?_; (with_reducible refine (tallymanref7_GoodTree.calls k _ _ l0 true _ ?side1 ?side2 A3.out).mono ?_); (case side1 => exact xC_ (Kd.V_reads' HO0.out).2.2); (case side2 => exact (Kd.V_reads' HO0.out).2.1); rintro e w31 ⟨rfl, hb⟩; refine ⟨_, rfl, ?_⟩; replace HO0 := xa_ (Kd.V_below (xV_ HO0.out) hb); replace HB := xa_ (below_step (by repeat (first | (with_reducible first | exact HB.out | apply below_alloc | apply pw_below_drewN | apply below_drew1) | exact HB.out)) hb); (try clear hb); (try clear hb2); (try clear hk); (try clear hi)) | ((with_reducible refine gate_callee (f := 42) rfl ?_); refine goesL_ (some 13) rfl rfl Tryd.func42 (by kernel_rfl) rfl #[.string a1] rfl (by (try simp only [List.map_toArray, List.map_cons, List.map_nil]); first | done | rfl | (simp only [List.length_drop, List.length_take]; rfl)) ?_; (with_reducible refine (tallymanref7_Good.calls a1 false _ A5.out).mono ?_); rintro e w32 ⟨rfl, hb⟩; refine ⟨_, rfl, ?_⟩; replace HO0 := xa_ (Kd.V_below (xV_ HO0.out) hb); replace HB := xa_ (below_step (by repeat (first | (with_reducible first | exact HB.out | apply below_alloc | apply pw_below_drewN | apply below_drew1) | exact HB.out)) hb); (try clear hb); (try clear hb2); (try clear hk); (try clear hi)))
   go_ret2
   exact ⟨_, by first | rfl | (simp [errW_none, errW_some] <;> rfl) | (simp [*, errW_none, errW_some] <;> rfl), by (with_reducible repeat (first | apply Kd.V_alloc | apply Kd.V_drewN | apply Kd.V_drew)); exact HO0.out, by repeat (first | (with_reducible first | exact HB.out | apply below_alloc | apply pw_below_drewN | apply below_drew1) | exact HB.out)⟩
 ·replace c4 := Bool.eq_false_iff.mpr c4
  subst c4
  have H1 : (some (l0, 1)) = some (r1, r2) := by rw [if_neg (show ¬ (false = true) by decide)] at H; exact H
  clear H
  have H := H1
  clear H1
  simp only [Option.some.injEq, Prod.mk.injEq] at H
  obtain ⟨rfl, rfl⟩ := H
  go_enter Tryd.func24, Tryd.ntmps24
  go_wp2_with (first | ((with_reducible refine gate_callee (f := 23) rfl ?_); refine goesL_ (some 9) rfl rfl Tryd.func23 (by kernel_rfl) rfl #[.slice A0 l0.length c0] rfl (by (try simp only [List.map_toArray, List.map_cons, List.map_nil]); first | done | rfl | (simp only [List.length_drop, List.length_take]; rfl)) ?_; (with_reducible refine (tallymanref7_GoodTree.calls k _ _ l0 false _ ?side1 ?side2 A3.out).mono ?_); (case side1 => exact xC_ (Kd.V_reads' HO0.out).2.2); (case side2 => exact (Kd.V_reads' HO0.out).2.1); rintro e w33 ⟨rfl, hb⟩; refine ⟨_, rfl, ?_⟩; replace HO0 := xa_ (Kd.V_below (xV_ HO0.out) hb); replace HB := xa_ (below_step (by repeat (first | (with_reducible first | exact HB.out | apply below_alloc | apply pw_below_drewN | apply below_drew1) | exact HB.out)) hb); (try clear hb); (try clear hb2); (try clear hk); (try clear hi)))
  go_ret2
  exact ⟨_, by first | rfl | (simp [errW_none, errW_some] <;> rfl) | (simp [*, errW_none, errW_some] <;> rfl), by (with_reducible repeat (first | apply Kd.V_alloc | apply Kd.V_drewN | apply Kd.V_drew)); exact HO0.out, by repeat (first | (with_reducible first | exact HB.out | apply below_alloc | apply pw_below_drewN | apply below_drew1) | exact HB.out)⟩

end Go.Proofs.YtidlldfghkaeeaaDoor.P
end
section
namespace Go.Proofs.YtidlldfghkaeeaaDoor.P
open Go.RowKit Go.Proofs.YtidlldfghkaeeaaDoorW.PrintWords Go.Proofs.YtidlldfghkaeeaaDoorW.PrintLast Go.Proofs.YtidlldfghkaeeaaDoorW.PrintMore
attribute [local go_sem] max2_int min2_int max_two min_two max_three min_three max_four min_four   -- for this text's walks alone
set_option linter.unusedVariables false
set_option linter.unusedSimpArgs false
/-! ### tree_count: function 63 -/
def tree_count.l0 : Nat → Int → List (S30) → Int → Int → Option (Int)
 | 0, _, _, _, _ => none
 | k + 1, x3, x6, x7, x8 => if x8 < x7 then (if 0 ≤ x8 then (if x8 < (x6.length : Int) then (tree_count.l0 k (wrap64 (x3 + (((rd_T30 x6 x8).f2).length : Int))) x6 x7 (wrap64 (x8 + 1))) else (none)) else (none)) else (some x3)
def tree_count.f (k : Nat) (l0 : List (S30)) : Option (Int) := tree_count.l0 k 0 l0 (l0.length : Int) 0
set_option maxHeartbeats 8000000 in
set_option maxRecDepth 100000 in
theorem tree_count.calls (k : Nat) (A0 : Option Addr) (c0 : Nat) (l0 : List (S30)) (r : Int) (w : World) (hr0 : Kd.C k30 w A0 l0.length l0) (hc0 : l0.length ≤ c0) (h : tree_count.f k l0 = some r) :
  Calls Tryd.prog 63 #[.slice A0 l0.length c0] w fun e w' => e = .returned (.int .i64 r) ∧ Below w.heap.size w w' := by
 have hu30 := Tryd.underlying30
 have HR0 := Aside0.mk hr0
 have HC0 := Aside0.mk hc0
 clear hr0 hc0
 have HB := xa_ (Below.refl w.heap.size w)
 have H : (tree_count.l0 k 0 l0 (l0.length : Int) 0) = some r := h
 clear h
 have H' := Aside0.mk H
 clear H
 go_enter Tryd.func63, Tryd.ntmps63
 go_wp2
 go_loopg [3, 8] k (fun kq v3 v8 w' => ∃ (x3_1 : Int) (x8_1 : Int), v3 = .int .i64 x3_1 ∧ v8 = .int .i64 x8_1 ∧ Aside0 (tree_count.l0 kq x3_1 l0 (l0.length : Int) x8_1 = some r) ∧ Aside0 (kq ≤ k) ∧ Aside0 (Below w.heap.size w w'))
 case atStart => exact ⟨(0), (0), (by first | rfl | (simp; done) | (simp [*]; done)), (by first | rfl | (simp; done) | (simp [*]; done)), H', ⟨Nat.le_refl _⟩, ⟨by repeat (first | (with_reducible first | exact HB.out | apply below_alloc | apply pw_below_drewN | apply below_drew1) | exact HB.out)⟩⟩
 case round =>
  clear H'
  obtain ⟨x3_1, x8_1, rfl, rfl, HA, HK1, HB⟩ := hrel
  cases gk with
  | zero => exact absurd HA.out (by simp [tree_count.l0])
  | succ k1 =>
   have H := HA.out
   clear HA
   simp only [tree_count.l0] at H
   by_cases c2 : x8_1 < (l0.length : Int)
   ·rw [if_pos c2] at H
    have c2b0 : decide (x8_1 < (l0.length : Int)) = true := decide_eq_true c2
    clear c2
    by_cases c3 : 0 ≤ x8_1
    ·rw [if_pos c3] at H
     have c3b0 : decide (0 ≤ x8_1) = true := decide_eq_true c3
     clear c3
     by_cases c4 : x8_1 < (l0.length : Int)
     ·rw [if_pos c4] at H
      have c4b0 : decide (x8_1 < (l0.length : Int)) = true := decide_eq_true c4
      clear c4
      have H' := Aside0.mk H
      clear H
      have p106 : 0 ≤ (x8_1 : Int) := of_decide_eq_true (by first | (with_reducible assumption) | assumption)
      have q106 : x8_1 < (l0.length : Int) := of_decide_eq_true (by first | (with_reducible assumption) | assumption)
      obtain ⟨ad106, A106_2, c106_2, e106, hx106_0, hx106_1, hx106_2, hl106_2, hi106_2⟩ := at_T30 HR0.out x8_1 p106 q106
      cases e106
      replace hx106_0 := (HB.out.cell (World.block_lt_of_cell? w _ hx106_0)).trans hx106_0
      replace hx106_1 := (HB.out.cell (World.block_lt_of_cell? w _ hx106_1)).trans hx106_1
      replace hx106_2 := (HB.out.cell (World.block_lt_of_cell? w _ hx106_2)).trans hx106_2
      have HR106_2 := Aside0.mk hi106_2
      have HC106_2 := Aside0.mk hl106_2
      clear hi106_2 hl106_2
      replace p106 := eq_true p106
      replace q106 := eq_true q106
      go_wp2_with (first | ((with_reducible refine gate_dst (N := 5) rfl ?_); refine box_event ?hg (N := 5) ?hd (cs := #[.string (⟨#[]⟩ : ByteArray), .bool false, .slice none 0 0]) (t := 30) ?hr ?_; (case hd => rfl); (case hg => rfl); (case hr => first | (go_simp; done) | (go_simp; rfl)); intro gb107 hg w5 hbox hb; have n0_ := xa_ (below_step (by repeat (first | (with_reducible first | exact HB.out | apply below_alloc | apply pw_below_drewN | apply below_drew1) | exact HB.out)) hb); have n1_ := xa_ (hbox); have n2_ := xa_ ((by rw [hg]; exact (below_size (by repeat (first | (with_reducible first | exact HB.out | apply below_alloc | apply pw_below_drewN | apply below_drew1) | exact HB.out))) : w.heap.size ≤ gb107)); have n3_ := xa_ ((by rw [hg]; exact (below_size (by repeat (first | (with_reducible first | exact HB.out | apply below_alloc | apply pw_below_drewN | apply below_drew1) | exact HB.out))) : w.heap.size ≤ gb107)); clear HB; have HB := n0_; have BK107 := n1_; have GW107 := n2_; have GE107 := n3_; clear n0_ n1_ n2_ n3_; clear hb hbox hg; have hcz6_0 : w5.cell? ⟨gb107, 0, none⟩ = some (.string (⟨#[]⟩ : ByteArray)) := (blk_cell BK107.out 0).trans rfl; have hcz6_1 : w5.cell? ⟨gb107, 1, none⟩ = some (.bool false) := (blk_cell BK107.out 1).trans rfl; have hcz6_2 : w5.cell? ⟨gb107, 2, none⟩ = some (.slice none 0 0) := (blk_cell BK107.out 2).trans rfl; have hfz6_0 := blk_frozen BK107.out 0; have hfz6_1 := blk_frozen BK107.out 1; have hfz6_2 := blk_frozen BK107.out 2))
      go_roundg k1
      case measure => have := HK1.out; omega
      case rel => exact ⟨(wrap64 (x3_1 + (((rd_T30 l0 x8_1).f2).length : Int))), (wrap64 (x8_1 + 1)), (by first | rfl | (simp; done) | (simp [*]; done)), (by first | rfl | (simp; done) | (simp [*]; done)), H', ⟨by have := HK1.out; omega⟩, ⟨by repeat (first | (with_reducible first | exact HB.out | apply below_alloc | apply pw_below_drewN | apply below_drew1 | refine below_set ?_ GE107.out) | exact HB.out)⟩⟩
     ·rw [if_neg c4] at H
      exact absurd H (by simp)
    ·rw [if_neg c3] at H
     exact absurd H (by simp)
   ·rw [if_neg c2] at H
    have c2b0 : decide (x8_1 < (l0.length : Int)) = false := decide_eq_false c2
    clear c2
    obtain rfl := Option.some.inj H
    go_wp2
    go_ret
    exact ⟨by first | rfl | (simp [errW_none, errW_some] <;> rfl) | (simp [*, errW_none, errW_some] <;> rfl), by repeat (first | (with_reducible first | exact HB.out | apply below_alloc | apply pw_below_drewN | apply below_drew1) | exact HB.out)⟩



end Go.Proofs.YtidlldfghkaeeaaDoor.P
end
section
namespace Go.Proofs.YtidlldfghkaeeaaDoor.P
open Go.RowKit Go.Proofs.YtidlldfghkaeeaaDoorW.PrintWords Go.Proofs.YtidlldfghkaeeaaDoorW.PrintLast Go.Proofs.YtidlldfghkaeeaaDoorW.PrintMore
set_option linter.unusedVariables false
set_option linter.unusedSimpArgs false

theorem infoE : (Tryd.prog.info? 30).map (fun i => (i.zero, i.size, i.bytes)) = some (some (.agg #[.string ⟨#[]⟩, .bool false, .slice none 0 0]), 3, 48) := by kernel_rfl
theorem sizeE : (Tryd.prog.info? 30).map (·.size) = some 3 := by kernel_rfl
/-- An element's three cells. -/
def Rw (r : List Value) : Prop := r.length = 3 ∧ ∀ u ∈ r, u.oneCell' = true
theorem flat_len : ∀ {rows : List (List Value)}, (∀ r ∈ rows, r.length = 3) → rows.flatten.length = rows.length * 3
  | [], _ => rfl
  | r :: rows, h => by
    have h1 := h r List.mem_cons_self
    have h2 := flat_len (rows := rows) fun x hx => h x (List.mem_cons_of_mem _ hx)
    rw [List.flatten_cons, List.length_append, h1, h2, List.length_cons]
    omega
theorem flat_take : ∀ {rows : List (List Value)} (i : Nat), (∀ r ∈ rows, r.length = 3) → rows.flatten.take (i * 3) = (rows.take i).flatten
  | rows, 0, _ => by simp
  | [], i + 1, _ => by simp
  | r :: rows, i + 1, h => by
    have h1 := h r List.mem_cons_self
    rw [List.flatten_cons, List.take_succ_cons, List.flatten_cons, List.take_append, List.take_of_length_le (by omega), show (i + 1) * 3 - r.length = i * 3 by omega, flat_take i fun x hx => h x (List.mem_cons_of_mem _ hx)]
theorem flat_drop : ∀ {rows : List (List Value)} (i : Nat), (∀ r ∈ rows, r.length = 3) → rows.flatten.drop (i * 3) = (rows.drop i).flatten
  | rows, 0, _ => by simp
  | [], i + 1, _ => by simp
  | r :: rows, i + 1, h => by
    have h1 := h r List.mem_cons_self
    rw [List.flatten_cons, List.drop_succ_cons, List.drop_append, List.drop_eq_nil_of_le (by omega), List.nil_append, show (i + 1) * 3 - r.length = i * 3 by omega, flat_drop i fun x hx => h x (List.mem_cons_of_mem _ hx)]
theorem reps_flat : ∀ {rows : List (List Value)} {inner : List Value}, Reps (fun x cs => cs = x ∧ cs.length = 3 ∧ ∀ u ∈ cs, u.oneCell' = true) 3 rows inner → inner = rows.flatten ∧ ∀ r ∈ rows, Rw r
  | [], inner, h => by
    have := h.1
    rw [List.length_nil, Nat.zero_mul] at this
    exact ⟨List.length_eq_zero_iff.1 this, by simp⟩
  | r :: rows, inner, h => by
    have h0 := h.2 0 r rfl
    rw [Nat.zero_mul, List.drop_zero] at h0
    have h1 : Reps (fun x cs => cs = x ∧ cs.length = 3 ∧ ∀ u ∈ cs, u.oneCell' = true) 3 rows (inner.drop 3) := by
      refine ⟨by rw [List.length_drop, h.1, List.length_cons]; omega, fun j p hj => ?_⟩
      have := h.2 (j + 1) p (by simpa using hj)
      rwa [show (j + 1) * 3 = 3 + j * 3 by omega, ← List.drop_drop] at this
    obtain ⟨e, hr⟩ := reps_flat h1
    refine ⟨?_, fun x hx => ?_⟩
    · rw [List.flatten_cons, ← e, ← h0.1, List.take_append_drop]
    · rcases List.mem_cons.1 hx with rfl | hx
      · exact ⟨by rw [← h0.1]; exact h0.2.1, by rw [← h0.1]; exact h0.2.2⟩
      · exact hr x hx
theorem flat_reps {rows : List (List Value)} (h : ∀ r ∈ rows, Rw r) : Reps (fun x cs => cs = x ∧ cs.length = 3 ∧ ∀ u ∈ cs, u.oneCell' = true) 3 rows rows.flatten := by
  have h3 : ∀ r ∈ rows, r.length = 3 := fun r hr => (h r hr).1
  refine ⟨flat_len h3, fun j p hj => ?_⟩
  obtain ⟨hl, hp⟩ := List.getElem?_eq_some_iff.1 hj
  have hm : p ∈ rows := hp ▸ List.getElem_mem hl
  have hpw := h p hm
  have e : (rows.flatten.drop (j * 3)).take 3 = p := by
    rw [flat_drop j h3, List.drop_eq_getElem_cons hl, hp, List.flatten_cons, List.take_append, List.take_of_length_le (by rw [hpw.1]; exact Nat.le_refl _), hpw.1]
    simp
  rw [e]
  exact ⟨rfl, hpw⟩
/-- A row of entries, its block written out. -/
structure NB (W : World) (base : Nat) (ok : Nat → Prop) (g n cap : Nat) (rows : List (List Value)) (tail : List Value) (xs : List S30) : Prop where
  hb : W.heap[g]? = some (.cells (rows.flatten ++ tail).toArray 30 (0, 0))
  hg : base ≤ g
  hok : ok g
  hn : n = xs.length
  hc : n ≤ cap
  hm : cap ≤ maxLen
  hl : rows.length = n
  hw : ∀ r ∈ rows, Rw r
  ht : tail.length = (cap - n) * 3
  hf : ∀ (j : Nat) (x : S30) (c : List Value), xs[j]? = some x → rows[j]? = some c → Kd.FK k30 W (fun k => ok k ∧ k ≠ g) x c
theorem N_NB {W : World} {base : Nat} {ok : Nat → Prop} {g n cap : Nat} {xs : List S30} (h : Kd.N k30 30 W base ok (.slice (some ⟨g, 0, none⟩) n cap) xs) : ∃ rows tail, NB W base ok g n cap rows tail xs := by
  have hn := (Kd.N_reads' h).1
  obtain ⟨h0, rows, hl, hR, hf⟩ := h
  obtain ⟨_, inner, ⟨hil, hv⟩, hr⟩ := hR
  obtain ⟨e, hw⟩ := reps_flat hr
  rcases hv with ⟨hv, _⟩ | ⟨g', cap', cur, hv, hB, hb, h1, h2, h3, h4⟩
  · cases hv
  · injection hv with hg _ hc
    injection hg with hg
    injection hg with hg
    subst hg
    subst hc
    refine ⟨rows, cur.toList.drop (rows.length * 3), ?_, hB, h0 _ rfl, hn, by omega, h2, by omega, hw, ?_, fun j x c hx hc => Kd.FK_mono (hf j x c hx hc) fun k hk => ⟨hk.1, fun e => hk.2 (by rw [e]; rfl)⟩⟩
    · rw [← e, ← h4]
      have : cur.toList.take (rows.length * (Kd.raw k30.sz).sz) ++ cur.toList.drop (rows.length * 3) = cur.toList := List.take_append_drop _ _
      rw [this]
      exact hb
    · have : cur.size = cap * 3 := h3
      rw [List.length_drop, Array.length_toList, this]
      omega
theorem NB_N {W : World} {base : Nat} {ok : Nat → Prop} {g n cap : Nat} {rows : List (List Value)} {tail : List Value} {xs : List S30} (h : NB W base ok g n cap rows tail xs) : Kd.N k30 30 W base ok (.slice (some ⟨g, 0, none⟩) n cap) xs := by
  have h3 : ∀ r ∈ rows, r.length = 3 := fun r hr => (h.hw r hr).1
  have hfl := flat_len h3
  have hl := h.hl
  have hc := h.hc
  refine ⟨fun k hk => ?_, rows, by rw [h.hl, h.hn], ⟨fun k hk => hk.symm, rows.flatten, ⟨hfl, .inr ⟨g, cap, _, by rw [h.hl], h.hg, h.hb, by omega, h.hm, ?_, ?_⟩⟩, flat_reps h.hw⟩, fun j x c hx hc => Kd.FK_mono (h.hf j x c hx hc) fun k hk => ⟨hk.1, fun e => hk.2 ?_⟩⟩
  · have : k = g := by simpa [Value.ownBlock] using hk.symm
    rw [this]
    exact h.hok
  · rw [List.size_toArray, List.length_append, hfl, h.ht, hl]
    show n * 3 + (cap - n) * 3 = cap * 3
    omega
  · show (rows.flatten ++ tail).take (rows.length * 3) = rows.flatten
    rw [← hfl]
    exact List.take_left
  · have : g = k := by simpa [Value.ownBlock] using e.symm
    exact this.symm
/-- Go's copy, at elements of three cells, into a block of one's own. -/
theorem run_copy3 (w : World) (ty : TypeId) (g o dLen dCap : Nat) (a : Addr) (sLen sCap : Nat) (cur : Array Value) (cs : List Value)
    (hg : w.heap[g]? = some (.cells cur 30 (0, 0))) (hn : cs.length = Nat.min sLen dLen * 3)
    (hsrc : ∀ j v, cs[j]? = some v → w.cell? (a.add j) = some v) (hfit : o + cs.length ≤ cur.size) (h1 : ∀ v ∈ cs, v.oneCell' = true) :
    (Builtin.copy_ #[22, 22] ty #[.slice (some ⟨g, o, none⟩) dLen dCap, .slice (some a) sLen sCap]).run Tryd.prog w =
      .ok (goInt (Nat.min sLen dLen)) (w.setRow g (cur.toList.take o ++ cs ++ cur.toList.drop (o + cs.length)).toArray) := by
  have hl := run_loadCells_list (P := Tryd.prog) w a cs hsrc
  have hst := run_storeCells_at Tryd.prog g o 30 cs 0 cur w hg (by simpa using hfit) h1
  have hs := sizeE
  cases hq : Tryd.prog.info? 30 with
  | none => simp [hq] at hs
  | some i =>
    have hi : i.size = 3 := by simpa [hq] using hs
    simp [Builtin.copy_, run_underlying Tryd.underlying22, Builtin.lenOf, Builtin.firstCells, sizeOf, typeInfo, hq, hi, ← hn, hl, hst]
/-- Slices of a row of entries. -/
theorem run_low (W : World) (g n c m : Nat) (hm : m < c) (hn : m ≤ n) : (Instr.slice 22 (.slice (some ⟨g, 0, none⟩) n c) (some (.int .i64 (m : Int))) none none).run Tryd.prog W = .ok (.slice (some ⟨g, m * 3, none⟩) (n - m) (c - m)) W := by
  have hs := sizeE
  cases hq : Tryd.prog.info? 30 with
  | none => simp [hq] at hs
  | some i =>
    have hi : i.size = 3 := by simpa [hq] using hs
    have hel : Tryd.prog.elem 22 = 30 := by simp [Program.elem, Tryd.underlying22]
    have hu : Tryd.prog.underlying 22 = some (.slice (Tryd.prog.elem 22)) := by rw [hel]; exact Tryd.underlying22
    rw [run_slice_l W 22 _ n c hu .i64 (m : Int) (Int.natCast_nonneg _) (by omega), hel]
    simp [sizeOf, typeInfo, hq, hi, sliced, Result.andThen, show ¬ c = m by omega, add_at]
theorem run_high (W : World) (A : Option Addr) (n c m : Nat) (hm : m ≤ c) : (Instr.slice 22 (.slice A n c) none (some (.int .i64 (m : Int))) none).run Tryd.prog W = .ok (.slice A m c) W := by
  have hs := sizeE
  cases hq : Tryd.prog.info? 30 with
  | none => simp [hq] at hs
  | some i =>
    have hi : i.size = 3 := by simpa [hq] using hs
    have hel : Tryd.prog.elem 22 = 30 := by simp [Program.elem, Tryd.underlying22]
    have hu : Tryd.prog.underlying 22 = some (.slice (Tryd.prog.elem 22)) := by rw [hel]; exact Tryd.underlying22
    rw [run_slice_h W 22 A n c hu .i64 (m : Int) (by omega) (by omega), hel]
    have h0 : (fun x : Addr => x.add 0) = id := funext fun x => by simp [Addr.add]
    simp [sizeOf, typeInfo, hq, hi, sliced, Result.andThen, h0]
end Go.Proofs.YtidlldfghkaeeaaDoor.P
end
section
namespace Go.Proofs.YtidlldfghkaeeaaDoor.P
open Go.RowKit Go.Proofs.YtidlldfghkaeeaaDoorW.PrintWords Go.Proofs.YtidlldfghkaeeaaDoorW.PrintLast Go.Proofs.YtidlldfghkaeeaaDoorW.PrintMore
set_option linter.unusedVariables false
set_option linter.unusedSimpArgs false

theorem ks : Go.Maps.Keyed Tryd.prog 9 := Go.Maps.string_keyed Tryd.underlying9
/-- The block's map tells g of the texts that a map may hold. -/
def MapIs (W : World) (b n : Nat) (g : ByteArray → Bool) : Prop := ∃ D : DataW Unit, W.ownsMap Tryd.prog 9 (plainElem Tryd.prog 4) b n D ∧ ∀ s : ByteArray, D.atKey (.string s.data.toList) (.lit (.bool false)) = .lit (.bool (g s))
theorem MapIs.keep {W W' : World} {b n : Nat} {g : ByteArray → Bool} (h : MapIs W b n g) (hk : W'.heap[b]? = W.heap[b]?) : MapIs W' b n g := by
  obtain ⟨D, ⟨es, clock, hb, F, hs, hD⟩, h2⟩ := h
  exact ⟨D, ⟨es, clock, hk.trans hb, F, hs, hD⟩, h2⟩
theorem MapIs.lt {W : World} {b n : Nat} {g : ByteArray → Bool} (h : MapIs W b n g) : b < W.heap.size := by
  obtain ⟨D, h1, _⟩ := h
  exact h1.lt
theorem MapIs.below {W W' : World} {b n : Nat} {g : ByteArray → Bool} (h : MapIs W b n g) (hb : Below W.heap.size W W') : MapIs W' b n g := h.keep (hb.block b h.lt)
theorem MapIs.made (W : World) : MapIs (W.alloc (.map #[] 0)) W.heap.size 0 (fun _ => false) := ⟨_, World.ownsMap_made W _ _ _, fun s => rfl⟩
theorem MapIs.congr {W : World} {b n : Nat} {g g' : ByteArray → Bool} (h : MapIs W b n g) (hg : ∀ s, g s = g' s) : MapIs W b n g' := by
  obtain ⟨D, h1, h2⟩ := h
  exact ⟨D, h1, fun s => by rw [h2, hg]⟩
theorem MapIs.look {W : World} {b n : Nat} {g : ByteArray → Bool} (h : MapIs W b n g) {s : ByteArray} (hs : s.size ≤ maxLen) : (Instr.lookup 82 (.map (some b)) (.string s) false).run Tryd.prog W = .ok (.bool (g s)) W := by
  obtain ⟨D, h1, h2⟩ := h
  have hz : (zeroValue 4).run Tryd.prog W = .ok (.bool false) W := by
    have h4 : (Tryd.prog.info? 4).map (·.zero) = some (some (.bool false)) := by kernel_rfl
    cases hq : Tryd.prog.info? 4 with
    | none => simp [hq] at h4
    | some i =>
      have hi : i.zero = some (.bool false) := by simpa [hq] using h4
      simp [zeroValue, typeInfo, hq, hi]
  obtain ⟨v, ps, hrun, hv⟩ := h1.lookup ks Tryd.underlying82 hz (plainElem_bool Tryd.underlying4 false) (Go.WideMaps.keyOf_string_mk Tryd.underlying9 hs)
  rw [h2] at hv
  rw [hrun]
  have hu := Tryd.underlying4
  cases v <;> simp [plainElem, hu] at hv
  rw [hv.1]
theorem MapIs.update {W : World} {b n : Nat} {g : ByteArray → Bool} (h : MapIs W b n g) {s : ByteArray} (hs : s.size ≤ maxLen) (hn : n < maxLen) (x : Bool) : ∃ W', (Instr.mapUpdate 82 (.map (some b)) (.string s) (.bool x)).run Tryd.prog W = .ok () W' ∧ MapIs W' b (n + 1) (fun z => if z = s then x else g z) ∧ W.grownBy W' (some b) := by
  obtain ⟨D, h1, h2⟩ := h
  obtain ⟨W', hrun, hown, hg⟩ := h1.update ks Tryd.underlying82 hn (Go.WideMaps.keyOf_string_mk Tryd.underlying9 hs) (plainElem_bool Tryd.underlying4 x)
  refine ⟨W', hrun, ⟨_, hown, fun z => ?_⟩, hg⟩
  have hm : Go.Maps.IsMap D := by
    obtain ⟨es, clock, _, _, _, rfl⟩ := h1
    exact ⟨_, rfl⟩
  by_cases hz : z = s
  · subst hz
    show _ = DataW.lit (Lit.bool (if z = z then x else g z))
    rw [if_pos rfl]
    exact Go.Maps.atKey_put_same (k := .string z.data.toList) hm (show Go.WideAt.IsKeyLit (.string z.data.toList) from trivial) _ _
  · show _ = DataW.lit (Lit.bool (if z = s then x else g z))
    have hne : (Lit.string z.data.toList) ≠ .string s.data.toList := by
      intro e
      injection e with e
      exact hz (ByteArray.ext (Array.toList_inj.1 e))
    rw [if_neg hz, Go.Maps.atKey_put_other hne, h2]
section
variable {ops : Array Oper} {op : Oper} {rest : List Oper} {a : Act} {Q : Exit → Act → World → Prop}
theorem insert_dir {W : World} {b n : Nat} {g : ByteArray → Bool} (h : MapIs W b n g) (hgd : op.guard = none) (m x v : Operand) (hop : op.op = Op.insert 82 m x v) {s : ByteArray} {y : Bool} (hm : a.eval m = .map (some b)) (hx : a.eval x = .string s) (hv : a.eval v = .bool y) (hs : s.size ≤ maxLen) (hn : n < maxLen)
    (hK : ∀ W', MapIs W' b (n + 1) (fun z => if z = s then y else g z) → W.grownBy W' (some b) → wpList Tryd.prog ops Q rest (a.put op.dst undef) W') : wpList Tryd.prog ops Q (op :: rest) a W := by
  refine wpList_plain hgd fun K' hK' => ?_
  obtain ⟨W', hrun, r1, r2⟩ := h.update hs hn y
  unfold Oper.wp
  simp [execOp, hop, hm, hx, hv, hrun, Result.andThen]
  exact hK' _ _ (hK W' r1 r2)
theorem update_dir {W : World} {b n : Nat} {g : ByteArray → Bool} (h : MapIs W b n g) (hgd : op.guard = none) (m x v : Operand) (hop : op.op = Op.mapUpdate 82 m x v) {s : ByteArray} {y : Bool} (hm : a.eval m = .map (some b)) (hx : a.eval x = .string s) (hv : a.eval v = .bool y) (hs : s.size ≤ maxLen) (hn : n < maxLen)
    (hK : ∀ W', MapIs W' b (n + 1) (fun z => if z = s then y else g z) → W.grownBy W' (some b) → wpList Tryd.prog ops Q rest (a.put op.dst undef) W') : wpList Tryd.prog ops Q (op :: rest) a W := by
  refine wpList_plain hgd fun K' hK' => ?_
  obtain ⟨W', hrun, r1, r2⟩ := h.update hs hn y
  unfold Oper.wp
  simp [execOp, hop, hm, hx, hv, hrun, Result.andThen]
  exact hK' _ _ (hK W' r1 r2)
end
end Go.Proofs.YtidlldfghkaeeaaDoor.P
end
section
namespace Go.Proofs.YtidlldfghkaeeaaDoor.P
open Go.RowKit
set_option linter.unusedVariables false
set_option linter.unusedSimpArgs false

/-- Ahead of, in the order of paths. -/
def ltP (a b : ByteArray) : Prop := cL (sp a.data.toList) (sp b.data.toList) < 0
instance (a b : ByteArray) : Decidable (ltP a b) := by unfold ltP; exact inferInstance
theorem ltP_irr (a : ByteArray) : ¬ ltP a a := by
  unfold ltP
  rw [cL_eq.2 rfl]
  omega
theorem ltP_trans {a b c : ByteArray} (h1 : ltP a b) (h2 : ltP b c) : ltP a c := cL_ntrans h1 h2
theorem ltP_asym {a b : ByteArray} (h1 : ltP a b) : ¬ ltP b a := fun h2 => ltP_irr a (ltP_trans h1 h2)
theorem ltP_tri (a b : ByteArray) : ltP a b ∨ a = b ∨ ltP b a := by
  unfold ltP
  rw [cL_anti (sp a.data.toList) (sp b.data.toList)]
  by_cases h : cL (sp a.data.toList) (sp b.data.toList) = 0
  · exact .inr (.inl (ByteArray.ext (Array.toList_inj.1 (sp_inj (cL_eq.1 h)))))
  · omega
theorem ltP_ne {a b : ByteArray} (h : ltP a b) : a ≠ b := fun e => ltP_irr b (e ▸ h)
section
variable {α : Type} (key : α → ByteArray)
def Srt (l : List α) : Prop := l.Pairwise fun a b => ltP (key a) (key b)
def lowB (p : ByteArray) : List α → Nat
  | [] => 0
  | x :: l => if ltP (key x) p then lowB p l + 1 else 0
variable {key}
theorem lowB_le (p : ByteArray) : ∀ l : List α, lowB key p l ≤ l.length
  | [] => Nat.le_refl _
  | x :: l => by
    unfold lowB
    have := lowB_le p l
    split
    · rw [List.length_cons]; omega
    · omega
theorem lowB_lt {p : ByteArray} : ∀ {l : List α} {i : Nat} (h : i < lowB key p l) (hi : i < l.length), ltP (key l[i]) p
  | x :: l, i, h, hi => by
    unfold lowB at h
    split at h
    · rename_i hx
      cases i with
      | zero => exact hx
      | succ i => exact lowB_lt (l := l) (by omega) _
    · omega
theorem lowB_ge {p : ByteArray} : ∀ {l : List α} {i : Nat} (hs : Srt key l) (h : lowB key p l ≤ i) (hi : i < l.length), ¬ ltP (key l[i]) p
  | x :: l, i, hs, h, hi => by
    unfold lowB at h
    have h1 := List.pairwise_cons.1 hs
    split at h
    · rename_i hx
      cases i with
      | zero => omega
      | succ i => exact lowB_ge (l := l) h1.2 (by omega) _
    · rename_i hx
      cases i with
      | zero => exact hx
      | succ i => exact fun hc => hx (ltP_trans (h1.1 _ (List.getElem_mem _)) hc)
/-- A bound that parts the row is the bound. -/
theorem lowB_uniq {p : ByteArray} {l : List α} {i : Nat} (hs : Srt key l) (hl : i ≤ l.length) (h1 : ∀ j (hj : j < l.length), j < i → ltP (key l[j]) p) (h2 : ∀ j (hj : j < l.length), i ≤ j → ¬ ltP (key l[j]) p) : i = lowB key p l := by
  have hb := lowB_le (key := key) p l
  rcases Nat.lt_trichotomy i (lowB key p l) with h | h | h
  · exact absurd (lowB_lt h (by omega)) (h2 i (by omega) (Nat.le_refl _))
  · exact h
  · exact absurd (h1 _ (by omega) h) (lowB_ge hs (Nat.le_refl _) (by omega))
theorem lowB_at {p : ByteArray} {l : List α} (hs : Srt key l) : (∃ h : lowB key p l < l.length, key l[lowB key p l] = p) ↔ ∃ e ∈ l, key e = p := by
  constructor
  · rintro ⟨h, e⟩
    exact ⟨_, List.getElem_mem h, e⟩
  · rintro ⟨e, he, hk⟩
    obtain ⟨j, hj, rfl⟩ := List.mem_iff_getElem.1 he
    have h0 : ¬ j < lowB key p l := fun h => ltP_irr p (hk ▸ lowB_lt h hj)
    have h1 : lowB key p l < l.length := by omega
    refine ⟨h1, ?_⟩
    rcases Nat.lt_or_ge (lowB key p l) j with h2 | h2
    · have h3 := List.pairwise_iff_getElem.1 hs _ _ h1 hj h2
      rw [hk] at h3
      exact absurd h3 (lowB_ge hs (Nat.le_refl _) h1)
    · obtain rfl : j = lowB key p l := by omega
      exact hk
theorem srt_key {l : List α} (hs : Srt key l) {a b : α} (ha : a ∈ l) (hb : b ∈ l) (h : key a = key b) : a = b := by
  obtain ⟨i, hi, rfl⟩ := List.mem_iff_getElem.1 ha
  obtain ⟨j, hj, rfl⟩ := List.mem_iff_getElem.1 hb
  rcases Nat.lt_trichotomy i j with h1 | h1 | h1
  · exact absurd h (ltP_ne (List.pairwise_iff_getElem.1 hs _ _ hi hj h1))
  · subst h1; rfl
  · exact absurd h.symm (ltP_ne (List.pairwise_iff_getElem.1 hs _ _ hj hi h1))
variable (key)
/-- Put in its place, in place of one of that path. -/
def insE (e : α) : List α → List α
  | [] => [e]
  | x :: l => if ltP (key x) (key e) then x :: insE e l else if key x = key e then e :: l else e :: x :: l
/-- All but that of a path. -/
def delE (p : ByteArray) (l : List α) : List α := l.filter fun e => decide (key e ≠ p)
variable {key}
theorem insE_set {e : α} : ∀ {l : List α} {i : Nat} (h : i = lowB key (key e) l) (hi : i < l.length) (hk : key l[i] = key e), l.set i e = insE key e l
  | x :: l, i, h, hi, hk => by
    unfold lowB at h
    unfold insE
    split at h
    · rename_i hx
      subst h
      rw [if_pos hx, List.set_cons_succ]
      rw [insE_set (l := l) rfl (by simpa using hi) (by simpa using hk)]
    · rename_i hx
      subst h
      rw [if_neg hx, if_pos (show key x = key e from hk)]
      rfl
theorem insE_new {e : α} : ∀ {l : List α} {i : Nat} (h : i = lowB key (key e) l) (hk : ∀ hi : i < l.length, key l[i] ≠ key e), l.take i ++ e :: l.drop i = insE key e l
  | [], i, h, hk => by
    simp [insE]
  | x :: l, i, h, hk => by
    unfold lowB at h
    unfold insE
    split at h
    · rename_i hx
      subst h
      rw [if_pos hx, List.take_succ_cons, List.drop_succ_cons, List.cons_append]
      rw [insE_new (l := l) rfl (fun hi => hk (Nat.succ_lt_succ hi))]
    · rename_i hx
      subst h
      rw [if_neg hx, if_neg (show ¬ key x = key e from hk (Nat.succ_pos _))]
      rfl
theorem insE_mem {e y : α} : ∀ {l : List α} (hs : Srt key l), y ∈ insE key e l ↔ y = e ∨ (y ∈ l ∧ key y ≠ key e)
  | [], _ => by simp [insE]
  | x :: l, hs => by
    have h1 := List.pairwise_cons.1 hs
    have ih := insE_mem (e := e) (y := y) h1.2
    unfold insE
    split
    · rename_i hx
      rw [List.mem_cons, ih, List.mem_cons]
      constructor
      · rintro (rfl | h | h)
        · exact .inr ⟨.inl rfl, ltP_ne hx⟩
        · exact .inl h
        · exact .inr ⟨.inr h.1, h.2⟩
      · rintro (h | ⟨rfl | h, h2⟩)
        · exact .inr (.inl h)
        · exact .inl rfl
        · exact .inr (.inr ⟨h, h2⟩)
    · rename_i hx
      split
      · rename_i hk
        rw [List.mem_cons, List.mem_cons]
        constructor
        · rintro (h | h)
          · exact .inl h
          · exact .inr ⟨.inr h, fun e2 => ltP_ne (h1.1 y h) (hk.trans e2.symm)⟩
        · rintro (h | ⟨rfl | h, h2⟩)
          · exact .inl h
          · exact absurd hk h2
          · exact .inr h
      · rename_i hk
        rw [List.mem_cons, List.mem_cons]
        have hlt : ltP (key e) (key x) := by
          rcases ltP_tri (key x) (key e) with h | h | h
          · exact absurd h hx
          · exact absurd h hk
          · exact h
        constructor
        · rintro (h | rfl | h)
          · exact .inl h
          · exact .inr ⟨.inl rfl, hk⟩
          · exact .inr ⟨.inr h, fun e2 => ltP_irr (key e) (by have h3 := ltP_trans hlt (h1.1 y h); rwa [e2] at h3)⟩
        · rintro (h | ⟨h, h2⟩)
          · exact .inl h
          · exact .inr h
theorem insE_srt {e : α} : ∀ {l : List α} (hs : Srt key l), Srt key (insE key e l)
  | [], _ => by
    unfold insE
    exact List.pairwise_singleton _ _
  | x :: l, hs => by
    have h1 := List.pairwise_cons.1 hs
    unfold insE
    split
    · rename_i hx
      refine List.pairwise_cons.2 ⟨fun y hy => ?_, insE_srt h1.2⟩
      rcases (insE_mem h1.2).1 hy with rfl | hy
      · exact hx
      · exact h1.1 y hy.1
    · rename_i hx
      split
      · rename_i hk
        exact List.pairwise_cons.2 ⟨fun y hy => by rw [← hk]; exact h1.1 y hy, h1.2⟩
      · rename_i hk
        have hlt : ltP (key e) (key x) := by
          rcases ltP_tri (key x) (key e) with h | h | h
          · exact absurd h hx
          · exact absurd h hk
          · exact h
        refine List.pairwise_cons.2 ⟨fun y hy => ?_, hs⟩
        rcases List.mem_cons.1 hy with rfl | hy
        · exact hlt
        · exact ltP_trans hlt (h1.1 y hy)
end
end Go.Proofs.YtidlldfghkaeeaaDoor.P
end
