/- Put together by pack2.py: PfTreeMake, PfTreePut, PfBytesEqual, SamE -/
import Derived.Test.YtidlldfghkaeeaaGreatDoorZyRefNamesEtc
import Derived.Test.YtidlldfghkaeeaaGreatDoorZyPfTreeFindEtc
import Derived.Test.YtidlldfghkaeeaaGreatDoorZyTreeWith
import Derived.Test.YtidlldfghkaeeaaGreatDoorZyLaidKEtc
import Derived.Test.YtidlldfghkaeeaaGreatDoorZyTreeOkEtc
import Derived.Test.YtidlldfghkaeeaaGreatDoorZyW0
set_option linter.unusedVariables false
set_option linter.unusedSimpArgs false
set_option maxHeartbeats 8000000
set_option maxRecDepth 100000
section
namespace Go.Proofs.YtidlldfghkaeeaaGreatDoor.P
open Go.RowKit Go.Proofs.YtidlldfghkaeeaaGreatDoorW.PrintWords Go.Proofs.YtidlldfghkaeeaaGreatDoorW.PrintLast Go.Proofs.YtidlldfghkaeeaaGreatDoorW.PrintMore
attribute [local go_sem] max2_int min2_int max_two min_two max_three min_three max_four min_four
def tree_Make.f (l0_0 : List (S42)) (a1 : ByteArray) : Option ((List (S42)) × Int) := (tree_Find.f l0_0 a1).bind fun bt146 => (if bt146.2.2.2 = 0 then (some (l0_0, 6)) else (if bt146.2.2.2 = 5 then ((tree_with.f l0_0 a1 true ([] : List Int)).bind fun bt153 => (some (bt153.1, bt153.2))) else (some (l0_0, bt146.2.2.2))))
theorem tree_Make.calls (P0_0_ : Nat → Prop) (A0_0 : Option Addr) (c0_0 : Nat) (l0_0 : List (S42)) (a1 : ByteArray) (r1 : List (S42)) (r2 : Int) (w : World) (hs0_0 : Kd.V k42 42 w w.heap.size (fun k_ => P0_0_ k_) (.slice A0_0 l0_0.length c0_0) l0_0) (h : tree_Make.f l0_0 a1 = some (r1, r2)) :
  Calls Tryz.prog 8 #[.agg #[.slice A0_0 l0_0.length c0_0], .string a1] w fun e w' => ∃ v0_ : Value, e = .returned (.tuple #[.agg #[v0_], .int .i64 r2]) ∧ Kd.V k42 42 w' w.heap.size (fun k_ => (P0_0_ k_ ∨ w.heap.size ≤ k_)) v0_ r1 ∧ Below w.heap.size w w' := by
 have hu26 := Tryz.underlying26
 have hu42 := Tryz.underlying42
 have HO0_0 := xa_ (show Kd.V k42 42 w w.heap.size (fun k_ => (P0_0_ k_ ∨ w.heap.size ≤ k_)) (.slice A0_0 l0_0.length c0_0) l0_0 from Kd.V_mono hs0_0 (fun k_ hk => .inl hk))
 have HB := xa_ (Below.refl w.heap.size w)
 have H : ((tree_Find.f l0_0 a1).bind fun bt146 => (if bt146.2.2.2 = 0 then (some (l0_0, 6)) else (if bt146.2.2.2 = 5 then ((tree_with.f l0_0 a1 true ([] : List Int)).bind fun bt153 => (some (bt153.1, bt153.2))) else (some (l0_0, bt146.2.2.2))))) = some (r1, r2) := h
 clear h
 replace H := Option.bind_eq_some_iff.mp H
 obtain ⟨⟨t146, t147, t148, t151⟩, A30, H⟩ := H
 replace H : (if t151 = 0 then (some (l0_0, 6)) else (if t151 = 5 then ((tree_with.f l0_0 a1 true ([] : List Int)).bind fun bt153 => (some (bt153.1, bt153.2))) else (some (l0_0, t151)))) = some (r1, r2) := H
 have A3 := Aside0.mk A30
 clear A30
 by_cases c4 : t151 = 0
 ·rw [if_pos c4] at H
  have c4b0 : (t151 == 0) = true := beq_iff_eq.mpr c4
  have c4b1 : (t151 != 0) = false := bne_eq_false_iff_eq.mpr c4
  clear c4
  simp only [Option.some.injEq, Prod.mk.injEq] at H
  obtain ⟨rfl, rfl⟩ := H
  go_enter Tryz.func8, Tryz.ntmps8
  go_wp2_with (first | ((with_reducible refine gate_dst (N := 2) rfl ?_); refine box_event ?hg (N := 2) ?hd (cs := #[.slice A0_0 l0_0.length c0_0]) (t := 26) ?hr ?_; (case hd => rfl); (case hg => rfl); (case hr => first | (go_simp; done) | (go_simp; rfl)); intro gb144 hg w5 hbox hb; have BK144 := xa_ (hbox); have GW144 := xa_ ((by rw [hg]; exact (below_size (xw_ HB.out)) : w.heap.size ≤ gb144)); have GE144 := xa_ ((by rw [hg]; exact (below_size (xw_ HB.out)) : w.heap.size ≤ gb144)); replace HO0_0 := xa_ (Kd.V_below (Kd.V_elderB (xV_ HO0_0.out) gb144 (Nat.le_of_eq hg.symm)) hb); replace HB := xa_ (below_step (xw_ HB.out) hb); clear hb hbox hg) | ((with_reducible refine gate_dst (N := 4) rfl ?_); refine box_event ?hg (N := 4) ?hd (cs := #[.slice none 0 0]) (t := 26) ?hr ?_; (case hd => rfl); (case hg => rfl); (case hr => first | (go_simp; done) | (go_simp; rfl)); intro gb145 hg w6 hbox hb; have BK145 := xa_ (hbox); have GW145 := xa_ ((by rw [hg]; exact (below_size (xw_ HB.out)) : w.heap.size ≤ gb145)); have GE145 := xa_ ((by rw [hg]; exact (below_size (xw_ HB.out)) : w.heap.size ≤ gb145)); have NB144_145 := xa_ ((by rw [hg]; exact Nat.ne_of_lt (blk_lt (xb_ BK144.out)) : gb144 ≠ gb145)); have NB145_144 := xa_ ((by rw [hg]; exact Nat.ne_of_gt (blk_lt (xb_ BK144.out)) : gb145 ≠ gb144)); replace HO0_0 := xa_ (Kd.V_below (Kd.V_elderB (xV_ HO0_0.out) gb145 (Nat.le_of_eq hg.symm)) hb); replace BK144 := xa_ (blk_below (xb_ BK144.out) hb); replace HB := xa_ (below_step (xw_ HB.out) hb); clear hb hbox hg; have hnb7 := NB144_145.out; have hnc7 := NB145_144.out; have hcz8_0 : w6.cell? ⟨gb144, 0, none⟩ = some (.slice A0_0 l0_0.length c0_0) := (blk_cell BK144.out 0).trans rfl; have hfz8_0 := blk_frozen BK144.out 0) | ((with_reducible refine gate_callee (f := 14) rfl ?_); refine goesL_ (some 11) rfl rfl Tryz.func14 (by kernel_rfl) rfl #[.agg #[.slice A0_0 l0_0.length c0_0], .string a1] rfl (by (try simp only [ca_]); first | done | rfl) ?_; (with_reducible refine (tree_Find.calls _ _ l0_0 a1 t146 t147 t148 t151 _ ?side1 ?side2 A3.out).mono ?_); (case side1 => exact xC_ (Kd.V_reads' HO0_0.out).2.2); (case side2 => exact (Kd.V_reads' HO0_0.out).2.1); rintro e w9 ⟨v149, rfl, ho0, hb⟩; refine ⟨_, rfl, ?_⟩; replace HO0_0 := xa_ (Kd.V_elder' (xV_ HO0_0.out) (Kd.R_base ho0) hb); replace HO150 := xa_ (Kd.R_lower (Kd.R_newM (M := fun k_ => (w.heap.size ≤ k_)) ho0 (below_size (xw_ HB.out)) (fun k_ h_ => h_)) (below_size (xw_ HB.out))); replace BK144 := xa_ (blk_below (xb_ BK144.out) hb); replace BK145 := xa_ (blk_below (xb_ BK145.out) hb); replace HB := xa_ (below_step (xw_ HB.out) hb); (try clear hb); (try clear hb2); (try clear hk); (try clear hi); (try clear ho0)) | ((with_reducible refine gate_dst (N := 6) rfl ?_); refine box_event ?hg (N := 6) ?hd (cs := #[.string (⟨#[]⟩ : ByteArray), .bool false, .slice none 0 0]) (t := 42) ?hr ?_; (case hd => rfl); (case hg => rfl); (case hr => first | (go_simp; done) | (go_simp; rfl)); intro gb152 hg w10 hbox hb; have BK152 := xa_ (hbox); have GW152 := xa_ ((by rw [hg]; exact (below_size (xw_ HB.out)) : w.heap.size ≤ gb152)); have GE152 := xa_ ((by rw [hg]; exact (below_size (xw_ HB.out)) : w.heap.size ≤ gb152)); have NB144_152 := xa_ ((by rw [hg]; exact Nat.ne_of_lt (blk_lt (xb_ BK144.out)) : gb144 ≠ gb152)); have NB152_144 := xa_ ((by rw [hg]; exact Nat.ne_of_gt (blk_lt (xb_ BK144.out)) : gb152 ≠ gb144)); have NB145_152 := xa_ ((by rw [hg]; exact Nat.ne_of_lt (blk_lt (xb_ BK145.out)) : gb145 ≠ gb152)); have NB152_145 := xa_ ((by rw [hg]; exact Nat.ne_of_gt (blk_lt (xb_ BK145.out)) : gb152 ≠ gb145)); replace HO0_0 := xa_ (Kd.V_below (Kd.V_elderB (xV_ HO0_0.out) gb152 (Nat.le_of_eq hg.symm)) hb); replace HO150 := xa_ (Kd.R_below (xR_ HO150.out) hb); replace BK144 := xa_ (blk_below (xb_ BK144.out) hb); replace BK145 := xa_ (blk_below (xb_ BK145.out) hb); replace HB := xa_ (below_step (xw_ HB.out) hb); clear hb hbox hg; have hnb11 := NB152_144.out; have hnc11 := NB144_152.out; have hnb12 := NB152_145.out; have hnc12 := NB145_152.out; have hcz13_0 : w10.cell? ⟨gb152, 0, none⟩ = some (.string (⟨#[]⟩ : ByteArray)) := (blk_cell BK152.out 0).trans rfl; have hcz13_1 : w10.cell? ⟨gb152, 1, none⟩ = some (.bool false) := (blk_cell BK152.out 1).trans rfl; have hcz13_2 : w10.cell? ⟨gb152, 2, none⟩ = some (.slice none 0 0) := (blk_cell BK152.out 2).trans rfl; have hfz13_0 := blk_frozen BK152.out 0; have hfz13_1 := blk_frozen BK152.out 1; have hfz13_2 := blk_frozen BK152.out 2; obtain ⟨Ao14, co14, eo14⟩ := Kd.R_slice HO150.out; subst eo14; have hcz15_0 : w10.cell? ⟨gb144, 0, none⟩ = some (.slice A0_0 l0_0.length c0_0) := (blk_cell BK144.out 0).trans rfl; have hfz15_0 := blk_frozen BK144.out 0; have hcz16_0 : w10.cell? ⟨gb145, 0, none⟩ = some (.slice none 0 0) := (blk_cell BK145.out 0).trans rfl; have hfz16_0 := blk_frozen BK145.out 0))
  refine bodyPost_ret (results_ct rfl _ _ gb145 26 #[.slice A0_0 l0_0.length c0_0] (0, 0) _ rfl (by (with_reducible repeat (first | refine blk_drewN ?_ _ | refine blk_drew ?_ | refine blk_alloc ?_ _)); refine blk_put (cs := #[.slice none 0 0]) ?_ 0 _ rfl; (with_reducible repeat (first | refine blk_drewN ?_ _ | refine blk_drew ?_ | refine blk_alloc ?_ _)); refine blk_far ?_ NB145_152.out _; (with_reducible repeat (first | refine blk_drewN ?_ _ | refine blk_drew ?_ | refine blk_alloc ?_ _)); refine blk_far ?_ NB145_152.out _; (with_reducible repeat (first | refine blk_drewN ?_ _ | refine blk_drew ?_ | refine blk_alloc ?_ _)); refine blk_far ?_ NB145_152.out _; (with_reducible repeat (first | refine blk_drewN ?_ _ | refine blk_drew ?_ | refine blk_alloc ?_ _)); exact BK145.out) Tryz.underlying26 rfl (by kernel_rfl)) rfl ?_
  exact ⟨_, by first | rfl | (simp [*, errW_none, errW_some] <;> rfl), by (with_reducible repeat (first | apply Kd.V_alloc | apply Kd.V_drewN | apply Kd.V_drew)); exact Kd.V_mono (vf_ (Kd.V_far (p := ⟨gb152, 2, none⟩) (Kd.V_far (p := ⟨gb152, 1, none⟩) (Kd.V_far (p := ⟨gb152, 0, none⟩) (Kd.V_mono (Kd.V_mono HO0_0.out (fun k_ hk => (⟨hk, hk.2⟩ : _ ∧ k_ ≠ gb152))) (fun k_ hk => (⟨hk, hk.1.1.1.2⟩ : _ ∧ k_ ≠ gb145))) (fun _ hk => hk.1.2) (.string t146)) (fun _ hk => hk.1.2) (.bool t147)) (fun _ hk => hk.1.2) (.slice Ao14 t148.length co14))) (fun _ hk => hk.1.1.1.1.1.1), by repeat (first | (with_reducible first | exact HB.out | apply below_alloc | apply pw_below_drewN | apply below_drew1 | refine below_set ?_ GE144.out | refine below_set ?_ GE145.out | refine below_set ?_ GE152.out) | exact HB.out)⟩
 ·rw [if_neg c4] at H
  have c4b0 : (t151 == 0) = false := beq_eq_false_iff_ne.mpr c4
  have c4b1 : (t151 != 0) = true := bne_iff_ne.mpr c4
  by_cases c17 : t151 = 5
  ·rw [if_pos c17] at H
   have c17b0 : (t151 == 5) = true := beq_iff_eq.mpr c17
   have c17b1 : (t151 != 5) = false := bne_eq_false_iff_eq.mpr c17
   clear c17
   replace H := Option.bind_eq_some_iff.mp H
   obtain ⟨⟨t153, t156⟩, A180, H⟩ := H
   replace H : (some (t153, t156)) = some (r1, r2) := H
   have A18 := Aside0.mk A180
   clear A180
   simp only [Option.some.injEq, Prod.mk.injEq] at H
   obtain ⟨rfl, rfl⟩ := H
   go_enter Tryz.func8, Tryz.ntmps8
   go_wp2_with (first | ((with_reducible refine gate_dst (N := 2) rfl ?_); refine box_event ?hg (N := 2) ?hd (cs := #[.slice A0_0 l0_0.length c0_0]) (t := 26) ?hr ?_; (case hd => rfl); (case hg => rfl); (case hr => first | (go_simp; done) | (go_simp; rfl)); intro gb144 hg w19 hbox hb; have BK144 := xa_ (hbox); have GW144 := xa_ ((by rw [hg]; exact (below_size (xw_ HB.out)) : w.heap.size ≤ gb144)); have GE144 := xa_ ((by rw [hg]; exact (below_size (xw_ HB.out)) : w.heap.size ≤ gb144)); replace HO0_0 := xa_ (Kd.V_below (Kd.V_elderB (xV_ HO0_0.out) gb144 (Nat.le_of_eq hg.symm)) hb); replace HB := xa_ (below_step (xw_ HB.out) hb); clear hb hbox hg) | ((with_reducible refine gate_dst (N := 4) rfl ?_); refine box_event ?hg (N := 4) ?hd (cs := #[.slice none 0 0]) (t := 26) ?hr ?_; (case hd => rfl); (case hg => rfl); (case hr => first | (go_simp; done) | (go_simp; rfl)); intro gb145 hg w20 hbox hb; have BK145 := xa_ (hbox); have GW145 := xa_ ((by rw [hg]; exact (below_size (xw_ HB.out)) : w.heap.size ≤ gb145)); have GE145 := xa_ ((by rw [hg]; exact (below_size (xw_ HB.out)) : w.heap.size ≤ gb145)); have NB144_145 := xa_ ((by rw [hg]; exact Nat.ne_of_lt (blk_lt (xb_ BK144.out)) : gb144 ≠ gb145)); have NB145_144 := xa_ ((by rw [hg]; exact Nat.ne_of_gt (blk_lt (xb_ BK144.out)) : gb145 ≠ gb144)); replace HO0_0 := xa_ (Kd.V_below (Kd.V_elderB (xV_ HO0_0.out) gb145 (Nat.le_of_eq hg.symm)) hb); replace BK144 := xa_ (blk_below (xb_ BK144.out) hb); replace HB := xa_ (below_step (xw_ HB.out) hb); clear hb hbox hg; have hnb21 := NB144_145.out; have hnc21 := NB145_144.out; have hcz22_0 : w20.cell? ⟨gb144, 0, none⟩ = some (.slice A0_0 l0_0.length c0_0) := (blk_cell BK144.out 0).trans rfl; have hfz22_0 := blk_frozen BK144.out 0) | ((with_reducible refine gate_callee (f := 14) rfl ?_); refine goesL_ (some 11) rfl rfl Tryz.func14 (by kernel_rfl) rfl #[.agg #[.slice A0_0 l0_0.length c0_0], .string a1] rfl (by (try simp only [ca_]); first | done | rfl) ?_; (with_reducible refine (tree_Find.calls _ _ l0_0 a1 t146 t147 t148 t151 _ ?side1 ?side2 A3.out).mono ?_); (case side1 => exact xC_ (Kd.V_reads' HO0_0.out).2.2); (case side2 => exact (Kd.V_reads' HO0_0.out).2.1); rintro e w23 ⟨v149, rfl, ho0, hb⟩; refine ⟨_, rfl, ?_⟩; replace HO0_0 := xa_ (Kd.V_elder' (xV_ HO0_0.out) (Kd.R_base ho0) hb); replace HO150 := xa_ (Kd.R_lower (Kd.R_newM (M := fun k_ => (w.heap.size ≤ k_)) ho0 (below_size (xw_ HB.out)) (fun k_ h_ => h_)) (below_size (xw_ HB.out))); replace BK144 := xa_ (blk_below (xb_ BK144.out) hb); replace BK145 := xa_ (blk_below (xb_ BK145.out) hb); replace HB := xa_ (below_step (xw_ HB.out) hb); (try clear hb); (try clear hb2); (try clear hk); (try clear hi); (try clear ho0)) | ((with_reducible refine gate_dst (N := 6) rfl ?_); refine box_event ?hg (N := 6) ?hd (cs := #[.string (⟨#[]⟩ : ByteArray), .bool false, .slice none 0 0]) (t := 42) ?hr ?_; (case hd => rfl); (case hg => rfl); (case hr => first | (go_simp; done) | (go_simp; rfl)); intro gb152 hg w24 hbox hb; have BK152 := xa_ (hbox); have GW152 := xa_ ((by rw [hg]; exact (below_size (xw_ HB.out)) : w.heap.size ≤ gb152)); have GE152 := xa_ ((by rw [hg]; exact (below_size (xw_ HB.out)) : w.heap.size ≤ gb152)); have NB144_152 := xa_ ((by rw [hg]; exact Nat.ne_of_lt (blk_lt (xb_ BK144.out)) : gb144 ≠ gb152)); have NB152_144 := xa_ ((by rw [hg]; exact Nat.ne_of_gt (blk_lt (xb_ BK144.out)) : gb152 ≠ gb144)); have NB145_152 := xa_ ((by rw [hg]; exact Nat.ne_of_lt (blk_lt (xb_ BK145.out)) : gb145 ≠ gb152)); have NB152_145 := xa_ ((by rw [hg]; exact Nat.ne_of_gt (blk_lt (xb_ BK145.out)) : gb152 ≠ gb145)); replace HO0_0 := xa_ (Kd.V_below (Kd.V_elderB (xV_ HO0_0.out) gb152 (Nat.le_of_eq hg.symm)) hb); replace HO150 := xa_ (Kd.R_below (xR_ HO150.out) hb); replace BK144 := xa_ (blk_below (xb_ BK144.out) hb); replace BK145 := xa_ (blk_below (xb_ BK145.out) hb); replace HB := xa_ (below_step (xw_ HB.out) hb); clear hb hbox hg; have hnb25 := NB152_144.out; have hnc25 := NB144_152.out; have hnb26 := NB152_145.out; have hnc26 := NB145_152.out; have hcz27_0 : w24.cell? ⟨gb152, 0, none⟩ = some (.string (⟨#[]⟩ : ByteArray)) := (blk_cell BK152.out 0).trans rfl; have hcz27_1 : w24.cell? ⟨gb152, 1, none⟩ = some (.bool false) := (blk_cell BK152.out 1).trans rfl; have hcz27_2 : w24.cell? ⟨gb152, 2, none⟩ = some (.slice none 0 0) := (blk_cell BK152.out 2).trans rfl; have hfz27_0 := blk_frozen BK152.out 0; have hfz27_1 := blk_frozen BK152.out 1; have hfz27_2 := blk_frozen BK152.out 2; obtain ⟨Ao28, co28, eo28⟩ := Kd.R_slice HO150.out; subst eo28) | ((with_reducible refine gate_store (t := 42) (p := 6) rfl ?_); refine store_event (t := 42) (p := 6) (v := ?vo_w29) (w1 := (((w24.setCell ⟨gb152, 0, none⟩ (.string t146)).setCell ⟨gb152, 1, none⟩ (.bool t147)).setCell ⟨gb152, 2, none⟩ (.slice Ao28 t148.length co28))) ?hg ?ho ?hn ?hr ?_; (case ho => rfl); (case hg => rfl); (case hn => rfl); (case hr => first | (go_simp; done) | (go_simp; rfl)); intro w29 hw; have n0_ : Aside0 (Kd.V k42 42 w29 w.heap.size (fun k_ => (P0_0_ k_ ∨ w.heap.size ≤ k_) ∧ some k_ ≠ (.slice Ao28 t148.length co28 : Value).ownBlock ∧ k_ ≠ gb144 ∧ k_ ≠ gb145 ∧ k_ ≠ gb152) (.slice A0_0 l0_0.length c0_0) l0_0) := ⟨(by rw [hw]; exact (by (with_reducible repeat (first | apply Kd.V_alloc | apply Kd.V_drewN | apply Kd.V_drew)); exact Kd.V_mono (vf_ (vf_ (vf_ (Kd.V_mono HO0_0.out (fun k_ hk => (⟨hk, hk.2⟩ : _ ∧ k_ ≠ gb152)))))) (fun _ hk => ⟨hk.1.1.1.1.1, ⟨hk.1.1.2, ⟨hk.1.1.1.1.2, ⟨hk.1.1.1.2, hk.1.2⟩⟩⟩⟩)))⟩; have n1_ : Aside0 (Kd.R (Kd.int .u8) 5 w29 w.heap.size (fun k_ => (w.heap.size ≤ k_)) (.slice Ao28 t148.length co28) t148) := ⟨(by rw [hw]; exact (by (with_reducible repeat (first | apply Kd.R_alloc | apply Kd.R_drewN | apply Kd.R_drew)); exact Kd.R_mono (Kd.R_far (p := ⟨gb152, 2, none⟩) (Kd.R_far (p := ⟨gb152, 1, none⟩) (Kd.R_far (p := ⟨gb152, 0, none⟩) (Kd.R_types HO150.out BK152.out (by decide)) (fun _ hk => hk.2) (.string t146)) (fun _ hk => hk.2) (.bool t147)) (fun _ hk => hk.2) (.slice Ao28 t148.length co28)) (fun _ hk => hk.1.1)))⟩; have n2_ : Aside0 (w29.heap[gb144]? = some (.cells #[.slice A0_0 l0_0.length c0_0] 26 (0, 0))) := ⟨(by rw [hw]; exact (by (with_reducible repeat (first | refine blk_drewN ?_ _ | refine blk_drew ?_ | refine blk_alloc ?_ _)); refine blk_far ?_ NB144_152.out _; refine blk_far ?_ NB144_152.out _; (with_reducible repeat (first | refine blk_drewN ?_ _ | refine blk_drew ?_ | refine blk_alloc ?_ _)); refine blk_far ?_ NB144_152.out _; exact BK144.out))⟩; have n3_ : Aside0 (w29.heap[gb145]? = some (.cells #[.slice none 0 0] 26 (0, 0))) := ⟨(by rw [hw]; exact (by (with_reducible repeat (first | refine blk_drewN ?_ _ | refine blk_drew ?_ | refine blk_alloc ?_ _)); refine blk_far ?_ NB145_152.out _; refine blk_far ?_ NB145_152.out _; (with_reducible repeat (first | refine blk_drewN ?_ _ | refine blk_drew ?_ | refine blk_alloc ?_ _)); refine blk_far ?_ NB145_152.out _; exact BK145.out))⟩; have n4_ : Aside0 (w29.heap[gb152]? = some (.cells #[.string t146, .bool t147, .slice Ao28 t148.length co28] 42 (0, 0))) := ⟨(by rw [hw]; exact (by (with_reducible repeat (first | refine blk_drewN ?_ _ | refine blk_drew ?_ | refine blk_alloc ?_ _)); refine blk_put (cs := #[.string t146, .bool t147, .slice none 0 0]) ?_ 2 _ rfl; refine blk_put (cs := #[.string t146, .bool false, .slice none 0 0]) ?_ 1 _ rfl; (with_reducible repeat (first | refine blk_drewN ?_ _ | refine blk_drew ?_ | refine blk_alloc ?_ _)); refine blk_put (cs := #[.string (⟨#[]⟩ : ByteArray), .bool false, .slice none 0 0]) ?_ 0 _ rfl; exact BK152.out))⟩; have n5_ : Aside0 (Below w.heap.size w w29) := ⟨(by rw [hw]; exact (by repeat (first | (with_reducible first | exact HB.out | apply below_alloc | apply pw_below_drewN | apply below_drew1 | refine below_set ?_ GE144.out | refine below_set ?_ GE145.out | refine below_set ?_ GE152.out) | exact HB.out)))⟩; clear hw; clear HO0_0; clear HO150; clear BK144; clear BK145; clear BK152; clear HB; have HO0_0 := n0_; have HO150 := n1_; have BK144 := n2_; have BK145 := n3_; have BK152 := n4_; have HB := n5_; clear n0_ n1_ n2_ n3_ n4_ n5_; have hcz30_0 : w29.cell? ⟨gb144, 0, none⟩ = some (.slice A0_0 l0_0.length c0_0) := (blk_cell BK144.out 0).trans rfl; have hfz30_0 := blk_frozen BK144.out 0) | ((with_reducible refine gate_callee (f := 47) rfl ?_); refine goesL_ (some 23) rfl rfl Tryz.func47 (by kernel_rfl) rfl #[.agg #[.slice A0_0 l0_0.length c0_0], .agg #[.string a1, .bool true, .slice none 0 0]] rfl (by (try simp only [ca_]); first | done | rfl) ?_; (refine (tree_with.calls (fun k_ => ((P0_0_ k_ ∨ w.heap.size ≤ k_) ∧ (some k_ ≠ (.slice Ao28 t148.length co28 : Value).ownBlock ∧ (k_ ≠ gb144 ∧ (k_ ≠ gb145 ∧ k_ ≠ gb152))))) _ _ l0_0 a1 true _ _ ([] : List Int) t153 t156 _ ?side1 ?side2 ?side3 A18.out).mono ?_); (case side1 => exact HO0_0.out); (case side2 => exact Kd.C_nil _ _); (case side3 => exact Nat.le_refl _); rintro e w31 ⟨v154, rfl, ho0, hb⟩; refine ⟨_, rfl, ?_⟩; have HO155 := xa_ (Kd.V_lower (Kd.V_mono (ok' := fun k_ => (P0_0_ k_ ∨ w.heap.size ≤ k_) ∧ some k_ ≠ (.slice Ao28 t148.length co28 : Value).ownBlock ∧ k_ ≠ gb144 ∧ k_ ≠ gb145 ∧ k_ ≠ gb152) ho0 (fun k_ hk_ => ⟨Or.elim hk_ (fun hs_ => hs_.1) (fun hn_ => (.inr (Nat.le_trans (below_size (xw_ HB.out)) hn_))), Or.elim hk_ (fun hs_ => hs_.2.1) (fun hn_ => (Kd.fresh' (Kd.R_lt (xR_ HO150.out)) k_ hn_)), Or.elim hk_ (fun hs_ => hs_.2.2.1) (fun hn_ => (Kd.freshB (xb_ BK144.out) k_ hn_)), Or.elim hk_ (fun hs_ => hs_.2.2.2.1) (fun hn_ => (Kd.freshB (xb_ BK145.out) k_ hn_)), Or.elim hk_ (fun hs_ => hs_.2.2.2.2) (fun hn_ => (Kd.freshB (xb_ BK152.out) k_ hn_))⟩)) (below_size (xw_ HB.out))); replace HO0_0 := xa_ (Kd.V_below (xV_ HO0_0.out) hb); replace HO150 := xa_ (Kd.R_below (xR_ HO150.out) hb); replace BK144 := xa_ (blk_below (xb_ BK144.out) hb); replace BK145 := xa_ (blk_below (xb_ BK145.out) hb); replace BK152 := xa_ (blk_below (xb_ BK152.out) hb); replace HB := xa_ (below_step (xw_ HB.out) hb); (try clear hb); (try clear hb2); (try clear hk); (try clear hi); (try clear ho0); obtain ⟨Ao32, co32, eo32⟩ := Kd.V_slice HO155.out; subst eo32; have hcz33_0 : w31.cell? ⟨gb145, 0, none⟩ = some (.slice none 0 0) := (blk_cell BK145.out 0).trans rfl; have hfz33_0 := blk_frozen BK145.out 0))
   refine bodyPost_ret (results_ct rfl _ _ gb145 26 #[.slice Ao32 t153.length co32] (0, 0) _ rfl (by (with_reducible repeat (first | refine blk_drewN ?_ _ | refine blk_drew ?_ | refine blk_alloc ?_ _)); refine blk_put (cs := #[.slice none 0 0]) ?_ 0 _ rfl; (with_reducible repeat (first | refine blk_drewN ?_ _ | refine blk_drew ?_ | refine blk_alloc ?_ _)); exact BK145.out) Tryz.underlying26 rfl (by kernel_rfl)) rfl ?_
   exact ⟨_, by first | rfl | (simp [*, errW_none, errW_some] <;> rfl), by (with_reducible repeat (first | apply Kd.V_alloc | apply Kd.V_drewN | apply Kd.V_drew)); exact Kd.V_mono (vf_ (Kd.V_mono HO155.out (fun k_ hk => (⟨hk, hk.2.2.2.1⟩ : _ ∧ k_ ≠ gb145)))) (fun _ hk => hk.1.1), by repeat (first | (with_reducible first | exact HB.out | apply below_alloc | apply pw_below_drewN | apply below_drew1 | refine below_set ?_ GE144.out | refine below_set ?_ GE145.out | refine below_set ?_ GE152.out) | exact HB.out)⟩
  ·rw [if_neg c17] at H
   have c17b0 : (t151 == 5) = false := beq_eq_false_iff_ne.mpr c17
   have c17b1 : (t151 != 5) = true := bne_iff_ne.mpr c17
   simp only [Option.some.injEq, Prod.mk.injEq] at H
   obtain ⟨rfl, rfl⟩ := H
   go_enter Tryz.func8, Tryz.ntmps8
   go_wp2_with (first | ((with_reducible refine gate_dst (N := 2) rfl ?_); refine box_event ?hg (N := 2) ?hd (cs := #[.slice A0_0 l0_0.length c0_0]) (t := 26) ?hr ?_; (case hd => rfl); (case hg => rfl); (case hr => first | (go_simp; done) | (go_simp; rfl)); intro gb144 hg w34 hbox hb; have BK144 := xa_ (hbox); have GW144 := xa_ ((by rw [hg]; exact (below_size (xw_ HB.out)) : w.heap.size ≤ gb144)); have GE144 := xa_ ((by rw [hg]; exact (below_size (xw_ HB.out)) : w.heap.size ≤ gb144)); replace HO0_0 := xa_ (Kd.V_below (Kd.V_elderB (xV_ HO0_0.out) gb144 (Nat.le_of_eq hg.symm)) hb); replace HB := xa_ (below_step (xw_ HB.out) hb); clear hb hbox hg) | ((with_reducible refine gate_dst (N := 4) rfl ?_); refine box_event ?hg (N := 4) ?hd (cs := #[.slice none 0 0]) (t := 26) ?hr ?_; (case hd => rfl); (case hg => rfl); (case hr => first | (go_simp; done) | (go_simp; rfl)); intro gb145 hg w35 hbox hb; have BK145 := xa_ (hbox); have GW145 := xa_ ((by rw [hg]; exact (below_size (xw_ HB.out)) : w.heap.size ≤ gb145)); have GE145 := xa_ ((by rw [hg]; exact (below_size (xw_ HB.out)) : w.heap.size ≤ gb145)); have NB144_145 := xa_ ((by rw [hg]; exact Nat.ne_of_lt (blk_lt (xb_ BK144.out)) : gb144 ≠ gb145)); have NB145_144 := xa_ ((by rw [hg]; exact Nat.ne_of_gt (blk_lt (xb_ BK144.out)) : gb145 ≠ gb144)); replace HO0_0 := xa_ (Kd.V_below (Kd.V_elderB (xV_ HO0_0.out) gb145 (Nat.le_of_eq hg.symm)) hb); replace BK144 := xa_ (blk_below (xb_ BK144.out) hb); replace HB := xa_ (below_step (xw_ HB.out) hb); clear hb hbox hg; have hnb36 := NB144_145.out; have hnc36 := NB145_144.out; have hcz37_0 : w35.cell? ⟨gb144, 0, none⟩ = some (.slice A0_0 l0_0.length c0_0) := (blk_cell BK144.out 0).trans rfl; have hfz37_0 := blk_frozen BK144.out 0) | ((with_reducible refine gate_callee (f := 14) rfl ?_); refine goesL_ (some 11) rfl rfl Tryz.func14 (by kernel_rfl) rfl #[.agg #[.slice A0_0 l0_0.length c0_0], .string a1] rfl (by (try simp only [ca_]); first | done | rfl) ?_; (with_reducible refine (tree_Find.calls _ _ l0_0 a1 t146 t147 t148 t151 _ ?side1 ?side2 A3.out).mono ?_); (case side1 => exact xC_ (Kd.V_reads' HO0_0.out).2.2); (case side2 => exact (Kd.V_reads' HO0_0.out).2.1); rintro e w38 ⟨v149, rfl, ho0, hb⟩; refine ⟨_, rfl, ?_⟩; replace HO0_0 := xa_ (Kd.V_elder' (xV_ HO0_0.out) (Kd.R_base ho0) hb); replace HO150 := xa_ (Kd.R_lower (Kd.R_newM (M := fun k_ => (w.heap.size ≤ k_)) ho0 (below_size (xw_ HB.out)) (fun k_ h_ => h_)) (below_size (xw_ HB.out))); replace BK144 := xa_ (blk_below (xb_ BK144.out) hb); replace BK145 := xa_ (blk_below (xb_ BK145.out) hb); replace HB := xa_ (below_step (xw_ HB.out) hb); (try clear hb); (try clear hb2); (try clear hk); (try clear hi); (try clear ho0)) | ((with_reducible refine gate_dst (N := 6) rfl ?_); refine box_event ?hg (N := 6) ?hd (cs := #[.string (⟨#[]⟩ : ByteArray), .bool false, .slice none 0 0]) (t := 42) ?hr ?_; (case hd => rfl); (case hg => rfl); (case hr => first | (go_simp; done) | (go_simp; rfl)); intro gb152 hg w39 hbox hb; have BK152 := xa_ (hbox); have GW152 := xa_ ((by rw [hg]; exact (below_size (xw_ HB.out)) : w.heap.size ≤ gb152)); have GE152 := xa_ ((by rw [hg]; exact (below_size (xw_ HB.out)) : w.heap.size ≤ gb152)); have NB144_152 := xa_ ((by rw [hg]; exact Nat.ne_of_lt (blk_lt (xb_ BK144.out)) : gb144 ≠ gb152)); have NB152_144 := xa_ ((by rw [hg]; exact Nat.ne_of_gt (blk_lt (xb_ BK144.out)) : gb152 ≠ gb144)); have NB145_152 := xa_ ((by rw [hg]; exact Nat.ne_of_lt (blk_lt (xb_ BK145.out)) : gb145 ≠ gb152)); have NB152_145 := xa_ ((by rw [hg]; exact Nat.ne_of_gt (blk_lt (xb_ BK145.out)) : gb152 ≠ gb145)); replace HO0_0 := xa_ (Kd.V_below (Kd.V_elderB (xV_ HO0_0.out) gb152 (Nat.le_of_eq hg.symm)) hb); replace HO150 := xa_ (Kd.R_below (xR_ HO150.out) hb); replace BK144 := xa_ (blk_below (xb_ BK144.out) hb); replace BK145 := xa_ (blk_below (xb_ BK145.out) hb); replace HB := xa_ (below_step (xw_ HB.out) hb); clear hb hbox hg; have hnb40 := NB152_144.out; have hnc40 := NB144_152.out; have hnb41 := NB152_145.out; have hnc41 := NB145_152.out; have hcz42_0 : w39.cell? ⟨gb152, 0, none⟩ = some (.string (⟨#[]⟩ : ByteArray)) := (blk_cell BK152.out 0).trans rfl; have hcz42_1 : w39.cell? ⟨gb152, 1, none⟩ = some (.bool false) := (blk_cell BK152.out 1).trans rfl; have hcz42_2 : w39.cell? ⟨gb152, 2, none⟩ = some (.slice none 0 0) := (blk_cell BK152.out 2).trans rfl; have hfz42_0 := blk_frozen BK152.out 0; have hfz42_1 := blk_frozen BK152.out 1; have hfz42_2 := blk_frozen BK152.out 2; obtain ⟨Ao43, co43, eo43⟩ := Kd.R_slice HO150.out; subst eo43; have hcz44_0 : w39.cell? ⟨gb144, 0, none⟩ = some (.slice A0_0 l0_0.length c0_0) := (blk_cell BK144.out 0).trans rfl; have hfz44_0 := blk_frozen BK144.out 0; have hcz45_0 : w39.cell? ⟨gb145, 0, none⟩ = some (.slice none 0 0) := (blk_cell BK145.out 0).trans rfl; have hfz45_0 := blk_frozen BK145.out 0))
   refine bodyPost_ret (results_ct rfl _ _ gb145 26 #[.slice A0_0 l0_0.length c0_0] (0, 0) _ rfl (by (with_reducible repeat (first | refine blk_drewN ?_ _ | refine blk_drew ?_ | refine blk_alloc ?_ _)); refine blk_put (cs := #[.slice none 0 0]) ?_ 0 _ rfl; (with_reducible repeat (first | refine blk_drewN ?_ _ | refine blk_drew ?_ | refine blk_alloc ?_ _)); refine blk_far ?_ NB145_152.out _; (with_reducible repeat (first | refine blk_drewN ?_ _ | refine blk_drew ?_ | refine blk_alloc ?_ _)); refine blk_far ?_ NB145_152.out _; (with_reducible repeat (first | refine blk_drewN ?_ _ | refine blk_drew ?_ | refine blk_alloc ?_ _)); refine blk_far ?_ NB145_152.out _; (with_reducible repeat (first | refine blk_drewN ?_ _ | refine blk_drew ?_ | refine blk_alloc ?_ _)); exact BK145.out) Tryz.underlying26 rfl (by kernel_rfl)) rfl ?_
   exact ⟨_, by first | rfl | (simp [*, errW_none, errW_some] <;> rfl), by (with_reducible repeat (first | apply Kd.V_alloc | apply Kd.V_drewN | apply Kd.V_drew)); exact Kd.V_mono (vf_ (Kd.V_far (p := ⟨gb152, 2, none⟩) (Kd.V_far (p := ⟨gb152, 1, none⟩) (Kd.V_far (p := ⟨gb152, 0, none⟩) (Kd.V_mono (Kd.V_mono HO0_0.out (fun k_ hk => (⟨hk, hk.2⟩ : _ ∧ k_ ≠ gb152))) (fun k_ hk => (⟨hk, hk.1.1.1.2⟩ : _ ∧ k_ ≠ gb145))) (fun _ hk => hk.1.2) (.string t146)) (fun _ hk => hk.1.2) (.bool t147)) (fun _ hk => hk.1.2) (.slice Ao43 t148.length co43))) (fun _ hk => hk.1.1.1.1.1.1), by repeat (first | (with_reducible first | exact HB.out | apply below_alloc | apply pw_below_drewN | apply below_drew1 | refine below_set ?_ GE144.out | refine below_set ?_ GE145.out | refine below_set ?_ GE152.out) | exact HB.out)⟩
def tree_Put.f (l0_0 : List (S42)) (a1 : ByteArray) (l2 : List Int) : Option ((List (S42)) × Int) := (tree_Good.f l0_0).bind fun t126 => (if t126 = true then ((path_Good.f a1).bind fun t127 => (if t127 = true then ((tree_with.f l0_0 a1 false l2).bind fun bt128 => (some (bt128.1, bt128.2))) else (some (l0_0, 4)))) else (some (l0_0, 1)))
theorem tree_Put.calls (P0_0_ : Nat → Prop) (A0_0 : Option Addr) (c0_0 : Nat) (l0_0 : List (S42)) (a1 : ByteArray) (A2 : Option Addr) (c2 : Nat) (l2 : List Int) (r1 : List (S42)) (r2 : Int) (w : World) (hs0_0 : Kd.V k42 42 w w.heap.size (fun k_ => P0_0_ k_) (.slice A0_0 l0_0.length c0_0) l0_0) (hr2 : Kd.C (Kd.int .u8) w A2 l2.length l2) (hc2 : l2.length ≤ c2) (h : tree_Put.f l0_0 a1 l2 = some (r1, r2)) :
  Calls Tryz.prog 6 #[.agg #[.slice A0_0 l0_0.length c0_0], .string a1, .slice A2 l2.length c2] w fun e w' => ∃ v0_ : Value, e = .returned (.tuple #[.agg #[v0_], .int .i64 r2]) ∧ Kd.V k42 42 w' w.heap.size (fun k_ => (P0_0_ k_ ∨ w.heap.size ≤ k_)) v0_ r1 ∧ Below w.heap.size w w' := by
 have hu26 := Tryz.underlying26
 have hu42 := Tryz.underlying42
 have HO0_0 := xa_ (show Kd.V k42 42 w w.heap.size (fun k_ => (P0_0_ k_ ∨ w.heap.size ≤ k_)) (.slice A0_0 l0_0.length c0_0) l0_0 from Kd.V_mono hs0_0 (fun k_ hk => .inl hk))
 have HR2 := Aside0.mk hr2
 have HC2 := Aside0.mk hc2
 clear hr2 hc2
 have HB := xa_ (Below.refl w.heap.size w)
 have H : ((tree_Good.f l0_0).bind fun t126 => (if t126 = true then ((path_Good.f a1).bind fun t127 => (if t127 = true then ((tree_with.f l0_0 a1 false l2).bind fun bt128 => (some (bt128.1, bt128.2))) else (some (l0_0, 4)))) else (some (l0_0, 1)))) = some (r1, r2) := h
 clear h
 replace H := Option.bind_eq_some_iff.mp H
 obtain ⟨t126, A40, H⟩ := H
 replace H : (if t126 = true then ((path_Good.f a1).bind fun t127 => (if t127 = true then ((tree_with.f l0_0 a1 false l2).bind fun bt128 => (some (bt128.1, bt128.2))) else (some (l0_0, 4)))) else (some (l0_0, 1))) = some (r1, r2) := H
 have A4 := Aside0.mk A40
 clear A40
 by_cases c5 : t126 = true
 ·subst c5
  have H1 : ((path_Good.f a1).bind fun t127 => (if t127 = true then ((tree_with.f l0_0 a1 false l2).bind fun bt128 => (some (bt128.1, bt128.2))) else (some (l0_0, 4)))) = some (r1, r2) := by rw [if_pos rfl] at H; exact H
  clear H
  have H := H1
  clear H1
  replace H := Option.bind_eq_some_iff.mp H
  obtain ⟨t127, A60, H⟩ := H
  replace H : (if t127 = true then ((tree_with.f l0_0 a1 false l2).bind fun bt128 => (some (bt128.1, bt128.2))) else (some (l0_0, 4))) = some (r1, r2) := H
  have A6 := Aside0.mk A60
  clear A60
  by_cases c7 : t127 = true
  ·subst c7
   have H1 : ((tree_with.f l0_0 a1 false l2).bind fun bt128 => (some (bt128.1, bt128.2))) = some (r1, r2) := by rw [if_pos rfl] at H; exact H
   clear H
   have H := H1
   clear H1
   replace H := Option.bind_eq_some_iff.mp H
   obtain ⟨⟨t128, t131⟩, A80, H⟩ := H
   replace H : (some (t128, t131)) = some (r1, r2) := H
   have A8 := Aside0.mk A80
   clear A80
   simp only [Option.some.injEq, Prod.mk.injEq] at H
   obtain ⟨rfl, rfl⟩ := H
   go_enter Tryz.func6, Tryz.ntmps6
   go_wp2_with (first | ((with_reducible refine gate_dst (N := 3) rfl ?_); refine box_event ?hg (N := 3) ?hd (cs := #[.slice A0_0 l0_0.length c0_0]) (t := 26) ?hr ?_; (case hd => rfl); (case hg => rfl); (case hr => first | (go_simp; done) | (go_simp; rfl)); intro gb124 hg w9 hbox hb; have BK124 := xa_ (hbox); have GW124 := xa_ ((by rw [hg]; exact (below_size (xw_ HB.out)) : w.heap.size ≤ gb124)); have GE124 := xa_ ((by rw [hg]; exact (below_size (xw_ HB.out)) : w.heap.size ≤ gb124)); replace HO0_0 := xa_ (Kd.V_below (Kd.V_elderB (xV_ HO0_0.out) gb124 (Nat.le_of_eq hg.symm)) hb); replace HB := xa_ (below_step (xw_ HB.out) hb); clear hb hbox hg) | ((with_reducible refine gate_dst (N := 6) rfl ?_); refine box_event ?hg (N := 6) ?hd (cs := #[.slice none 0 0]) (t := 26) ?hr ?_; (case hd => rfl); (case hg => rfl); (case hr => first | (go_simp; done) | (go_simp; rfl)); intro gb125 hg w10 hbox hb; have BK125 := xa_ (hbox); have GW125 := xa_ ((by rw [hg]; exact (below_size (xw_ HB.out)) : w.heap.size ≤ gb125)); have GE125 := xa_ ((by rw [hg]; exact (below_size (xw_ HB.out)) : w.heap.size ≤ gb125)); have NB124_125 := xa_ ((by rw [hg]; exact Nat.ne_of_lt (blk_lt (xb_ BK124.out)) : gb124 ≠ gb125)); have NB125_124 := xa_ ((by rw [hg]; exact Nat.ne_of_gt (blk_lt (xb_ BK124.out)) : gb125 ≠ gb124)); replace HO0_0 := xa_ (Kd.V_below (Kd.V_elderB (xV_ HO0_0.out) gb125 (Nat.le_of_eq hg.symm)) hb); replace BK124 := xa_ (blk_below (xb_ BK124.out) hb); replace HB := xa_ (below_step (xw_ HB.out) hb); clear hb hbox hg; have hnb11 := NB124_125.out; have hnc11 := NB125_124.out; have hcz12_0 : w10.cell? ⟨gb124, 0, none⟩ = some (.slice A0_0 l0_0.length c0_0) := (blk_cell BK124.out 0).trans rfl; have hfz12_0 := blk_frozen BK124.out 0) | ((with_reducible refine gate_callee (f := 18) rfl ?_); refine goesL_ (some 10) rfl rfl Tryz.func18 (by kernel_rfl) rfl #[.agg #[.slice A0_0 l0_0.length c0_0]] rfl (by (try simp only [ca_]); first | done | rfl) ?_; (with_reducible refine (tree_Good.calls _ _ l0_0 true _ ?side1 ?side2 A4.out).mono ?_); (case side1 => exact xC_ (Kd.V_reads' HO0_0.out).2.2); (case side2 => exact (Kd.V_reads' HO0_0.out).2.1); rintro e w13 ⟨rfl, hb⟩; refine ⟨_, rfl, ?_⟩; replace HO0_0 := xa_ (Kd.V_below (xV_ HO0_0.out) hb); replace BK124 := xa_ (blk_below (xb_ BK124.out) hb); replace BK125 := xa_ (blk_below (xb_ BK125.out) hb); replace HB := xa_ (below_step (xw_ HB.out) hb); (try clear hb); (try clear hb2); (try clear hk); (try clear hi)) | ((with_reducible refine gate_callee (f := 46) rfl ?_); refine goesL_ (some 15) rfl rfl Tryz.func46 (by kernel_rfl) rfl #[.string a1] rfl (by (try simp only [ca_]); first | done | rfl) ?_; (with_reducible refine (path_Good.calls a1 true _ A6.out).mono ?_); rintro e w14 ⟨rfl, hb⟩; refine ⟨_, rfl, ?_⟩; replace HO0_0 := xa_ (Kd.V_below (xV_ HO0_0.out) hb); replace BK124 := xa_ (blk_below (xb_ BK124.out) hb); replace BK125 := xa_ (blk_below (xb_ BK125.out) hb); replace HB := xa_ (below_step (xw_ HB.out) hb); (try clear hb); (try clear hb2); (try clear hk); (try clear hi); have hcz15_0 : w14.cell? ⟨gb124, 0, none⟩ = some (.slice A0_0 l0_0.length c0_0) := (blk_cell BK124.out 0).trans rfl; have hfz15_0 := blk_frozen BK124.out 0) | ((with_reducible refine gate_callee (f := 47) rfl ?_); refine goesL_ (some 22) rfl rfl Tryz.func47 (by kernel_rfl) rfl #[.agg #[.slice A0_0 l0_0.length c0_0], .agg #[.string a1, .bool false, .slice A2 l2.length c2]] rfl (by (try simp only [ca_]); first | done | rfl) ?_; (with_reducible refine (tree_with.calls (fun k_ => (((P0_0_ k_ ∨ w.heap.size ≤ k_) ∧ k_ ≠ gb124) ∧ k_ ≠ gb125)) _ _ l0_0 a1 false _ _ l2 t128 t131 _ ?side1 ?side2 ?side3 A8.out).mono ?_); (case side1 => exact HO0_0.out); (case side2 => exact xC_ (Kd.C_below HR2.out HB.out)); (case side3 => exact HC2.out); rintro e w16 ⟨v129, rfl, ho0, hb⟩; refine ⟨_, rfl, ?_⟩; replace HO0_0 := xa_ (Kd.V_below (xV_ HO0_0.out) hb); replace HO130 := xa_ (Kd.V_lower (Kd.V_mono (ok' := fun k_ => (P0_0_ k_ ∨ w.heap.size ≤ k_) ∧ k_ ≠ gb124 ∧ k_ ≠ gb125) ho0 (fun k_ hk_ => ⟨Or.elim hk_ (fun hs_ => hs_.1.1) (fun hn_ => (.inr (Nat.le_trans (below_size (xw_ HB.out)) hn_))), Or.elim hk_ (fun hs_ => hs_.1.2) (fun hn_ => (Kd.freshB (xb_ BK124.out) k_ hn_)), Or.elim hk_ (fun hs_ => hs_.2) (fun hn_ => (Kd.freshB (xb_ BK125.out) k_ hn_))⟩)) (below_size (xw_ HB.out))); replace BK124 := xa_ (blk_below (xb_ BK124.out) hb); replace BK125 := xa_ (blk_below (xb_ BK125.out) hb); replace HB := xa_ (below_step (xw_ HB.out) hb); (try clear hb); (try clear hb2); (try clear hk); (try clear hi); (try clear ho0); obtain ⟨Ao17, co17, eo17⟩ := Kd.V_slice HO130.out; subst eo17; have hcz18_0 : w16.cell? ⟨gb125, 0, none⟩ = some (.slice none 0 0) := (blk_cell BK125.out 0).trans rfl; have hfz18_0 := blk_frozen BK125.out 0))
   refine bodyPost_ret (results_ct rfl _ _ gb125 26 #[.slice Ao17 t128.length co17] (0, 0) _ rfl (by (with_reducible repeat (first | refine blk_drewN ?_ _ | refine blk_drew ?_ | refine blk_alloc ?_ _)); refine blk_put (cs := #[.slice none 0 0]) ?_ 0 _ rfl; (with_reducible repeat (first | refine blk_drewN ?_ _ | refine blk_drew ?_ | refine blk_alloc ?_ _)); exact BK125.out) Tryz.underlying26 rfl (by kernel_rfl)) rfl ?_
   exact ⟨_, by first | rfl | (simp [*, errW_none, errW_some] <;> rfl), by (with_reducible repeat (first | apply Kd.V_alloc | apply Kd.V_drewN | apply Kd.V_drew)); exact Kd.V_mono (vf_ (Kd.V_mono HO130.out (fun k_ hk => (⟨hk, hk.2.2⟩ : _ ∧ k_ ≠ gb125)))) (fun _ hk => hk.1.1), by repeat (first | (with_reducible first | exact HB.out | apply below_alloc | apply pw_below_drewN | apply below_drew1 | refine below_set ?_ GE124.out | refine below_set ?_ GE125.out) | exact HB.out)⟩
  ·replace c7 := Bool.eq_false_iff.mpr c7
   subst c7
   have H1 : (some (l0_0, 4)) = some (r1, r2) := by rw [if_neg (show ¬ (false = true) by decide)] at H; exact H
   clear H
   have H := H1
   clear H1
   simp only [Option.some.injEq, Prod.mk.injEq] at H
   obtain ⟨rfl, rfl⟩ := H
   go_enter Tryz.func6, Tryz.ntmps6
   go_wp2_with (first | ((with_reducible refine gate_dst (N := 3) rfl ?_); refine box_event ?hg (N := 3) ?hd (cs := #[.slice A0_0 l0_0.length c0_0]) (t := 26) ?hr ?_; (case hd => rfl); (case hg => rfl); (case hr => first | (go_simp; done) | (go_simp; rfl)); intro gb124 hg w19 hbox hb; have BK124 := xa_ (hbox); have GW124 := xa_ ((by rw [hg]; exact (below_size (xw_ HB.out)) : w.heap.size ≤ gb124)); have GE124 := xa_ ((by rw [hg]; exact (below_size (xw_ HB.out)) : w.heap.size ≤ gb124)); replace HO0_0 := xa_ (Kd.V_below (Kd.V_elderB (xV_ HO0_0.out) gb124 (Nat.le_of_eq hg.symm)) hb); replace HB := xa_ (below_step (xw_ HB.out) hb); clear hb hbox hg) | ((with_reducible refine gate_dst (N := 6) rfl ?_); refine box_event ?hg (N := 6) ?hd (cs := #[.slice none 0 0]) (t := 26) ?hr ?_; (case hd => rfl); (case hg => rfl); (case hr => first | (go_simp; done) | (go_simp; rfl)); intro gb125 hg w20 hbox hb; have BK125 := xa_ (hbox); have GW125 := xa_ ((by rw [hg]; exact (below_size (xw_ HB.out)) : w.heap.size ≤ gb125)); have GE125 := xa_ ((by rw [hg]; exact (below_size (xw_ HB.out)) : w.heap.size ≤ gb125)); have NB124_125 := xa_ ((by rw [hg]; exact Nat.ne_of_lt (blk_lt (xb_ BK124.out)) : gb124 ≠ gb125)); have NB125_124 := xa_ ((by rw [hg]; exact Nat.ne_of_gt (blk_lt (xb_ BK124.out)) : gb125 ≠ gb124)); replace HO0_0 := xa_ (Kd.V_below (Kd.V_elderB (xV_ HO0_0.out) gb125 (Nat.le_of_eq hg.symm)) hb); replace BK124 := xa_ (blk_below (xb_ BK124.out) hb); replace HB := xa_ (below_step (xw_ HB.out) hb); clear hb hbox hg; have hnb21 := NB124_125.out; have hnc21 := NB125_124.out; have hcz22_0 : w20.cell? ⟨gb124, 0, none⟩ = some (.slice A0_0 l0_0.length c0_0) := (blk_cell BK124.out 0).trans rfl; have hfz22_0 := blk_frozen BK124.out 0) | ((with_reducible refine gate_callee (f := 18) rfl ?_); refine goesL_ (some 10) rfl rfl Tryz.func18 (by kernel_rfl) rfl #[.agg #[.slice A0_0 l0_0.length c0_0]] rfl (by (try simp only [ca_]); first | done | rfl) ?_; (with_reducible refine (tree_Good.calls _ _ l0_0 true _ ?side1 ?side2 A4.out).mono ?_); (case side1 => exact xC_ (Kd.V_reads' HO0_0.out).2.2); (case side2 => exact (Kd.V_reads' HO0_0.out).2.1); rintro e w23 ⟨rfl, hb⟩; refine ⟨_, rfl, ?_⟩; replace HO0_0 := xa_ (Kd.V_below (xV_ HO0_0.out) hb); replace BK124 := xa_ (blk_below (xb_ BK124.out) hb); replace BK125 := xa_ (blk_below (xb_ BK125.out) hb); replace HB := xa_ (below_step (xw_ HB.out) hb); (try clear hb); (try clear hb2); (try clear hk); (try clear hi)) | ((with_reducible refine gate_callee (f := 46) rfl ?_); refine goesL_ (some 15) rfl rfl Tryz.func46 (by kernel_rfl) rfl #[.string a1] rfl (by (try simp only [ca_]); first | done | rfl) ?_; (with_reducible refine (path_Good.calls a1 false _ A6.out).mono ?_); rintro e w24 ⟨rfl, hb⟩; refine ⟨_, rfl, ?_⟩; replace HO0_0 := xa_ (Kd.V_below (xV_ HO0_0.out) hb); replace BK124 := xa_ (blk_below (xb_ BK124.out) hb); replace BK125 := xa_ (blk_below (xb_ BK125.out) hb); replace HB := xa_ (below_step (xw_ HB.out) hb); (try clear hb); (try clear hb2); (try clear hk); (try clear hi); have hcz25_0 : w24.cell? ⟨gb124, 0, none⟩ = some (.slice A0_0 l0_0.length c0_0) := (blk_cell BK124.out 0).trans rfl; have hfz25_0 := blk_frozen BK124.out 0; have hcz26_0 : w24.cell? ⟨gb125, 0, none⟩ = some (.slice none 0 0) := (blk_cell BK125.out 0).trans rfl; have hfz26_0 := blk_frozen BK125.out 0))
   refine bodyPost_ret (results_ct rfl _ _ gb125 26 #[.slice A0_0 l0_0.length c0_0] (0, 0) _ rfl (by (with_reducible repeat (first | refine blk_drewN ?_ _ | refine blk_drew ?_ | refine blk_alloc ?_ _)); refine blk_put (cs := #[.slice none 0 0]) ?_ 0 _ rfl; (with_reducible repeat (first | refine blk_drewN ?_ _ | refine blk_drew ?_ | refine blk_alloc ?_ _)); exact BK125.out) Tryz.underlying26 rfl (by kernel_rfl)) rfl ?_
   exact ⟨_, by first | rfl | (simp [*, errW_none, errW_some] <;> rfl), by (with_reducible repeat (first | apply Kd.V_alloc | apply Kd.V_drewN | apply Kd.V_drew)); exact Kd.V_mono (vf_ (Kd.V_mono HO0_0.out (fun k_ hk => (⟨hk, hk.2⟩ : _ ∧ k_ ≠ gb125)))) (fun _ hk => hk.1.1.1), by repeat (first | (with_reducible first | exact HB.out | apply below_alloc | apply pw_below_drewN | apply below_drew1 | refine below_set ?_ GE124.out | refine below_set ?_ GE125.out) | exact HB.out)⟩
 ·replace c5 := Bool.eq_false_iff.mpr c5
  subst c5
  have H1 : (some (l0_0, 1)) = some (r1, r2) := by rw [if_neg (show ¬ (false = true) by decide)] at H; exact H
  clear H
  have H := H1
  clear H1
  simp only [Option.some.injEq, Prod.mk.injEq] at H
  obtain ⟨rfl, rfl⟩ := H
  go_enter Tryz.func6, Tryz.ntmps6
  go_wp2_with (first | ((with_reducible refine gate_dst (N := 3) rfl ?_); refine box_event ?hg (N := 3) ?hd (cs := #[.slice A0_0 l0_0.length c0_0]) (t := 26) ?hr ?_; (case hd => rfl); (case hg => rfl); (case hr => first | (go_simp; done) | (go_simp; rfl)); intro gb124 hg w27 hbox hb; have BK124 := xa_ (hbox); have GW124 := xa_ ((by rw [hg]; exact (below_size (xw_ HB.out)) : w.heap.size ≤ gb124)); have GE124 := xa_ ((by rw [hg]; exact (below_size (xw_ HB.out)) : w.heap.size ≤ gb124)); replace HO0_0 := xa_ (Kd.V_below (Kd.V_elderB (xV_ HO0_0.out) gb124 (Nat.le_of_eq hg.symm)) hb); replace HB := xa_ (below_step (xw_ HB.out) hb); clear hb hbox hg) | ((with_reducible refine gate_dst (N := 6) rfl ?_); refine box_event ?hg (N := 6) ?hd (cs := #[.slice none 0 0]) (t := 26) ?hr ?_; (case hd => rfl); (case hg => rfl); (case hr => first | (go_simp; done) | (go_simp; rfl)); intro gb125 hg w28 hbox hb; have BK125 := xa_ (hbox); have GW125 := xa_ ((by rw [hg]; exact (below_size (xw_ HB.out)) : w.heap.size ≤ gb125)); have GE125 := xa_ ((by rw [hg]; exact (below_size (xw_ HB.out)) : w.heap.size ≤ gb125)); have NB124_125 := xa_ ((by rw [hg]; exact Nat.ne_of_lt (blk_lt (xb_ BK124.out)) : gb124 ≠ gb125)); have NB125_124 := xa_ ((by rw [hg]; exact Nat.ne_of_gt (blk_lt (xb_ BK124.out)) : gb125 ≠ gb124)); replace HO0_0 := xa_ (Kd.V_below (Kd.V_elderB (xV_ HO0_0.out) gb125 (Nat.le_of_eq hg.symm)) hb); replace BK124 := xa_ (blk_below (xb_ BK124.out) hb); replace HB := xa_ (below_step (xw_ HB.out) hb); clear hb hbox hg; have hnb29 := NB124_125.out; have hnc29 := NB125_124.out; have hcz30_0 : w28.cell? ⟨gb124, 0, none⟩ = some (.slice A0_0 l0_0.length c0_0) := (blk_cell BK124.out 0).trans rfl; have hfz30_0 := blk_frozen BK124.out 0) | ((with_reducible refine gate_callee (f := 18) rfl ?_); refine goesL_ (some 10) rfl rfl Tryz.func18 (by kernel_rfl) rfl #[.agg #[.slice A0_0 l0_0.length c0_0]] rfl (by (try simp only [ca_]); first | done | rfl) ?_; (with_reducible refine (tree_Good.calls _ _ l0_0 false _ ?side1 ?side2 A4.out).mono ?_); (case side1 => exact xC_ (Kd.V_reads' HO0_0.out).2.2); (case side2 => exact (Kd.V_reads' HO0_0.out).2.1); rintro e w31 ⟨rfl, hb⟩; refine ⟨_, rfl, ?_⟩; replace HO0_0 := xa_ (Kd.V_below (xV_ HO0_0.out) hb); replace BK124 := xa_ (blk_below (xb_ BK124.out) hb); replace BK125 := xa_ (blk_below (xb_ BK125.out) hb); replace HB := xa_ (below_step (xw_ HB.out) hb); (try clear hb); (try clear hb2); (try clear hk); (try clear hi); have hcz32_0 : w31.cell? ⟨gb124, 0, none⟩ = some (.slice A0_0 l0_0.length c0_0) := (blk_cell BK124.out 0).trans rfl; have hfz32_0 := blk_frozen BK124.out 0; have hcz33_0 : w31.cell? ⟨gb125, 0, none⟩ = some (.slice none 0 0) := (blk_cell BK125.out 0).trans rfl; have hfz33_0 := blk_frozen BK125.out 0))
  refine bodyPost_ret (results_ct rfl _ _ gb125 26 #[.slice A0_0 l0_0.length c0_0] (0, 0) _ rfl (by (with_reducible repeat (first | refine blk_drewN ?_ _ | refine blk_drew ?_ | refine blk_alloc ?_ _)); refine blk_put (cs := #[.slice none 0 0]) ?_ 0 _ rfl; (with_reducible repeat (first | refine blk_drewN ?_ _ | refine blk_drew ?_ | refine blk_alloc ?_ _)); exact BK125.out) Tryz.underlying26 rfl (by kernel_rfl)) rfl ?_
  exact ⟨_, by first | rfl | (simp [*, errW_none, errW_some] <;> rfl), by (with_reducible repeat (first | apply Kd.V_alloc | apply Kd.V_drewN | apply Kd.V_drew)); exact Kd.V_mono (vf_ (Kd.V_mono HO0_0.out (fun k_ hk => (⟨hk, hk.2⟩ : _ ∧ k_ ≠ gb125)))) (fun _ hk => hk.1.1.1), by repeat (first | (with_reducible first | exact HB.out | apply below_alloc | apply pw_below_drewN | apply below_drew1 | refine below_set ?_ GE124.out | refine below_set ?_ GE125.out) | exact HB.out)⟩
def bytes_Equal.f (l0 : List Int) (l1 : List Int) : Option (Bool) := some ((strOfNums l0).toList == (strOfNums l1).toList)
theorem bytes_Equal.calls (A0 : Option Addr) (c0 : Nat) (l0 : List Int) (A1 : Option Addr) (c1 : Nat) (l1 : List Int) (r : Bool) (w : World) (hr0 : Kd.C (Kd.int .u8) w A0 l0.length l0) (hc0 : l0.length ≤ c0) (hr1 : Kd.C (Kd.int .u8) w A1 l1.length l1) (hc1 : l1.length ≤ c1) (h : bytes_Equal.f l0 l1 = some r) :
  Calls Tryz.prog 70 #[.slice A0 l0.length c0, .slice A1 l1.length c1] w fun e w' => e = .returned (.bool r) ∧ Drawn0 w w' := by
 have HR0 := Aside0.mk hr0
 have HC0 := Aside0.mk hc0
 clear hr0 hc0
 have HR1 := Aside0.mk hr1
 have HC1 := Aside0.mk hc1
 clear hr1 hc1
 have H : (some ((strOfNums l0).toList == (strOfNums l1).toList)) = some r := h
 clear h
 obtain rfl := Option.some.inj H
 have hcv3 := Kd.C_string (P := Tryz.prog) (A := A0) (c := c0) Tryz.underlying29 Tryz.underlying5 Tryz.underlying9 HR0.out
 have hcv4 := Kd.C_string (P := Tryz.prog) (A := A1) (c := c1) Tryz.underlying29 Tryz.underlying5 Tryz.underlying9 HR1.out
 go_enter Tryz.func70, Tryz.ntmps70
 go_wp2
 go_ret
 exact ⟨by first | rfl | (simp; done) | (simp [*]; done), by repeat (first | exact Drawn0.refl _ | apply Drawn0.step)⟩
end Go.Proofs.YtidlldfghkaeeaaGreatDoor.P
end
section
namespace Go.Proofs.YtidlldfghkaeeaaGreatDoor.P
open Go.RowKit Go.Proofs.YtidlldfghkaeeaaGreatDoorW.PrintWords Go.Proofs.YtidlldfghkaeeaaGreatDoorW.PrintLast Go.Proofs.YtidlldfghkaeeaaGreatDoorW.PrintMore
def sameE (x y : S42) : Bool := (x.f0.toList == y.f0.toList) && (x.f1 == y.f1) && ((strOfNums x.f2).toList == (strOfNums y.f2).toList)
def sameL (l l' : List S42) : Bool := decide (l.length = l'.length) && (l.zip l').all fun p => sameE p.1 p.2
theorem sameE_self (x : S42) : sameE x x = true := by simp [sameE]
theorem sameL_self (l : List S42) : sameL l l = true := by
 unfold sameL
 rw [decide_eq_true rfl, Bool.true_and, List.all_eq_true]
 intro p hp
 obtain ⟨i, hi, rfl⟩ := List.mem_iff_getElem.1 hp
 rw [List.getElem_zip]
 exact sameE_self _
theorem same1_calls (p : ByteArray) (d : Bool) (A : Option Addr) (c : Nat) (b : List Int) (q : ByteArray) (t : Bool) (B : Option Addr) (k : Nat) (e : List Int) (w : World) (hr : Kd.C (Kd.int .u8) w A b.length b) (hc : b.length ≤ c) (hr' : Kd.C (Kd.int .u8) w B e.length e) (hk : e.length ≤ k) :
  Calls Tryz.prog 69 #[.agg #[.string p, .bool d, .slice A b.length c], .agg #[.string q, .bool t, .slice B e.length k]] w fun x w' => x = .returned (.bool (sameE ⟨p, d, b⟩ ⟨q, t, e⟩)) ∧ Below w.heap.size w w' := by
 have hu30 := Tryz.underlying42
 obtain ⟨res, hres⟩ : ∃ res, res = sameE ⟨p, d, b⟩ ⟨q, t, e⟩ := ⟨_, rfl⟩
 rw [← hres]
 have HRES := Aside0.mk hres
 have HR := Aside0.mk hr
 have HR' := Aside0.mk hr'
 clear hres hr hr'
 have b1 := below_alloc (Below.refl w.heap.size w) (.cells #[.string p, .bool d, .slice A b.length c] 42)
 have b2 := below_alloc b1 (.cells #[.string q, .bool t, .slice B e.length k] 42)
 go_enter Tryz.func69, Tryz.ntmps69
 by_cases h1 : p.toList == q.toList
 ·cases d <;> cases t
  ·go_wp2_with (fail)
   refine (bytes_Equal.calls A c b B k e _ _ (Kd.C_below HR.out b2) hc (Kd.C_below HR'.out b2) hk rfl).mono ?_
   rintro x W2 ⟨rfl, hd⟩
   have hb := b2.trans (hd.below.mono b2.size)
   clear hd b1 b2
   dsimp only
   go_wp2_with (fail)
   go_ret
   exact ⟨by rw [HRES.out, sameE, h1, Bool.true_and, beq_self_eq_true, Bool.true_and]; rfl, hb⟩
  ·go_wp2_with (fail)
   go_ret
   exact ⟨by rw [HRES.out, sameE, h1]; rfl, b2⟩
  ·go_wp2_with (fail)
   go_ret
   exact ⟨by rw [HRES.out, sameE, h1]; rfl, b2⟩
  ·go_wp2_with (fail)
   refine (bytes_Equal.calls A c b B k e _ _ (Kd.C_below HR.out b2) hc (Kd.C_below HR'.out b2) hk rfl).mono ?_
   rintro x W2 ⟨rfl, hd⟩
   have hb := b2.trans (hd.below.mono b2.size)
   clear hd b1 b2
   dsimp only
   go_wp2_with (fail)
   go_ret
   exact ⟨by rw [HRES.out, sameE, h1, Bool.true_and, beq_self_eq_true, Bool.true_and]; rfl, hb⟩
 ·have h1' : (p.toList == q.toList) = false := by simpa using h1
  go_wp2_with (fail)
  go_ret
  exact ⟨by rw [HRES.out, sameE, h1']; rfl, b2⟩
theorem EqualFunc_calls (A0 : Option Addr) (c0 : Nat) (l0 : List S42) (A1 : Option Addr) (c1 : Nat) (l1 : List S42) (w : World) (hr0 : Kd.C k42 w A0 l0.length l0) (hc0 : l0.length ≤ c0) (hr1 : Kd.C k42 w A1 l1.length l1) (hc1 : l1.length ≤ c1) (hl : l0.length ≤ 100000) :
  Calls Tryz.prog 68 #[.slice A0 l0.length c0, .slice A1 l1.length c1, .func (.func 69) #[] #[]] w fun e w' => e = .returned (.bool (sameL l0 l1)) ∧ Below w.heap.size w w' := by
 have hu30 := Tryz.underlying42
 have HR := Aside0.mk hr0
 have HR1 := Aside0.mk hr1
 have HL := Aside0.mk hl
 clear hr0 hr1 hl
 obtain ⟨res, hres⟩ : ∃ res, res = sameL l0 l1 := ⟨_, rfl⟩
 rw [← hres]
 have HRES := Aside0.mk hres
 clear hres
 go_enter Tryz.func68, Tryz.ntmps68
 obtain ⟨n0, hn0⟩ : ∃ n0, n0 = l0.length := ⟨_, rfl⟩
 obtain ⟨n1, hn1⟩ : ∃ n1, n1 = l1.length := ⟨_, rfl⟩
 rw [← hn0] at hc0 ⊢
 rw [← hn1] at hc1 ⊢
 have HN0 := Aside0.mk hn0
 have HN1 := Aside0.mk hn1
 clear hn0 hn1
 by_cases q1 : n0 = n1
 ·subst q1
  go_wp2_with (fail)
  go_loopg [17] n0 (fun gg s17 wr => ∃ i : Nat, i ≤ n0 ∧ gg = n0 - i ∧ s17 = .int .i64 i ∧ (∀ j (h0 : j < l0.length) (h1 : j < l1.length), j < i → sameE l0[j] l1[j] = true) ∧ Below w.heap.size w wr)
  case atStart => exact ⟨0, Nat.zero_le _, rfl, rfl, fun j _ _ h => absurd h (Nat.not_lt_zero j), Below.refl _ _⟩
  case round =>
   obtain ⟨i, hi, rfl, rfl, hS, hB⟩ := hrel
   have HSS := Aside0.mk hS
   clear hS
   by_cases a : i < n0
   ·have a1 : decide ((i : Int) < (n0 : Int)) = true := decide_eq_true (by omega)
    have a2 : decide (0 ≤ (i : Int)) = true := decide_eq_true (by omega)
    have h0 : i < l0.length := by rw [← HN0.out]; exact a
    have h1 : i < l1.length := by rw [← HN1.out]; exact a
    obtain ⟨ad, A9, c9, e9, k0, k1, k2, k3, k4⟩ := atT (Kd.C_below HR.out hB) i h0
    obtain ⟨ad', A8, c8, e8, k5, k6, k7, k8, k9⟩ := atT (Kd.C_below HR1.out hB) i h1
    subst e9
    subst e8
    have hall : sameE l0[i] l1[i] = false → sameL l0 l1 = false := fun h => by
     unfold sameL
     rw [Bool.and_eq_false_iff]
     refine .inr ?_
     rw [List.all_eq_false]
     refine ⟨(l0[i], l1[i]), ?_, by rw [h]; exact Bool.false_ne_true⟩
     rw [List.mem_iff_getElem]
     exact ⟨i, by rw [List.length_zip]; omega, by rw [List.getElem_zip]⟩
    have hone := fun W (hr : Kd.C (Kd.int .u8) W A9 l0[i].f2.length l0[i].f2) (hr' : Kd.C (Kd.int .u8) W A8 l1[i].f2.length l1[i].f2) => same1_calls l0[i].f0 l0[i].f1 A9 c9 l0[i].f2 l1[i].f0 l1[i].f1 A8 c8 l1[i].f2 W hr k3 hr' k8
    obtain ⟨X, hX⟩ : ∃ X, X = l0[i] := ⟨_, rfl⟩
    obtain ⟨Y, hY⟩ : ∃ Y, Y = l1[i] := ⟨_, rfl⟩
    rw [← hX] at k0 k1 k2 k3 k4 hall hone
    rw [← hY] at k5 k6 k7 k8 k9 hall hone
    have HX := Aside0.mk hX
    have HY := Aside0.mk hY
    have HA := Aside0.mk hall
    have HONE := Aside0.mk hone
    have HC4 := Aside0.mk k4
    have HC9 := Aside0.mk k9
    have HWI : Aside0 (wrap64 ((i : Int) + 1) = ((i + 1 : Nat) : Int)) := ⟨wr1 (by have := HL.out; omega)⟩
    clear hX hY hall hone k4 k9
    obtain ⟨n2, hn2⟩ : ∃ n2, n2 = X.f2.length := ⟨_, rfl⟩
    obtain ⟨m2, hm2⟩ : ∃ m2, m2 = Y.f2.length := ⟨_, rfl⟩
    rw [← hn2] at k2 k3
    rw [← hm2] at k7 k8
    have HN2 := Aside0.mk hn2
    have HM2 := Aside0.mk hm2
    clear hn2 hm2
    have b1 := below_alloc hB (.cells #[.string X.f0, .bool X.f1, .slice A9 n2 c9] 42)
    have b2 := below_alloc b1 (.cells #[.string Y.f0, .bool Y.f1, .slice A8 m2 c8] 42)
    have bz := below_alloc (below_alloc (Below.refl _ wr) (.cells #[.string X.f0, .bool X.f1, .slice A9 n2 c9] 42)) (.cells #[.string Y.f0, .bool Y.f1, .slice A8 m2 c8] 42)
    have bq := below_alloc (Below.refl _ wr) (.cells #[.string X.f0, .bool X.f1, .slice A9 n2 c9] 42)
    replace k5 := (bq.cell (cell_lt2 k5)).trans k5
    replace k6 := (bq.cell (cell_lt2 k6)).trans k6
    replace k7 := (bq.cell (cell_lt2 k7)).trans k7
    clear bq
    have HBZ := Aside0.mk bz
    clear bz
    go_wp2_with (fail)
    have hcall := HONE.out _ (Kd.C_below HC4.out HBZ.out) (Kd.C_below HC9.out HBZ.out)
    rw [← HN2.out, ← HM2.out] at hcall
    refine hcall.mono ?_
    clear hcall
    rintro e W2 ⟨rfl, hb2⟩
    obtain ⟨ss, hss⟩ : ∃ ss, ss = sameE X Y := ⟨_, rfl⟩
    rw [show sameE ⟨X.f0, X.f1, X.f2⟩ ⟨Y.f0, Y.f1, Y.f2⟩ = ss from hss.symm]
    have HSSQ := Aside0.mk hss
    have hB2 := b2.trans (hb2.mono b2.size)
    clear hss hb2 b1 b2 k0 k1 k2 k5 k6 k7 hB
    dsimp only
    cases ss with
    | true =>
     go_wp2_with (fail)
     go_roundg (n0 - (i + 1))
     case measure => omega
     case rel =>
      refine ⟨i + 1, a, rfl, by rw [HWI.out], fun j h0 h1 hj => ?_, hB2⟩
      rcases Nat.lt_or_ge j i with h | h
      ·exact HSS.out j h0 h1 h
      ·obtain rfl : j = i := by omega
       rw [← HX.out, ← HY.out]
       exact HSSQ.out.symm
    | false =>
     go_wp2_with (fail)
     go_ret
     exact ⟨by rw [HRES.out, HA.out HSSQ.out.symm]; rfl, hB2⟩
   ·have a1 : decide ((i : Int) < (n0 : Int)) = false := decide_eq_false (by omega)
    have hall : sameL l0 l1 = true := by
     unfold sameL
     rw [decide_eq_true (HN0.out.symm.trans HN1.out), Bool.true_and, List.all_eq_true]
     intro p hp
     obtain ⟨j, hj, rfl⟩ := List.mem_iff_getElem.1 hp
     rw [List.getElem_zip]
     rw [List.length_zip] at hj
     exact HSS.out j (by omega) (by omega) (by have := HN0.out; omega)
    have HA := Aside0.mk hall
    clear hall
    go_wp2_with (fail)
    go_ret
    exact ⟨by rw [HRES.out, HA.out]; rfl, hB⟩
 ·have p1 : ((n0 : Int) != (n1 : Int)) = true := bne_iff_ne.2 (by omega)
  go_wp2_with (fail)
  go_ret
  refine ⟨?_, Below.refl _ _⟩
  rw [HRES.out, sameL, ← HN0.out, ← HN1.out, decide_eq_false q1]
  rfl
end Go.Proofs.YtidlldfghkaeeaaGreatDoor.P
end
