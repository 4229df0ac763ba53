/- Put together by pack2.py: PfTreeMake, PfTreeBytes, TreeLaws, TreeMovP -/
import Derived.Test.YtidlldfghkaeeaaDoorZtOwn53Etc
import Derived.Test.YtidlldfghkaeeaaDoorZtPfTreeFind
import Derived.Test.YtidlldfghkaeeaaDoorZtPfTreeEntryOwnEtc
import Derived.Test.YtidlldfghkaeeaaDoorZtInsEEtc
import Derived.Test.YtidlldfghkaeeaaDoorZtTreeOk
import Derived.Test.YtidlldfghkaeeaaDoorZtPfTreeKidsEtc
import Derived.Test.YtidlldfghkaeeaaDoorZtPfTreePut
import Derived.Test.YtidlldfghkaeeaaDoorZtW0
section
namespace Go.Proofs.YtidlldfghkaeeaaDoor.P
open Go.RowKit Go.Proofs.YtidlldfghkaeeaaDoorW.PrintWords Go.Proofs.YtidlldfghkaeeaaDoorW.PrintLast Go.Proofs.YtidlldfghkaeeaaDoorW.PrintMore
attribute [local go_sem] max2_int min2_int max_two min_two max_three min_three max_four min_four   -- for this text's walks alone
set_option linter.unusedVariables false
set_option linter.unusedSimpArgs false
/-! ### tree_Make: function 18 -/
def tree_Make.f (l0_0 : List (S30)) (a1 : ByteArray) : Option ((List (S30)) × Int) := (tree_Find.f l0_0 a1).bind fun bt146 => (if bt146.2.2.2 = 0 then (some (l0_0, 6)) else (if bt146.2.2.2 = 5 then ((tree_with.f l0_0 a1 true ([] : List Int)).bind fun bt153 => (some (bt153.1, bt153.2))) else (some (l0_0, bt146.2.2.2))))
set_option maxHeartbeats 8000000 in
set_option maxRecDepth 100000 in
theorem tree_Make.calls (P0_0_ : Nat → Prop) (A0_0 : Option Addr) (c0_0 : Nat) (l0_0 : List (S30)) (a1 : ByteArray) (r1 : List (S30)) (r2 : Int) (w : World) (hs0_0 : Kd.V k30 30 w w.heap.size (fun k_ => P0_0_ k_) (.slice A0_0 l0_0.length c0_0) l0_0) (h : tree_Make.f l0_0 a1 = some (r1, r2)) :
  Calls Tryd.prog 18 #[.agg #[.slice A0_0 l0_0.length c0_0], .string a1] w fun e w' => ∃ v0_ : Value, e = .returned (.tuple #[.agg #[v0_], .int .i64 r2]) ∧ Kd.V k30 30 w' w.heap.size (fun k_ => (P0_0_ k_ ∨ w.heap.size ≤ k_)) v0_ r1 ∧ Below w.heap.size w w' := by
 have hu26 := Tryd.underlying26
 have hu30 := Tryd.underlying30
 have HO0_0 := xa_ (show Kd.V k30 30 w w.heap.size (fun k_ => (P0_0_ k_ ∨ w.heap.size ≤ k_)) (.slice A0_0 l0_0.length c0_0) l0_0 from Kd.V_mono hs0_0 (fun k_ hk => .inl hk))
 have HB := xa_ (Below.refl w.heap.size w)
 have H : ((tree_Find.f l0_0 a1).bind fun bt146 => (if bt146.2.2.2 = 0 then (some (l0_0, 6)) else (if bt146.2.2.2 = 5 then ((tree_with.f l0_0 a1 true ([] : List Int)).bind fun bt153 => (some (bt153.1, bt153.2))) else (some (l0_0, bt146.2.2.2))))) = some (r1, r2) := h
 clear h
 replace H := Option.bind_eq_some_iff.mp H
 obtain ⟨⟨t146, t147, t148, t151⟩, A30, H⟩ := H
 replace H : (if t151 = 0 then (some (l0_0, 6)) else (if t151 = 5 then ((tree_with.f l0_0 a1 true ([] : List Int)).bind fun bt153 => (some (bt153.1, bt153.2))) else (some (l0_0, t151)))) = some (r1, r2) := H
 have A3 := Aside0.mk A30
 clear A30
 by_cases c4 : t151 = 0
 ·rw [if_pos c4] at H
  have c4b0 : (t151 == 0) = true := beq_iff_eq.mpr c4
  have c4b1 : (t151 != 0) = false := bne_eq_false_iff_eq.mpr c4
  clear c4
  simp only [Option.some.injEq, Prod.mk.injEq] at H
  obtain ⟨rfl, rfl⟩ := H
  go_enter Tryd.func18, Tryd.ntmps18
  go_wp2_with (first | ((with_reducible refine gate_dst (N := 2) rfl ?_); refine box_event ?hg (N := 2) ?hd (cs := #[.slice A0_0 l0_0.length c0_0]) (t := 26) ?hr ?_; (case hd => rfl); (case hg => rfl); (case hr => first | (go_simp; done) | (go_simp; rfl)); intro gb144 hg w5 hbox hb; have n0_ := xa_ (Kd.V_below (Kd.V_elderB (xV_ HO0_0.out) gb144 (Nat.le_of_eq hg.symm)) hb); have n1_ := xa_ (below_step (by repeat (first | (with_reducible first | exact HB.out | apply below_alloc | apply pw_below_drewN | apply below_drew1) | exact HB.out)) hb); have n2_ := xa_ (hbox); have n3_ := xa_ ((by rw [hg]; exact (below_size (by repeat (first | (with_reducible first | exact HB.out | apply below_alloc | apply pw_below_drewN | apply below_drew1) | exact HB.out))) : w.heap.size ≤ gb144)); have n4_ := xa_ ((by rw [hg]; exact (below_size (by repeat (first | (with_reducible first | exact HB.out | apply below_alloc | apply pw_below_drewN | apply below_drew1) | exact HB.out))) : w.heap.size ≤ gb144)); clear HO0_0; clear HB; have HO0_0 := n0_; have HB := n1_; have BK144 := n2_; have GW144 := n3_; have GE144 := n4_; clear n0_ n1_ n2_ n3_ n4_; clear hb hbox hg) | ((with_reducible refine gate_dst (N := 4) rfl ?_); refine box_event ?hg (N := 4) ?hd (cs := #[.slice none 0 0]) (t := 26) ?hr ?_; (case hd => rfl); (case hg => rfl); (case hr => first | (go_simp; done) | (go_simp; rfl)); intro gb145 hg w6 hbox hb; have n0_ := xa_ (Kd.V_below (Kd.V_elderB (xV_ HO0_0.out) gb145 (Nat.le_of_eq hg.symm)) hb); have n1_ := xa_ (blk_below (xb_ BK144.out) hb); have n2_ := xa_ (below_step (by repeat (first | (with_reducible first | exact HB.out | apply below_alloc | apply pw_below_drewN | apply below_drew1 | refine below_set ?_ GE144.out) | exact HB.out)) hb); have n3_ := xa_ (hbox); have n4_ := xa_ ((by rw [hg]; exact (below_size (by repeat (first | (with_reducible first | exact HB.out | apply below_alloc | apply pw_below_drewN | apply below_drew1 | refine below_set ?_ GE144.out) | exact HB.out))) : w.heap.size ≤ gb145)); have n5_ := xa_ ((by rw [hg]; exact (below_size (by repeat (first | (with_reducible first | exact HB.out | apply below_alloc | apply pw_below_drewN | apply below_drew1 | refine below_set ?_ GE144.out) | exact HB.out))) : w.heap.size ≤ gb145)); have n6_ := xa_ ((by rw [hg]; exact Nat.ne_of_lt (blk_lt (xb_ BK144.out)) : gb144 ≠ gb145)); have n7_ := xa_ ((by rw [hg]; exact Nat.ne_of_gt (blk_lt (xb_ BK144.out)) : gb145 ≠ gb144)); clear HO0_0; clear BK144; clear HB; have HO0_0 := n0_; have BK144 := n1_; have HB := n2_; have BK145 := n3_; have GW145 := n4_; have GE145 := n5_; have NB144_145 := n6_; have NB145_144 := n7_; clear n0_ n1_ n2_ n3_ n4_ n5_ n6_ n7_; clear hb hbox hg; have hnb7 := NB144_145.out; have hnc7 := NB145_144.out; have hcz8_0 : w6.cell? ⟨gb144, 0, none⟩ = some (.slice A0_0 l0_0.length c0_0) := (blk_cell BK144.out 0).trans rfl; have hfz8_0 := blk_frozen BK144.out 0) | ((with_reducible refine gate_callee (f := 16) rfl ?_); refine goesL_ (some 11) rfl rfl Tryd.func16 (by kernel_rfl) rfl #[.agg #[.slice A0_0 l0_0.length c0_0], .string a1] rfl (by (try simp only [List.map_toArray, List.map_cons, List.map_nil]); first | done | rfl | (simp only [List.length_drop, List.length_take]; rfl)) ?_; (with_reducible refine (tree_Find.calls _ _ l0_0 a1 t146 t147 t148 t151 _ ?side1 ?side2 A3.out).mono ?_); (case side1 => exact xC_ (Kd.V_reads' HO0_0.out).2.2); (case side2 => exact (Kd.V_reads' HO0_0.out).2.1); rintro e w9 ⟨v149, rfl, ho0, hb⟩; refine ⟨_, rfl, ?_⟩; replace HO0_0 := xa_ (Kd.V_elder' (xV_ HO0_0.out) (Kd.R_base ho0) hb); replace HO150 := xa_ (Kd.R_lower (Kd.R_newM (M := fun k_ => (w.heap.size ≤ k_)) ho0 (below_size (by repeat (first | (with_reducible first | exact HB.out | apply below_alloc | apply pw_below_drewN | apply below_drew1 | refine below_set ?_ GE144.out | refine below_set ?_ GE145.out) | exact HB.out))) (fun k_ h_ => h_)) (below_size (by repeat (first | (with_reducible first | exact HB.out | apply below_alloc | apply pw_below_drewN | apply below_drew1 | refine below_set ?_ GE144.out | refine below_set ?_ GE145.out) | exact HB.out)))); replace BK144 := xa_ (blk_below (xb_ BK144.out) hb); replace BK145 := xa_ (blk_below (xb_ BK145.out) hb); replace HB := xa_ (below_step (by repeat (first | (with_reducible first | exact HB.out | apply below_alloc | apply pw_below_drewN | apply below_drew1 | refine below_set ?_ GE144.out | refine below_set ?_ GE145.out) | exact HB.out)) hb); (try clear hb); (try clear hb2); (try clear hk); (try clear hi); (try clear ho0)) | ((with_reducible refine gate_dst (N := 6) rfl ?_); refine box_event ?hg (N := 6) ?hd (cs := #[.string (⟨#[]⟩ : ByteArray), .bool false, .slice none 0 0]) (t := 30) ?hr ?_; (case hd => rfl); (case hg => rfl); (case hr => first | (go_simp; done) | (go_simp; rfl)); intro gb152 hg w10 hbox hb; have n0_ := xa_ (Kd.V_below (Kd.V_elderB (xV_ HO0_0.out) gb152 (Nat.le_of_eq hg.symm)) hb); have n1_ := xa_ (Kd.R_below (xR_ HO150.out) hb); have n2_ := xa_ (blk_below (xb_ BK144.out) hb); have n3_ := xa_ (blk_below (xb_ BK145.out) hb); have n4_ := xa_ (below_step (by repeat (first | (with_reducible first | exact HB.out | apply below_alloc | apply pw_below_drewN | apply below_drew1 | refine below_set ?_ GE144.out | refine below_set ?_ GE145.out) | exact HB.out)) hb); have n5_ := xa_ (hbox); have n6_ := xa_ ((by rw [hg]; exact (below_size (by repeat (first | (with_reducible first | exact HB.out | apply below_alloc | apply pw_below_drewN | apply below_drew1 | refine below_set ?_ GE144.out | refine below_set ?_ GE145.out) | exact HB.out))) : w.heap.size ≤ gb152)); have n7_ := xa_ ((by rw [hg]; exact (below_size (by repeat (first | (with_reducible first | exact HB.out | apply below_alloc | apply pw_below_drewN | apply below_drew1 | refine below_set ?_ GE144.out | refine below_set ?_ GE145.out) | exact HB.out))) : w.heap.size ≤ gb152)); have n8_ := xa_ ((by rw [hg]; exact Nat.ne_of_lt (blk_lt (xb_ BK144.out)) : gb144 ≠ gb152)); have n9_ := xa_ ((by rw [hg]; exact Nat.ne_of_gt (blk_lt (xb_ BK144.out)) : gb152 ≠ gb144)); have n10_ := xa_ ((by rw [hg]; exact Nat.ne_of_lt (blk_lt (xb_ BK145.out)) : gb145 ≠ gb152)); have n11_ := xa_ ((by rw [hg]; exact Nat.ne_of_gt (blk_lt (xb_ BK145.out)) : gb152 ≠ gb145)); clear HO0_0; clear HO150; clear BK144; clear BK145; clear HB; have HO0_0 := n0_; have HO150 := n1_; have BK144 := n2_; have BK145 := n3_; have HB := n4_; have BK152 := n5_; have GW152 := n6_; have GE152 := n7_; have NB144_152 := n8_; have NB152_144 := n9_; have NB145_152 := n10_; have NB152_145 := n11_; clear n0_ n1_ n2_ n3_ n4_ n5_ n6_ n7_ n8_ n9_ n10_ n11_; clear hb hbox hg; have hnb11 := NB152_144.out; have hnc11 := NB144_152.out; have hnb12 := NB152_145.out; have hnc12 := NB145_152.out; have hcz13_0 : w10.cell? ⟨gb152, 0, none⟩ = some (.string (⟨#[]⟩ : ByteArray)) := (blk_cell BK152.out 0).trans rfl; have hcz13_1 : w10.cell? ⟨gb152, 1, none⟩ = some (.bool false) := (blk_cell BK152.out 1).trans rfl; have hcz13_2 : w10.cell? ⟨gb152, 2, none⟩ = some (.slice none 0 0) := (blk_cell BK152.out 2).trans rfl; have hfz13_0 := blk_frozen BK152.out 0; have hfz13_1 := blk_frozen BK152.out 1; have hfz13_2 := blk_frozen BK152.out 2; obtain ⟨Ao14, co14, eo14⟩ := Kd.R_slice HO150.out; subst eo14; have hcz15_0 : w10.cell? ⟨gb144, 0, none⟩ = some (.slice A0_0 l0_0.length c0_0) := (blk_cell BK144.out 0).trans rfl; have hfz15_0 := blk_frozen BK144.out 0; have hcz16_0 : w10.cell? ⟨gb145, 0, none⟩ = some (.slice none 0 0) := (blk_cell BK145.out 0).trans rfl; have hfz16_0 := blk_frozen BK145.out 0))
  refine bodyPost_ret (results_ct rfl _ _ gb145 26 #[.slice A0_0 l0_0.length c0_0] (0, 0) _ rfl (by (with_reducible repeat (first | refine blk_drewN ?_ _ | refine blk_drew ?_ | refine blk_alloc ?_ _)); refine blk_put (cs := #[.slice none 0 0]) ?_ 0 _ rfl; (with_reducible repeat (first | refine blk_drewN ?_ _ | refine blk_drew ?_ | refine blk_alloc ?_ _)); refine blk_far ?_ NB145_152.out _; (with_reducible repeat (first | refine blk_drewN ?_ _ | refine blk_drew ?_ | refine blk_alloc ?_ _)); refine blk_far ?_ NB145_152.out _; (with_reducible repeat (first | refine blk_drewN ?_ _ | refine blk_drew ?_ | refine blk_alloc ?_ _)); refine blk_far ?_ NB145_152.out _; (with_reducible repeat (first | refine blk_drewN ?_ _ | refine blk_drew ?_ | refine blk_alloc ?_ _)); exact BK145.out) Tryd.underlying26 rfl (by kernel_rfl)) rfl ?_
  exact ⟨_, by first | rfl | (simp [errW_none, errW_some] <;> rfl) | (simp [*, errW_none, errW_some] <;> rfl), by (with_reducible repeat (first | apply Kd.V_alloc | apply Kd.V_drewN | apply Kd.V_drew)); exact Kd.V_mono (Kd.V_far (p := ⟨gb145, 0, none⟩) (Kd.V_far (p := ⟨gb152, 2, none⟩) (Kd.V_far (p := ⟨gb152, 1, none⟩) (Kd.V_far (p := ⟨gb152, 0, none⟩) (Kd.V_mono (Kd.V_mono HO0_0.out (fun k_ hk => (⟨hk, hk.2⟩ : _ ∧ k_ ≠ gb152))) (fun k_ hk => (⟨hk, hk.1.1.1.2⟩ : _ ∧ k_ ≠ gb145))) (fun _ hk => hk.1.2) (.string t146)) (fun _ hk => hk.1.2) (.bool t147)) (fun _ hk => hk.1.2) (.slice Ao14 t148.length co14)) (fun _ hk => hk.2) (.slice A0_0 l0_0.length c0_0)) (fun _ hk => hk.1.1.1.1.1.1), by repeat (first | (with_reducible first | exact HB.out | apply below_alloc | apply pw_below_drewN | apply below_drew1 | refine below_set ?_ GE144.out | refine below_set ?_ GE145.out | refine below_set ?_ GE152.out) | exact HB.out)⟩
 ·rw [if_neg c4] at H
  have c4b0 : (t151 == 0) = false := beq_eq_false_iff_ne.mpr c4
  have c4b1 : (t151 != 0) = true := bne_iff_ne.mpr c4
  by_cases c17 : t151 = 5
  ·rw [if_pos c17] at H
   have c17b0 : (t151 == 5) = true := beq_iff_eq.mpr c17
   have c17b1 : (t151 != 5) = false := bne_eq_false_iff_eq.mpr c17
   clear c17
   replace H := Option.bind_eq_some_iff.mp H
   obtain ⟨⟨t153, t156⟩, A180, H⟩ := H
   replace H : (some (t153, t156)) = some (r1, r2) := H
   have A18 := Aside0.mk A180
   clear A180
   simp only [Option.some.injEq, Prod.mk.injEq] at H
   obtain ⟨rfl, rfl⟩ := H
   go_enter Tryd.func18, Tryd.ntmps18
   go_wp2_with (first | ((with_reducible refine gate_dst (N := 2) rfl ?_); refine box_event ?hg (N := 2) ?hd (cs := #[.slice A0_0 l0_0.length c0_0]) (t := 26) ?hr ?_; (case hd => rfl); (case hg => rfl); (case hr => first | (go_simp; done) | (go_simp; rfl)); intro gb144 hg w19 hbox hb; have n0_ := xa_ (Kd.V_below (Kd.V_elderB (xV_ HO0_0.out) gb144 (Nat.le_of_eq hg.symm)) hb); have n1_ := xa_ (below_step (by repeat (first | (with_reducible first | exact HB.out | apply below_alloc | apply pw_below_drewN | apply below_drew1) | exact HB.out)) hb); have n2_ := xa_ (hbox); have n3_ := xa_ ((by rw [hg]; exact (below_size (by repeat (first | (with_reducible first | exact HB.out | apply below_alloc | apply pw_below_drewN | apply below_drew1) | exact HB.out))) : w.heap.size ≤ gb144)); have n4_ := xa_ ((by rw [hg]; exact (below_size (by repeat (first | (with_reducible first | exact HB.out | apply below_alloc | apply pw_below_drewN | apply below_drew1) | exact HB.out))) : w.heap.size ≤ gb144)); clear HO0_0; clear HB; have HO0_0 := n0_; have HB := n1_; have BK144 := n2_; have GW144 := n3_; have GE144 := n4_; clear n0_ n1_ n2_ n3_ n4_; clear hb hbox hg) | ((with_reducible refine gate_dst (N := 4) rfl ?_); refine box_event ?hg (N := 4) ?hd (cs := #[.slice none 0 0]) (t := 26) ?hr ?_; (case hd => rfl); (case hg => rfl); (case hr => first | (go_simp; done) | (go_simp; rfl)); intro gb145 hg w20 hbox hb; have n0_ := xa_ (Kd.V_below (Kd.V_elderB (xV_ HO0_0.out) gb145 (Nat.le_of_eq hg.symm)) hb); have n1_ := xa_ (blk_below (xb_ BK144.out) hb); have n2_ := xa_ (below_step (by repeat (first | (with_reducible first | exact HB.out | apply below_alloc | apply pw_below_drewN | apply below_drew1 | refine below_set ?_ GE144.out) | exact HB.out)) hb); have n3_ := xa_ (hbox); have n4_ := xa_ ((by rw [hg]; exact (below_size (by repeat (first | (with_reducible first | exact HB.out | apply below_alloc | apply pw_below_drewN | apply below_drew1 | refine below_set ?_ GE144.out) | exact HB.out))) : w.heap.size ≤ gb145)); have n5_ := xa_ ((by rw [hg]; exact (below_size (by repeat (first | (with_reducible first | exact HB.out | apply below_alloc | apply pw_below_drewN | apply below_drew1 | refine below_set ?_ GE144.out) | exact HB.out))) : w.heap.size ≤ gb145)); have n6_ := xa_ ((by rw [hg]; exact Nat.ne_of_lt (blk_lt (xb_ BK144.out)) : gb144 ≠ gb145)); have n7_ := xa_ ((by rw [hg]; exact Nat.ne_of_gt (blk_lt (xb_ BK144.out)) : gb145 ≠ gb144)); clear HO0_0; clear BK144; clear HB; have HO0_0 := n0_; have BK144 := n1_; have HB := n2_; have BK145 := n3_; have GW145 := n4_; have GE145 := n5_; have NB144_145 := n6_; have NB145_144 := n7_; clear n0_ n1_ n2_ n3_ n4_ n5_ n6_ n7_; clear hb hbox hg; have hnb21 := NB144_145.out; have hnc21 := NB145_144.out; have hcz22_0 : w20.cell? ⟨gb144, 0, none⟩ = some (.slice A0_0 l0_0.length c0_0) := (blk_cell BK144.out 0).trans rfl; have hfz22_0 := blk_frozen BK144.out 0) | ((with_reducible refine gate_callee (f := 16) rfl ?_); refine goesL_ (some 11) rfl rfl Tryd.func16 (by kernel_rfl) rfl #[.agg #[.slice A0_0 l0_0.length c0_0], .string a1] rfl (by (try simp only [List.map_toArray, List.map_cons, List.map_nil]); first | done | rfl | (simp only [List.length_drop, List.length_take]; rfl)) ?_; (with_reducible refine (tree_Find.calls _ _ l0_0 a1 t146 t147 t148 t151 _ ?side1 ?side2 A3.out).mono ?_); (case side1 => exact xC_ (Kd.V_reads' HO0_0.out).2.2); (case side2 => exact (Kd.V_reads' HO0_0.out).2.1); rintro e w23 ⟨v149, rfl, ho0, hb⟩; refine ⟨_, rfl, ?_⟩; replace HO0_0 := xa_ (Kd.V_elder' (xV_ HO0_0.out) (Kd.R_base ho0) hb); replace HO150 := xa_ (Kd.R_lower (Kd.R_newM (M := fun k_ => (w.heap.size ≤ k_)) ho0 (below_size (by repeat (first | (with_reducible first | exact HB.out | apply below_alloc | apply pw_below_drewN | apply below_drew1 | refine below_set ?_ GE144.out | refine below_set ?_ GE145.out) | exact HB.out))) (fun k_ h_ => h_)) (below_size (by repeat (first | (with_reducible first | exact HB.out | apply below_alloc | apply pw_below_drewN | apply below_drew1 | refine below_set ?_ GE144.out | refine below_set ?_ GE145.out) | exact HB.out)))); replace BK144 := xa_ (blk_below (xb_ BK144.out) hb); replace BK145 := xa_ (blk_below (xb_ BK145.out) hb); replace HB := xa_ (below_step (by repeat (first | (with_reducible first | exact HB.out | apply below_alloc | apply pw_below_drewN | apply below_drew1 | refine below_set ?_ GE144.out | refine below_set ?_ GE145.out) | exact HB.out)) hb); (try clear hb); (try clear hb2); (try clear hk); (try clear hi); (try clear ho0)) | ((with_reducible refine gate_dst (N := 6) rfl ?_); refine box_event ?hg (N := 6) ?hd (cs := #[.string (⟨#[]⟩ : ByteArray), .bool false, .slice none 0 0]) (t := 30) ?hr ?_; (case hd => rfl); (case hg => rfl); (case hr => first | (go_simp; done) | (go_simp; rfl)); intro gb152 hg w24 hbox hb; have n0_ := xa_ (Kd.V_below (Kd.V_elderB (xV_ HO0_0.out) gb152 (Nat.le_of_eq hg.symm)) hb); have n1_ := xa_ (Kd.R_below (xR_ HO150.out) hb); have n2_ := xa_ (blk_below (xb_ BK144.out) hb); have n3_ := xa_ (blk_below (xb_ BK145.out) hb); have n4_ := xa_ (below_step (by repeat (first | (with_reducible first | exact HB.out | apply below_alloc | apply pw_below_drewN | apply below_drew1 | refine below_set ?_ GE144.out | refine below_set ?_ GE145.out) | exact HB.out)) hb); have n5_ := xa_ (hbox); have n6_ := xa_ ((by rw [hg]; exact (below_size (by repeat (first | (with_reducible first | exact HB.out | apply below_alloc | apply pw_below_drewN | apply below_drew1 | refine below_set ?_ GE144.out | refine below_set ?_ GE145.out) | exact HB.out))) : w.heap.size ≤ gb152)); have n7_ := xa_ ((by rw [hg]; exact (below_size (by repeat (first | (with_reducible first | exact HB.out | apply below_alloc | apply pw_below_drewN | apply below_drew1 | refine below_set ?_ GE144.out | refine below_set ?_ GE145.out) | exact HB.out))) : w.heap.size ≤ gb152)); have n8_ := xa_ ((by rw [hg]; exact Nat.ne_of_lt (blk_lt (xb_ BK144.out)) : gb144 ≠ gb152)); have n9_ := xa_ ((by rw [hg]; exact Nat.ne_of_gt (blk_lt (xb_ BK144.out)) : gb152 ≠ gb144)); have n10_ := xa_ ((by rw [hg]; exact Nat.ne_of_lt (blk_lt (xb_ BK145.out)) : gb145 ≠ gb152)); have n11_ := xa_ ((by rw [hg]; exact Nat.ne_of_gt (blk_lt (xb_ BK145.out)) : gb152 ≠ gb145)); clear HO0_0; clear HO150; clear BK144; clear BK145; clear HB; have HO0_0 := n0_; have HO150 := n1_; have BK144 := n2_; have BK145 := n3_; have HB := n4_; have BK152 := n5_; have GW152 := n6_; have GE152 := n7_; have NB144_152 := n8_; have NB152_144 := n9_; have NB145_152 := n10_; have NB152_145 := n11_; clear n0_ n1_ n2_ n3_ n4_ n5_ n6_ n7_ n8_ n9_ n10_ n11_; clear hb hbox hg; have hnb25 := NB152_144.out; have hnc25 := NB144_152.out; have hnb26 := NB152_145.out; have hnc26 := NB145_152.out; have hcz27_0 : w24.cell? ⟨gb152, 0, none⟩ = some (.string (⟨#[]⟩ : ByteArray)) := (blk_cell BK152.out 0).trans rfl; have hcz27_1 : w24.cell? ⟨gb152, 1, none⟩ = some (.bool false) := (blk_cell BK152.out 1).trans rfl; have hcz27_2 : w24.cell? ⟨gb152, 2, none⟩ = some (.slice none 0 0) := (blk_cell BK152.out 2).trans rfl; have hfz27_0 := blk_frozen BK152.out 0; have hfz27_1 := blk_frozen BK152.out 1; have hfz27_2 := blk_frozen BK152.out 2; obtain ⟨Ao28, co28, eo28⟩ := Kd.R_slice HO150.out; subst eo28) | ((with_reducible refine gate_store (t := 30) (p := 6) rfl ?_); refine store_event (t := 30) (p := 6) (v := ?vo_w29) (w1 := (((w24.setCell ⟨gb152, 0, none⟩ (.string t146)).setCell ⟨gb152, 1, none⟩ (.bool t147)).setCell ⟨gb152, 2, none⟩ (.slice Ao28 t148.length co28))) ?hg ?ho ?hn ?hr ?_; (case ho => rfl); (case hg => rfl); (case hn => rfl); (case hr => first | (go_simp; done) | (go_simp; rfl)); intro w29 hw; have n0_ : Aside0 (Kd.V k30 30 w29 w.heap.size (fun k_ => (P0_0_ k_ ∨ w.heap.size ≤ k_) ∧ some k_ ≠ (.slice Ao28 t148.length co28 : Value).ownBlock ∧ k_ ≠ gb144 ∧ k_ ≠ gb145 ∧ k_ ≠ gb152) (.slice A0_0 l0_0.length c0_0) l0_0) := ⟨(by rw [hw]; exact (by (with_reducible repeat (first | apply Kd.V_alloc | apply Kd.V_drewN | apply Kd.V_drew)); exact Kd.V_mono (Kd.V_far (p := ⟨gb152, 2, none⟩) (Kd.V_far (p := ⟨gb152, 1, none⟩) (Kd.V_far (p := ⟨gb152, 0, none⟩) (Kd.V_mono HO0_0.out (fun k_ hk => (⟨hk, hk.2⟩ : _ ∧ k_ ≠ gb152))) (fun _ hk => hk.2) (.string t146)) (fun _ hk => hk.2) (.bool t147)) (fun _ hk => hk.2) (.slice Ao28 t148.length co28)) (fun _ hk => ⟨hk.1.1.1.1.1, ⟨hk.1.1.2, ⟨hk.1.1.1.1.2, ⟨hk.1.1.1.2, hk.1.2⟩⟩⟩⟩)))⟩; have n1_ : Aside0 (Kd.R (Kd.int .u8) 5 w29 w.heap.size (fun k_ => (w.heap.size ≤ k_)) (.slice Ao28 t148.length co28) t148) := ⟨(by rw [hw]; exact (by (with_reducible repeat (first | apply Kd.R_alloc | apply Kd.R_drewN | apply Kd.R_drew)); exact Kd.R_mono (Kd.R_far (p := ⟨gb152, 2, none⟩) (Kd.R_far (p := ⟨gb152, 1, none⟩) (Kd.R_far (p := ⟨gb152, 0, none⟩) (Kd.R_types HO150.out BK152.out (by decide)) (fun _ hk => hk.2) (.string t146)) (fun _ hk => hk.2) (.bool t147)) (fun _ hk => hk.2) (.slice Ao28 t148.length co28)) (fun _ hk => hk.1.1)))⟩; have n2_ : Aside0 (w29.heap[gb144]? = some (.cells #[.slice A0_0 l0_0.length c0_0] 26 (0, 0))) := ⟨(by rw [hw]; exact (by (with_reducible repeat (first | refine blk_drewN ?_ _ | refine blk_drew ?_ | refine blk_alloc ?_ _)); refine blk_far ?_ NB144_152.out _; (with_reducible repeat (first | refine blk_drewN ?_ _ | refine blk_drew ?_ | refine blk_alloc ?_ _)); refine blk_far ?_ NB144_152.out _; (with_reducible repeat (first | refine blk_drewN ?_ _ | refine blk_drew ?_ | refine blk_alloc ?_ _)); refine blk_far ?_ NB144_152.out _; (with_reducible repeat (first | refine blk_drewN ?_ _ | refine blk_drew ?_ | refine blk_alloc ?_ _)); exact BK144.out))⟩; have n3_ : Aside0 (w29.heap[gb145]? = some (.cells #[.slice none 0 0] 26 (0, 0))) := ⟨(by rw [hw]; exact (by (with_reducible repeat (first | refine blk_drewN ?_ _ | refine blk_drew ?_ | refine blk_alloc ?_ _)); refine blk_far ?_ NB145_152.out _; (with_reducible repeat (first | refine blk_drewN ?_ _ | refine blk_drew ?_ | refine blk_alloc ?_ _)); refine blk_far ?_ NB145_152.out _; (with_reducible repeat (first | refine blk_drewN ?_ _ | refine blk_drew ?_ | refine blk_alloc ?_ _)); refine blk_far ?_ NB145_152.out _; (with_reducible repeat (first | refine blk_drewN ?_ _ | refine blk_drew ?_ | refine blk_alloc ?_ _)); exact BK145.out))⟩; have n4_ : Aside0 (w29.heap[gb152]? = some (.cells #[.string t146, .bool t147, .slice Ao28 t148.length co28] 30 (0, 0))) := ⟨(by rw [hw]; exact (by (with_reducible repeat (first | refine blk_drewN ?_ _ | refine blk_drew ?_ | refine blk_alloc ?_ _)); refine blk_put (cs := #[.string t146, .bool t147, .slice none 0 0]) ?_ 2 _ rfl; (with_reducible repeat (first | refine blk_drewN ?_ _ | refine blk_drew ?_ | refine blk_alloc ?_ _)); refine blk_put (cs := #[.string t146, .bool false, .slice none 0 0]) ?_ 1 _ rfl; (with_reducible repeat (first | refine blk_drewN ?_ _ | refine blk_drew ?_ | refine blk_alloc ?_ _)); refine blk_put (cs := #[.string (⟨#[]⟩ : ByteArray), .bool false, .slice none 0 0]) ?_ 0 _ rfl; (with_reducible repeat (first | refine blk_drewN ?_ _ | refine blk_drew ?_ | refine blk_alloc ?_ _)); exact BK152.out))⟩; have n5_ : Aside0 (Below w.heap.size w w29) := ⟨(by rw [hw]; exact (by repeat (first | (with_reducible first | exact HB.out | apply below_alloc | apply pw_below_drewN | apply below_drew1 | refine below_set ?_ GE144.out | refine below_set ?_ GE145.out | refine below_set ?_ GE152.out) | exact HB.out)))⟩; clear hw; clear HO0_0; clear HO150; clear BK144; clear BK145; clear BK152; clear HB; have HO0_0 := n0_; have HO150 := n1_; have BK144 := n2_; have BK145 := n3_; have BK152 := n4_; have HB := n5_; clear n0_ n1_ n2_ n3_ n4_ n5_; have hcz30_0 : w29.cell? ⟨gb144, 0, none⟩ = some (.slice A0_0 l0_0.length c0_0) := (blk_cell BK144.out 0).trans rfl; have hfz30_0 := blk_frozen BK144.out 0) | ((with_reducible refine gate_callee (f := 66) rfl ?_); refine goesL_ (some 23) rfl rfl Tryd.func66 (by kernel_rfl) rfl #[.agg #[.slice A0_0 l0_0.length c0_0], .agg #[.string a1, .bool true, .slice none 0 0]] rfl (by (try simp only [List.map_toArray, List.map_cons, List.map_nil]); first | done | rfl | (simp only [List.length_drop, List.length_take]; rfl)) ?_; (refine (tree_with.calls (fun k_ => ((P0_0_ k_ ∨ w.heap.size ≤ k_) ∧ (some k_ ≠ (.slice Ao28 t148.length co28 : Value).ownBlock ∧ (k_ ≠ gb144 ∧ (k_ ≠ gb145 ∧ k_ ≠ gb152))))) _ _ l0_0 a1 true _ _ ([] : List Int) t153 t156 _ ?side1 ?side2 ?side3 A18.out).mono ?_); (case side1 => exact HO0_0.out); (case side2 => exact Kd.C_nil _ _); (case side3 => exact Nat.le_refl _); rintro e w31 ⟨v154, rfl, ho0, hb⟩; refine ⟨_, rfl, ?_⟩; have n0_ := xa_ (Kd.V_below (xV_ HO0_0.out) hb); have n1_ := xa_ (Kd.R_below (xR_ HO150.out) hb); have n2_ := xa_ (Kd.V_lower (Kd.V_mono (ok' := fun k_ => (P0_0_ k_ ∨ w.heap.size ≤ k_) ∧ some k_ ≠ (.slice Ao28 t148.length co28 : Value).ownBlock ∧ k_ ≠ gb144 ∧ k_ ≠ gb145 ∧ k_ ≠ gb152) ho0 (fun k_ hk_ => ⟨Or.elim hk_ (fun hs_ => hs_.1) (fun hn_ => (.inr (Nat.le_trans (below_size (by repeat (first | (with_reducible first | exact HB.out | apply below_alloc | apply pw_below_drewN | apply below_drew1 | refine below_set ?_ GE144.out | refine below_set ?_ GE145.out | refine below_set ?_ GE152.out) | exact HB.out))) hn_))), Or.elim hk_ (fun hs_ => hs_.2.1) (fun hn_ => (Kd.fresh' (Kd.R_lt (xR_ HO150.out)) k_ hn_)), Or.elim hk_ (fun hs_ => hs_.2.2.1) (fun hn_ => (Kd.freshB (xb_ BK144.out) k_ hn_)), Or.elim hk_ (fun hs_ => hs_.2.2.2.1) (fun hn_ => (Kd.freshB (xb_ BK145.out) k_ hn_)), Or.elim hk_ (fun hs_ => hs_.2.2.2.2) (fun hn_ => (Kd.freshB (xb_ BK152.out) k_ hn_))⟩)) (below_size (by repeat (first | (with_reducible first | exact HB.out | apply below_alloc | apply pw_below_drewN | apply below_drew1 | refine below_set ?_ GE144.out | refine below_set ?_ GE145.out | refine below_set ?_ GE152.out) | exact HB.out)))); have n3_ := xa_ (blk_below (xb_ BK144.out) hb); have n4_ := xa_ (blk_below (xb_ BK145.out) hb); have n5_ := xa_ (blk_below (xb_ BK152.out) hb); have n6_ := xa_ (below_step (by repeat (first | (with_reducible first | exact HB.out | apply below_alloc | apply pw_below_drewN | apply below_drew1 | refine below_set ?_ GE144.out | refine below_set ?_ GE145.out | refine below_set ?_ GE152.out) | exact HB.out)) hb); clear HO0_0; clear HO150; clear BK144; clear BK145; clear BK152; clear HB; have HO0_0 := n0_; have HO150 := n1_; have HO155 := n2_; have BK144 := n3_; have BK145 := n4_; have BK152 := n5_; have HB := n6_; clear n0_ n1_ n2_ n3_ n4_ n5_ n6_; (try clear hb); (try clear hb2); (try clear hk); (try clear hi); (try clear ho0); obtain ⟨Ao32, co32, eo32⟩ := Kd.V_slice HO155.out; subst eo32; have hcz33_0 : w31.cell? ⟨gb145, 0, none⟩ = some (.slice none 0 0) := (blk_cell BK145.out 0).trans rfl; have hfz33_0 := blk_frozen BK145.out 0))
   refine bodyPost_ret (results_ct rfl _ _ gb145 26 #[.slice Ao32 t153.length co32] (0, 0) _ rfl (by (with_reducible repeat (first | refine blk_drewN ?_ _ | refine blk_drew ?_ | refine blk_alloc ?_ _)); refine blk_put (cs := #[.slice none 0 0]) ?_ 0 _ rfl; (with_reducible repeat (first | refine blk_drewN ?_ _ | refine blk_drew ?_ | refine blk_alloc ?_ _)); exact BK145.out) Tryd.underlying26 rfl (by kernel_rfl)) rfl ?_
   exact ⟨_, by first | rfl | (simp [errW_none, errW_some] <;> rfl) | (simp [*, errW_none, errW_some] <;> rfl), by (with_reducible repeat (first | apply Kd.V_alloc | apply Kd.V_drewN | apply Kd.V_drew)); exact Kd.V_mono (Kd.V_far (p := ⟨gb145, 0, none⟩) (Kd.V_mono HO155.out (fun k_ hk => (⟨hk, hk.2.2.2.1⟩ : _ ∧ k_ ≠ gb145))) (fun _ hk => hk.2) (.slice Ao32 t153.length co32)) (fun _ hk => hk.1.1), by repeat (first | (with_reducible first | exact HB.out | apply below_alloc | apply pw_below_drewN | apply below_drew1 | refine below_set ?_ GE144.out | refine below_set ?_ GE145.out | refine below_set ?_ GE152.out) | exact HB.out)⟩
  ·rw [if_neg c17] at H
   have c17b0 : (t151 == 5) = false := beq_eq_false_iff_ne.mpr c17
   have c17b1 : (t151 != 5) = true := bne_iff_ne.mpr c17
   simp only [Option.some.injEq, Prod.mk.injEq] at H
   obtain ⟨rfl, rfl⟩ := H
   go_enter Tryd.func18, Tryd.ntmps18
   go_wp2_with (first | ((with_reducible refine gate_dst (N := 2) rfl ?_); refine box_event ?hg (N := 2) ?hd (cs := #[.slice A0_0 l0_0.length c0_0]) (t := 26) ?hr ?_; (case hd => rfl); (case hg => rfl); (case hr => first | (go_simp; done) | (go_simp; rfl)); intro gb144 hg w34 hbox hb; have n0_ := xa_ (Kd.V_below (Kd.V_elderB (xV_ HO0_0.out) gb144 (Nat.le_of_eq hg.symm)) hb); have n1_ := xa_ (below_step (by repeat (first | (with_reducible first | exact HB.out | apply below_alloc | apply pw_below_drewN | apply below_drew1) | exact HB.out)) hb); have n2_ := xa_ (hbox); have n3_ := xa_ ((by rw [hg]; exact (below_size (by repeat (first | (with_reducible first | exact HB.out | apply below_alloc | apply pw_below_drewN | apply below_drew1) | exact HB.out))) : w.heap.size ≤ gb144)); have n4_ := xa_ ((by rw [hg]; exact (below_size (by repeat (first | (with_reducible first | exact HB.out | apply below_alloc | apply pw_below_drewN | apply below_drew1) | exact HB.out))) : w.heap.size ≤ gb144)); clear HO0_0; clear HB; have HO0_0 := n0_; have HB := n1_; have BK144 := n2_; have GW144 := n3_; have GE144 := n4_; clear n0_ n1_ n2_ n3_ n4_; clear hb hbox hg) | ((with_reducible refine gate_dst (N := 4) rfl ?_); refine box_event ?hg (N := 4) ?hd (cs := #[.slice none 0 0]) (t := 26) ?hr ?_; (case hd => rfl); (case hg => rfl); (case hr => first | (go_simp; done) | (go_simp; rfl)); intro gb145 hg w35 hbox hb; have n0_ := xa_ (Kd.V_below (Kd.V_elderB (xV_ HO0_0.out) gb145 (Nat.le_of_eq hg.symm)) hb); have n1_ := xa_ (blk_below (xb_ BK144.out) hb); have n2_ := xa_ (below_step (by repeat (first | (with_reducible first | exact HB.out | apply below_alloc | apply pw_below_drewN | apply below_drew1 | refine below_set ?_ GE144.out) | exact HB.out)) hb); have n3_ := xa_ (hbox); have n4_ := xa_ ((by rw [hg]; exact (below_size (by repeat (first | (with_reducible first | exact HB.out | apply below_alloc | apply pw_below_drewN | apply below_drew1 | refine below_set ?_ GE144.out) | exact HB.out))) : w.heap.size ≤ gb145)); have n5_ := xa_ ((by rw [hg]; exact (below_size (by repeat (first | (with_reducible first | exact HB.out | apply below_alloc | apply pw_below_drewN | apply below_drew1 | refine below_set ?_ GE144.out) | exact HB.out))) : w.heap.size ≤ gb145)); have n6_ := xa_ ((by rw [hg]; exact Nat.ne_of_lt (blk_lt (xb_ BK144.out)) : gb144 ≠ gb145)); have n7_ := xa_ ((by rw [hg]; exact Nat.ne_of_gt (blk_lt (xb_ BK144.out)) : gb145 ≠ gb144)); clear HO0_0; clear BK144; clear HB; have HO0_0 := n0_; have BK144 := n1_; have HB := n2_; have BK145 := n3_; have GW145 := n4_; have GE145 := n5_; have NB144_145 := n6_; have NB145_144 := n7_; clear n0_ n1_ n2_ n3_ n4_ n5_ n6_ n7_; clear hb hbox hg; have hnb36 := NB144_145.out; have hnc36 := NB145_144.out; have hcz37_0 : w35.cell? ⟨gb144, 0, none⟩ = some (.slice A0_0 l0_0.length c0_0) := (blk_cell BK144.out 0).trans rfl; have hfz37_0 := blk_frozen BK144.out 0) | ((with_reducible refine gate_callee (f := 16) rfl ?_); refine goesL_ (some 11) rfl rfl Tryd.func16 (by kernel_rfl) rfl #[.agg #[.slice A0_0 l0_0.length c0_0], .string a1] rfl (by (try simp only [List.map_toArray, List.map_cons, List.map_nil]); first | done | rfl | (simp only [List.length_drop, List.length_take]; rfl)) ?_; (with_reducible refine (tree_Find.calls _ _ l0_0 a1 t146 t147 t148 t151 _ ?side1 ?side2 A3.out).mono ?_); (case side1 => exact xC_ (Kd.V_reads' HO0_0.out).2.2); (case side2 => exact (Kd.V_reads' HO0_0.out).2.1); rintro e w38 ⟨v149, rfl, ho0, hb⟩; refine ⟨_, rfl, ?_⟩; replace HO0_0 := xa_ (Kd.V_elder' (xV_ HO0_0.out) (Kd.R_base ho0) hb); replace HO150 := xa_ (Kd.R_lower (Kd.R_newM (M := fun k_ => (w.heap.size ≤ k_)) ho0 (below_size (by repeat (first | (with_reducible first | exact HB.out | apply below_alloc | apply pw_below_drewN | apply below_drew1 | refine below_set ?_ GE144.out | refine below_set ?_ GE145.out) | exact HB.out))) (fun k_ h_ => h_)) (below_size (by repeat (first | (with_reducible first | exact HB.out | apply below_alloc | apply pw_below_drewN | apply below_drew1 | refine below_set ?_ GE144.out | refine below_set ?_ GE145.out) | exact HB.out)))); replace BK144 := xa_ (blk_below (xb_ BK144.out) hb); replace BK145 := xa_ (blk_below (xb_ BK145.out) hb); replace HB := xa_ (below_step (by repeat (first | (with_reducible first | exact HB.out | apply below_alloc | apply pw_below_drewN | apply below_drew1 | refine below_set ?_ GE144.out | refine below_set ?_ GE145.out) | exact HB.out)) hb); (try clear hb); (try clear hb2); (try clear hk); (try clear hi); (try clear ho0)) | ((with_reducible refine gate_dst (N := 6) rfl ?_); refine box_event ?hg (N := 6) ?hd (cs := #[.string (⟨#[]⟩ : ByteArray), .bool false, .slice none 0 0]) (t := 30) ?hr ?_; (case hd => rfl); (case hg => rfl); (case hr => first | (go_simp; done) | (go_simp; rfl)); intro gb152 hg w39 hbox hb; have n0_ := xa_ (Kd.V_below (Kd.V_elderB (xV_ HO0_0.out) gb152 (Nat.le_of_eq hg.symm)) hb); have n1_ := xa_ (Kd.R_below (xR_ HO150.out) hb); have n2_ := xa_ (blk_below (xb_ BK144.out) hb); have n3_ := xa_ (blk_below (xb_ BK145.out) hb); have n4_ := xa_ (below_step (by repeat (first | (with_reducible first | exact HB.out | apply below_alloc | apply pw_below_drewN | apply below_drew1 | refine below_set ?_ GE144.out | refine below_set ?_ GE145.out) | exact HB.out)) hb); have n5_ := xa_ (hbox); have n6_ := xa_ ((by rw [hg]; exact (below_size (by repeat (first | (with_reducible first | exact HB.out | apply below_alloc | apply pw_below_drewN | apply below_drew1 | refine below_set ?_ GE144.out | refine below_set ?_ GE145.out) | exact HB.out))) : w.heap.size ≤ gb152)); have n7_ := xa_ ((by rw [hg]; exact (below_size (by repeat (first | (with_reducible first | exact HB.out | apply below_alloc | apply pw_below_drewN | apply below_drew1 | refine below_set ?_ GE144.out | refine below_set ?_ GE145.out) | exact HB.out))) : w.heap.size ≤ gb152)); have n8_ := xa_ ((by rw [hg]; exact Nat.ne_of_lt (blk_lt (xb_ BK144.out)) : gb144 ≠ gb152)); have n9_ := xa_ ((by rw [hg]; exact Nat.ne_of_gt (blk_lt (xb_ BK144.out)) : gb152 ≠ gb144)); have n10_ := xa_ ((by rw [hg]; exact Nat.ne_of_lt (blk_lt (xb_ BK145.out)) : gb145 ≠ gb152)); have n11_ := xa_ ((by rw [hg]; exact Nat.ne_of_gt (blk_lt (xb_ BK145.out)) : gb152 ≠ gb145)); clear HO0_0; clear HO150; clear BK144; clear BK145; clear HB; have HO0_0 := n0_; have HO150 := n1_; have BK144 := n2_; have BK145 := n3_; have HB := n4_; have BK152 := n5_; have GW152 := n6_; have GE152 := n7_; have NB144_152 := n8_; have NB152_144 := n9_; have NB145_152 := n10_; have NB152_145 := n11_; clear n0_ n1_ n2_ n3_ n4_ n5_ n6_ n7_ n8_ n9_ n10_ n11_; clear hb hbox hg; have hnb40 := NB152_144.out; have hnc40 := NB144_152.out; have hnb41 := NB152_145.out; have hnc41 := NB145_152.out; have hcz42_0 : w39.cell? ⟨gb152, 0, none⟩ = some (.string (⟨#[]⟩ : ByteArray)) := (blk_cell BK152.out 0).trans rfl; have hcz42_1 : w39.cell? ⟨gb152, 1, none⟩ = some (.bool false) := (blk_cell BK152.out 1).trans rfl; have hcz42_2 : w39.cell? ⟨gb152, 2, none⟩ = some (.slice none 0 0) := (blk_cell BK152.out 2).trans rfl; have hfz42_0 := blk_frozen BK152.out 0; have hfz42_1 := blk_frozen BK152.out 1; have hfz42_2 := blk_frozen BK152.out 2; obtain ⟨Ao43, co43, eo43⟩ := Kd.R_slice HO150.out; subst eo43; have hcz44_0 : w39.cell? ⟨gb144, 0, none⟩ = some (.slice A0_0 l0_0.length c0_0) := (blk_cell BK144.out 0).trans rfl; have hfz44_0 := blk_frozen BK144.out 0; have hcz45_0 : w39.cell? ⟨gb145, 0, none⟩ = some (.slice none 0 0) := (blk_cell BK145.out 0).trans rfl; have hfz45_0 := blk_frozen BK145.out 0))
   refine bodyPost_ret (results_ct rfl _ _ gb145 26 #[.slice A0_0 l0_0.length c0_0] (0, 0) _ rfl (by (with_reducible repeat (first | refine blk_drewN ?_ _ | refine blk_drew ?_ | refine blk_alloc ?_ _)); refine blk_put (cs := #[.slice none 0 0]) ?_ 0 _ rfl; (with_reducible repeat (first | refine blk_drewN ?_ _ | refine blk_drew ?_ | refine blk_alloc ?_ _)); refine blk_far ?_ NB145_152.out _; (with_reducible repeat (first | refine blk_drewN ?_ _ | refine blk_drew ?_ | refine blk_alloc ?_ _)); refine blk_far ?_ NB145_152.out _; (with_reducible repeat (first | refine blk_drewN ?_ _ | refine blk_drew ?_ | refine blk_alloc ?_ _)); refine blk_far ?_ NB145_152.out _; (with_reducible repeat (first | refine blk_drewN ?_ _ | refine blk_drew ?_ | refine blk_alloc ?_ _)); exact BK145.out) Tryd.underlying26 rfl (by kernel_rfl)) rfl ?_
   exact ⟨_, by first | rfl | (simp [errW_none, errW_some] <;> rfl) | (simp [*, errW_none, errW_some] <;> rfl), by (with_reducible repeat (first | apply Kd.V_alloc | apply Kd.V_drewN | apply Kd.V_drew)); exact Kd.V_mono (Kd.V_far (p := ⟨gb145, 0, none⟩) (Kd.V_far (p := ⟨gb152, 2, none⟩) (Kd.V_far (p := ⟨gb152, 1, none⟩) (Kd.V_far (p := ⟨gb152, 0, none⟩) (Kd.V_mono (Kd.V_mono HO0_0.out (fun k_ hk => (⟨hk, hk.2⟩ : _ ∧ k_ ≠ gb152))) (fun k_ hk => (⟨hk, hk.1.1.1.2⟩ : _ ∧ k_ ≠ gb145))) (fun _ hk => hk.1.2) (.string t146)) (fun _ hk => hk.1.2) (.bool t147)) (fun _ hk => hk.1.2) (.slice Ao43 t148.length co43)) (fun _ hk => hk.2) (.slice A0_0 l0_0.length c0_0)) (fun _ hk => hk.1.1.1.1.1.1), by repeat (first | (with_reducible first | exact HB.out | apply below_alloc | apply pw_below_drewN | apply below_drew1 | refine below_set ?_ GE144.out | refine below_set ?_ GE145.out | refine below_set ?_ GE152.out) | exact HB.out)⟩



end Go.Proofs.YtidlldfghkaeeaaDoor.P
end
section
namespace Go.Proofs.YtidlldfghkaeeaaDoor.P
open Go.RowKit Go.Proofs.YtidlldfghkaeeaaDoorW.PrintWords Go.Proofs.YtidlldfghkaeeaaDoorW.PrintLast Go.Proofs.YtidlldfghkaeeaaDoorW.PrintMore
attribute [local go_sem] max2_int min2_int max_two min_two max_three min_three max_four min_four   -- for this text's walks alone
set_option linter.unusedVariables false
set_option linter.unusedSimpArgs false
/-! ### tree_Bytes: function 15 -/
def tree_Bytes.f (k : Nat) (l0_0 : List (S30)) : Option (Int) := (tree_Good.f l0_0).bind fun t158 => (if t158 = true then ((tree_count.f k l0_0).bind fun t159 => (some t159)) else (some 0))
set_option maxHeartbeats 8000000 in
set_option maxRecDepth 100000 in
theorem tree_Bytes.calls (k : Nat) (A0_0 : Option Addr) (c0_0 : Nat) (l0_0 : List (S30)) (r : Int) (w : World) (hr0_0 : Kd.C k30 w A0_0 l0_0.length l0_0) (hc0_0 : l0_0.length ≤ c0_0) (h : tree_Bytes.f k l0_0 = some r) :
  Calls Tryd.prog 15 #[.agg #[.slice A0_0 l0_0.length c0_0]] w fun e w' => e = .returned (.int .i64 r) ∧ Below w.heap.size w w' := by
 have hu26 := Tryd.underlying26
 have HR0_0 := Aside0.mk hr0_0
 have HC0_0 := Aside0.mk hc0_0
 clear hr0_0 hc0_0
 have HB := xa_ (Below.refl w.heap.size w)
 have H : ((tree_Good.f l0_0).bind fun t158 => (if t158 = true then ((tree_count.f k l0_0).bind fun t159 => (some t159)) else (some 0))) = some r := h
 clear h
 replace H := Option.bind_eq_some_iff.mp H
 obtain ⟨t158, A20, H⟩ := H
 replace H : (if t158 = true then ((tree_count.f k l0_0).bind fun t159 => (some t159)) else (some 0)) = some r := H
 have A2 := Aside0.mk A20
 clear A20
 by_cases c3 : t158 = true
 ·subst c3
  have H1 : ((tree_count.f k l0_0).bind fun t159 => (some t159)) = some r := by rw [if_pos rfl] at H; exact H
  clear H
  have H := H1
  clear H1
  replace H := Option.bind_eq_some_iff.mp H
  obtain ⟨t159, A40, H⟩ := H
  replace H : (some t159) = some r := H
  have A4 := Aside0.mk A40
  clear A40
  obtain rfl := Option.some.inj H
  go_enter Tryd.func15, Tryd.ntmps15
  go_wp2_with (first | ((with_reducible refine gate_dst (N := 1) rfl ?_); refine box_event ?hg (N := 1) ?hd (cs := #[.slice A0_0 l0_0.length c0_0]) (t := 26) ?hr ?_; (case hd => rfl); (case hg => rfl); (case hr => first | (go_simp; done) | (go_simp; rfl)); intro gb157 hg w5 hbox hb; have n0_ := xa_ (below_step (by repeat (first | (with_reducible first | exact HB.out | apply below_alloc | apply pw_below_drewN | apply below_drew1) | exact HB.out)) hb); have n1_ := xa_ (hbox); have n2_ := xa_ ((by rw [hg]; exact (below_size (by repeat (first | (with_reducible first | exact HB.out | apply below_alloc | apply pw_below_drewN | apply below_drew1) | exact HB.out))) : w.heap.size ≤ gb157)); have n3_ := xa_ ((by rw [hg]; exact (below_size (by repeat (first | (with_reducible first | exact HB.out | apply below_alloc | apply pw_below_drewN | apply below_drew1) | exact HB.out))) : w.heap.size ≤ gb157)); clear HB; have HB := n0_; have BK157 := n1_; have GW157 := n2_; have GE157 := n3_; clear n0_ n1_ n2_ n3_; clear hb hbox hg; have hcz6_0 : w5.cell? ⟨gb157, 0, none⟩ = some (.slice A0_0 l0_0.length c0_0) := (blk_cell BK157.out 0).trans rfl; have hfz6_0 := blk_frozen BK157.out 0) | ((with_reducible refine gate_callee (f := 14) rfl ?_); refine goesL_ (some 4) rfl rfl Tryd.func14 (by kernel_rfl) rfl #[.agg #[.slice A0_0 l0_0.length c0_0]] rfl (by (try simp only [List.map_toArray, List.map_cons, List.map_nil]); first | done | rfl | (simp only [List.length_drop, List.length_take]; rfl)) ?_; (with_reducible refine (tree_Good.calls _ _ l0_0 true _ ?side1 ?side2 A2.out).mono ?_); (case side1 => exact xC_ (Kd.C_below HR0_0.out HB.out)); (case side2 => exact HC0_0.out); rintro e w7 ⟨rfl, hb⟩; refine ⟨_, rfl, ?_⟩; replace BK157 := xa_ (blk_below (xb_ BK157.out) hb); replace HB := xa_ (below_step (by repeat (first | (with_reducible first | exact HB.out | apply below_alloc | apply pw_below_drewN | apply below_drew1 | refine below_set ?_ GE157.out) | exact HB.out)) hb); (try clear hb); (try clear hb2); (try clear hk); (try clear hi); have hcz8_0 : w7.cell? ⟨gb157, 0, none⟩ = some (.slice A0_0 l0_0.length c0_0) := (blk_cell BK157.out 0).trans rfl; have hfz8_0 := blk_frozen BK157.out 0) | ((with_reducible refine gate_callee (f := 63) rfl ?_); refine goesL_ (some 8) rfl rfl Tryd.func63 (by kernel_rfl) rfl #[.slice A0_0 l0_0.length c0_0] rfl (by (try simp only [List.map_toArray, List.map_cons, List.map_nil]); first | done | rfl | (simp only [List.length_drop, List.length_take]; rfl)) ?_; (with_reducible refine (tree_count.calls k _ _ l0_0 t159 _ ?side1 ?side2 A4.out).mono ?_); (case side1 => exact xC_ (Kd.C_below HR0_0.out HB.out)); (case side2 => exact HC0_0.out); rintro e w9 ⟨rfl, hb⟩; refine ⟨_, rfl, ?_⟩; replace BK157 := xa_ (blk_below (xb_ BK157.out) hb); replace HB := xa_ (below_step (by repeat (first | (with_reducible first | exact HB.out | apply below_alloc | apply pw_below_drewN | apply below_drew1 | refine below_set ?_ GE157.out) | exact HB.out)) hb); (try clear hb); (try clear hb2); (try clear hk); (try clear hi)))
  go_ret
  exact ⟨by first | rfl | (simp [errW_none, errW_some] <;> rfl) | (simp [*, errW_none, errW_some] <;> rfl), by repeat (first | (with_reducible first | exact HB.out | apply below_alloc | apply pw_below_drewN | apply below_drew1 | refine below_set ?_ GE157.out) | exact HB.out)⟩
 ·replace c3 := Bool.eq_false_iff.mpr c3
  subst c3
  have H1 : (some 0) = some r := by rw [if_neg (show ¬ (false = true) by decide)] at H; exact H
  clear H
  have H := H1
  clear H1
  obtain rfl := Option.some.inj H
  go_enter Tryd.func15, Tryd.ntmps15
  go_wp2_with (first | ((with_reducible refine gate_dst (N := 1) rfl ?_); refine box_event ?hg (N := 1) ?hd (cs := #[.slice A0_0 l0_0.length c0_0]) (t := 26) ?hr ?_; (case hd => rfl); (case hg => rfl); (case hr => first | (go_simp; done) | (go_simp; rfl)); intro gb157 hg w10 hbox hb; have n0_ := xa_ (below_step (by repeat (first | (with_reducible first | exact HB.out | apply below_alloc | apply pw_below_drewN | apply below_drew1) | exact HB.out)) hb); have n1_ := xa_ (hbox); have n2_ := xa_ ((by rw [hg]; exact (below_size (by repeat (first | (with_reducible first | exact HB.out | apply below_alloc | apply pw_below_drewN | apply below_drew1) | exact HB.out))) : w.heap.size ≤ gb157)); have n3_ := xa_ ((by rw [hg]; exact (below_size (by repeat (first | (with_reducible first | exact HB.out | apply below_alloc | apply pw_below_drewN | apply below_drew1) | exact HB.out))) : w.heap.size ≤ gb157)); clear HB; have HB := n0_; have BK157 := n1_; have GW157 := n2_; have GE157 := n3_; clear n0_ n1_ n2_ n3_; clear hb hbox hg; have hcz11_0 : w10.cell? ⟨gb157, 0, none⟩ = some (.slice A0_0 l0_0.length c0_0) := (blk_cell BK157.out 0).trans rfl; have hfz11_0 := blk_frozen BK157.out 0) | ((with_reducible refine gate_callee (f := 14) rfl ?_); refine goesL_ (some 4) rfl rfl Tryd.func14 (by kernel_rfl) rfl #[.agg #[.slice A0_0 l0_0.length c0_0]] rfl (by (try simp only [List.map_toArray, List.map_cons, List.map_nil]); first | done | rfl | (simp only [List.length_drop, List.length_take]; rfl)) ?_; (with_reducible refine (tree_Good.calls _ _ l0_0 false _ ?side1 ?side2 A2.out).mono ?_); (case side1 => exact xC_ (Kd.C_below HR0_0.out HB.out)); (case side2 => exact HC0_0.out); rintro e w12 ⟨rfl, hb⟩; refine ⟨_, rfl, ?_⟩; replace BK157 := xa_ (blk_below (xb_ BK157.out) hb); replace HB := xa_ (below_step (by repeat (first | (with_reducible first | exact HB.out | apply below_alloc | apply pw_below_drewN | apply below_drew1 | refine below_set ?_ GE157.out) | exact HB.out)) hb); (try clear hb); (try clear hb2); (try clear hk); (try clear hi)))
  go_ret
  exact ⟨by first | rfl | (simp [errW_none, errW_some] <;> rfl) | (simp [*, errW_none, errW_some] <;> rfl), by repeat (first | (with_reducible first | exact HB.out | apply below_alloc | apply pw_below_drewN | apply below_drew1 | refine below_set ?_ GE157.out) | exact HB.out)⟩


end Go.Proofs.YtidlldfghkaeeaaDoor.P
end
section
namespace Go.Proofs.YtidlldfghkaeeaaDoor.P
open Go.RowKit Go.Proofs.YtidlldfghkaeeaaDoorW.PrintWords Go.Proofs.YtidlldfghkaeeaaDoorW.PrintLast Go.Proofs.YtidlldfghkaeeaaDoorW.PrintMore
set_option linter.unusedVariables false
set_option linter.unusedSimpArgs false

theorem toList_ne {s : ByteArray} : s.toList = ([] : List UInt8) ↔ s = ⟨#[]⟩ := by
  rw [Lib.toList_data]
  exact ⟨fun h => ByteArray.ext (Array.toList_inj.1 h), fun h => by rw [h]⟩
/-- Whether something may stand in a path's Up: the errno. -/
def upE (l : List S30) (p : ByteArray) : Int := if upB p = ⟨#[]⟩ then 0 else if ∃ x ∈ l, x.f0 = upB p then if ∃ x ∈ l, x.f0 = upB p ∧ x.f1 = true then 0 else 7 else 5
def upOk (l : List S30) (p : ByteArray) : Prop := upL p.data.toList = [] ∨ ∃ d ∈ l, d.f0 = upB p ∧ d.f1 = true
theorem upE_zero {l : List S30} {p : ByteArray} : upE l p = 0 ↔ upOk l p := by
  unfold upE upOk
  rw [← upB_nil]
  by_cases h1 : upB p = ⟨#[]⟩
  · simp [h1]
  · rw [if_neg h1]
    by_cases h2 : ∃ x ∈ l, x.f0 = upB p ∧ x.f1 = true
    · obtain ⟨x, hx, h3, h4⟩ := h2
      rw [if_pos ⟨x, hx, h3⟩, if_pos ⟨x, hx, h3, h4⟩]
      exact ⟨fun _ => .inr ⟨x, hx, h3, h4⟩, fun _ => rfl⟩
    · rw [if_neg h2]
      constructor
      · intro h
        split at h <;> cases h
      · rintro (h | h)
        · exact absurd h h1
        · exact absurd h h2
theorem tree_up.eq {l : List S30} {p : ByteArray} (h : okT l) (hp : p.size < 4294967280) (hs : Srt S30.f0 l) (hg : Gd p.data.toList) : tree_up.f l p = some (upE l p) := by
  unfold tree_up.f upE
  rw [Up_eq (by omega), if_pos hg, Option.bind_some]
  dsimp only
  by_cases h1 : upB p = ⟨#[]⟩
  · rw [if_pos (toList_ne.2 h1), if_pos h1]
  · rw [if_neg (fun e => h1 (toList_ne.1 e)), if_neg h1, tree_find.eq h (by have := upB_size hg; omega) hs, Option.bind_some]
    dsimp only
    by_cases h2 : ∃ x ∈ l, x.f0 = upB p
    · obtain ⟨hlt, hat⟩ := (lowB_at hs).2 h2
      rw [if_pos (decide_eq_true h2), if_pos h2, if_pos (Int.natCast_nonneg _), if_pos (by omega), rdT hlt]
      by_cases h3 : ∃ x ∈ l, x.f0 = upB p ∧ x.f1 = true
      · obtain ⟨x, hx, h4, h5⟩ := h3
        have e : x = l[lowB S30.f0 (upB p) l] := srt_key hs hx (List.getElem_mem hlt) (h4.trans hat.symm)
        rw [if_pos (by rw [← e]; exact h5), if_pos ⟨x, hx, h4, h5⟩]
      · rw [if_neg (fun h => h3 ⟨_, List.getElem_mem hlt, hat, h⟩), if_neg h3]
    · rw [if_neg (by simpa using h2), if_neg h2]
def with1 (l : List S30) (p : ByteArray) (d : Bool) (b : List Int) : List S30 × Int := if upE l p = 0 then with0 l p d b else (l, upE l p)
theorem tree_with.eq {l : List S30} {p : ByteArray} {d : Bool} {b : List Int} (h : okT l) (hp : p.size < 4294967280) (hg : GT30 l) (hd : Gd p.data.toList) (hb : b.length ≤ 1000000000000) : tree_with.f l p d b = some (with1 l p d b) := by
  unfold tree_with.f with1
  rw [if_pos ⟨h.1, hp, hg.2.2.1, hb, h.2, by have := hg.1; omega⟩, tree_up.eq h hp hg.2.2.1 hd, Option.bind_some]
  split
  · rfl
  · rfl
def put0 (l : List S30) (p : ByteArray) (b : List Int) : List S30 × Int := if GT30 l then if Gd p.data.toList then with1 l p false b else (l, 4) else (l, 1)
theorem tree_Put.eq {l : List S30} {p : ByteArray} {b : List Int} (h : okT l) (hp : p.size < 4294967280) (hb : b.length ≤ 1000000000000) : tree_Put.f l p b = some (put0 l p b) := by
  unfold tree_Put.f put0
  rw [tree_Good.eq h, Option.bind_some]
  by_cases hg : GT30 l
  · rw [if_pos (decide_eq_true hg), if_pos hg, Good_eq (by omega), Option.bind_some]
    by_cases hd : Gd p.data.toList
    · rw [if_pos (decide_eq_true hd), if_pos hd, tree_with.eq h hp hg hd hb]
      rfl
    · rw [if_neg (by simpa using hd), if_neg hd]
  · rw [if_neg (by simpa using hg), if_neg hg]
def make0 (l : List S30) (p : ByteArray) : List S30 × Int := if findE l p = 0 then (l, 6) else if findE l p = 5 then with1 l p true [] else (l, findE l p)
theorem findE_five {l : List S30} {p : ByteArray} : findE l p = 5 ↔ GT30 l ∧ Gd p.data.toList ∧ ∀ x ∈ l, x.f0 ≠ p := by
  unfold findE
  constructor
  · intro h
    split at h
    · rename_i h1
      split at h
      · rename_i h2
        split at h
        · cases h
        · rename_i h3
          exact ⟨h1, h2, fun x hx e => h3 ⟨x, hx, e⟩⟩
      · cases h
    · cases h
  · rintro ⟨h1, h2, h3⟩
    rw [if_pos h1, if_pos h2, if_neg (fun ⟨x, hx, e⟩ => h3 x hx e)]
theorem tree_Make.eq {l : List S30} {p : ByteArray} (h : okT l) (hp : p.size < 4294967280) : tree_Make.f l p = some (make0 l p) := by
  unfold tree_Make.f make0
  obtain ⟨r1, r2, r3, he⟩ := tree_Find.eq h hp
  rw [he, Option.bind_some]
  dsimp only
  by_cases h0 : findE l p = 0
  · rw [if_pos h0, if_pos h0]
  · rw [if_neg h0, if_neg h0]
    by_cases h5 : findE l p = 5
    · obtain ⟨hg, hd, _⟩ := findE_five.1 h5
      rw [if_pos h5, if_pos h5, tree_with.eq h hp hg hd (by decide)]
      rfl
    · rw [if_neg h5, if_neg h5]
/-- A tree is small. -/
theorem GT_okT {l : List S30} (h : GT30 l) : okT l := by
  have h1 := h.1
  have h2 : nB30 l ≤ 16384 := h.2.1
  refine ⟨okP_iff.2 ⟨fun x hx => ?_, by omega⟩, by omega⟩
  have := gd_len (h.2.2.2 x hx).1
  rw [D_size]
  omega
/-- An entry more is a tree. -/
theorem GT_ins {l : List S30} {p : ByteArray} {d : Bool} {b : List Int} (h : GT30 l) (hg : Gd p.data.toList) (hu : upOk l p) (hdb : d = true → b = []) (hn : ¬ ∃ x ∈ l, x.f0 = p ∧ x.f1 = true) (h1 : (insT l p d b).length ≤ 40) (h2 : b.length ≤ 2048) (h3 : nB30 (insT l p d b) ≤ 16384) : GT30 (insT l p d b) := by
  have hs := h.2.2.1
  have hmem : ∀ y, y ∈ insT l p d b ↔ y = ⟨p, d, b⟩ ∨ (y ∈ l ∧ y.f0 ≠ p) := fun y => insE_mem hs
  have hup : ∀ q : ByteArray, (∃ x ∈ l, x.f0 = q ∧ x.f1 = true) → ∃ x ∈ insT l p d b, x.f0 = q ∧ x.f1 = true := by
    rintro q ⟨x, hx, e1, e2⟩
    refine ⟨x, (hmem x).2 (.inr ⟨hx, fun e => hn ⟨x, hx, e, e2⟩⟩), e1, e2⟩
  refine ⟨h1, h3, insE_srt hs, fun y hy => ?_⟩
  rcases (hmem y).1 hy with rfl | ⟨hy, hyp⟩
  · exact ⟨hg, hdb, h2, hu.imp id (fun h => hup _ h)⟩
  · obtain ⟨a1, a2, a3, a4⟩ := h.2.2.2 y hy
    exact ⟨a1, a2, a3, a4.imp id (fun h => hup _ h)⟩
end Go.Proofs.YtidlldfghkaeeaaDoor.P
end
section
namespace Go.Proofs.YtidlldfghkaeeaaDoor.P
open Go.RowKit Go.Proofs.YtidlldfghkaeeaaDoorW.PrintWords Go.Proofs.YtidlldfghkaeeaaDoorW.PrintLast Go.Proofs.YtidlldfghkaeeaaDoorW.PrintMore
set_option linter.unusedVariables false
set_option linter.unusedSimpArgs false

/-- The bytes at a path. -/
def bytesAt (l : List S30) (p : ByteArray) : List Int := match l.find? (fun x => decide (x.f0 = p)) with
  | some x => x.f2
  | none => []
theorem bytesAt_eq {l : List S30} (hs : Srt S30.f0 l) {x : S30} (hx : x ∈ l) : bytesAt l x.f0 = x.f2 := by
  unfold bytesAt
  cases h : l.find? (fun y => decide (y.f0 = x.f0)) with
  | none =>
    have := List.find?_eq_none.1 h x hx
    simp at this
  | some y =>
    have h1 : y.f0 = x.f0 := by simpa using List.find?_some h
    have h2 := List.mem_of_find?_eq_some h
    rw [srt_key hs h2 hx h1]
def move0 (l : List S30) (p q : ByteArray) : List S30 × Int :=
  if GT30 l then if Gd p.data.toList ∧ Gd q.data.toList then
    if ∃ x ∈ l, x.f0 = p then if ∃ x ∈ l, x.f0 = p ∧ x.f1 = true then (l, 7) else if p = q then (l, 0) else
      if (with1 (delE S30.f0 p l) q false (bytesAt l p)).2 = 0 then ((with1 (delE S30.f0 p l) q false (bytesAt l p)).1, 0) else (l, (with1 (delE S30.f0 p l) q false (bytesAt l p)).2)
    else (l, 5) else (l, 4) else (l, 1)
/-- A file less is a tree. -/
theorem GT_del {l : List S30} {p : ByteArray} (h : GT30 l) (hf : ¬ ∃ x ∈ l, x.f0 = p ∧ x.f1 = true) : GT30 (delE S30.f0 p l) := by
  refine ⟨Nat.le_trans (List.length_filter_le _ _) h.1, Nat.le_trans (nB_filter _ _) h.2.1, delE_srt h.2.2.1, fun x hx => ?_⟩
  obtain ⟨hx, hk⟩ := delE_mem.1 hx
  obtain ⟨a1, a2, a3, a4⟩ := h.2.2.2 x hx
  refine ⟨a1, a2, a3, a4.imp id ?_⟩
  rintro ⟨d, hd, e1, e2⟩
  exact ⟨d, delE_mem.2 ⟨hd, fun e => hf ⟨d, hd, e, e2⟩⟩, e1, e2⟩
theorem ins_len {e : S30} : ∀ {l : List S30}, (∀ y ∈ l, y.f0 ≠ e.f0) → (insE S30.f0 e l).length = l.length + 1 ∧ nB S30.f2 (insE S30.f0 e l) = nB S30.f2 l + e.f2.length
  | [], _ => by simp [insE, nB]
  | x :: l, h => by
    have ih := ins_len (l := l) fun y hy => h y (List.mem_cons_of_mem _ hy)
    unfold insE
    split
    · rw [List.length_cons, List.length_cons, nB_cons, nB_cons, ih.1, ih.2]
      exact ⟨rfl, by omega⟩
    · rw [if_neg (h x List.mem_cons_self), List.length_cons, List.length_cons, nB_cons, nB_cons]
      exact ⟨rfl, by omega⟩
end Go.Proofs.YtidlldfghkaeeaaDoor.P
end
