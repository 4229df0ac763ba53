/- Put together by pack2.py: PfTreeKids, TreeRem -/
import Derived.Test.YtidlldfghkaeeaaDoorZtOwn53Etc
import Derived.Test.YtidlldfghkaeeaaDoorZtTreeOkPEtc
import Derived.Test.YtidlldfghkaeeaaDoorZtTreeOk
import Derived.Test.YtidlldfghkaeeaaDoorZtPfBytesEqualEtc
import Derived.Test.YtidlldfghkaeeaaDoorZtPfTreeFind
import Derived.Test.YtidlldfghkaeeaaDoorZtW0
section
namespace Go.Proofs.YtidlldfghkaeeaaDoor.P
open Go.RowKit Go.Proofs.YtidlldfghkaeeaaDoorW.PrintWords Go.Proofs.YtidlldfghkaeeaaDoorW.PrintLast Go.Proofs.YtidlldfghkaeeaaDoorW.PrintMore
attribute [local go_sem] max2_int min2_int max_two min_two max_three min_three max_four min_four   -- for this text's walks alone
set_option linter.unusedVariables false
set_option linter.unusedSimpArgs false
/-! ### tree_Kids: function 29 -/
def tree_Kids.l0 : Nat → ByteArray → List ByteArray → List (S30) → Int → Int → Option (List ByteArray)
 | 0, _, _, _, _, _ => none
 | k + 1, x1, x5, x14, x15, x16 => if x16 < x15 then (if 0 ≤ x16 then (if x16 < (x14.length : Int) then ((path_Up.f ((rd_T30 x14 x16).f0)).bind fun bt164 => (if bt164.1.toList = x1.toList then (if x5.length < 8796093022208 then (tree_Kids.l0 k x1 (x5 ++ [(rd_T30 x14 x16).f0]) x14 x15 (wrap64 (x16 + 1))) else (none)) else (tree_Kids.l0 k x1 x5 x14 x15 (wrap64 (x16 + 1))))) else (none)) else (none)) else (some x5)
def tree_Kids.f (k : Nat) (l0_0 : List (S30)) (a1 : ByteArray) : Option (List ByteArray) := (tree_Good.f l0_0).bind fun t161 => (if t161 = true then (tree_Kids.l0 k a1 ([] : List ByteArray) l0_0 (l0_0.length : Int) 0) else (some ([] : List ByteArray)))
set_option maxHeartbeats 8000000 in
set_option maxRecDepth 100000 in
theorem tree_Kids.calls (k : Nat) (A0_0 : Option Addr) (c0_0 : Nat) (l0_0 : List (S30)) (a1 : ByteArray) (r : List ByteArray) (w : World) (hr0_0 : Kd.C k30 w A0_0 l0_0.length l0_0) (hc0_0 : l0_0.length ≤ c0_0) (h : tree_Kids.f k l0_0 a1 = some r) :
  Calls Tryd.prog 29 #[.agg #[.slice A0_0 l0_0.length c0_0], .string a1] w fun e w' => ∃ v0_ : Value, e = .returned (v0_) ∧ Kd.R Kd.string 9 w' w.heap.size (fun _ => True) v0_ r ∧ Below w.heap.size w w' := by
 have hu26 := Tryd.underlying26
 have hu30 := Tryd.underlying30
 have HR0_0 := Aside0.mk hr0_0
 have HC0_0 := Aside0.mk hc0_0
 clear hr0_0 hc0_0
 have HB := xa_ (Below.refl w.heap.size w)
 have H : ((tree_Good.f l0_0).bind fun t161 => (if t161 = true then (tree_Kids.l0 k a1 ([] : List ByteArray) l0_0 (l0_0.length : Int) 0) else (some ([] : List ByteArray)))) = some r := h
 clear h
 replace H := Option.bind_eq_some_iff.mp H
 obtain ⟨t161, A30, H⟩ := H
 replace H : (if t161 = true then (tree_Kids.l0 k a1 ([] : List ByteArray) l0_0 (l0_0.length : Int) 0) else (some ([] : List ByteArray))) = some r := H
 have A3 := Aside0.mk A30
 clear A30
 by_cases c4 : t161 = true
 ·subst c4
  have H1 : (tree_Kids.l0 k a1 ([] : List ByteArray) l0_0 (l0_0.length : Int) 0) = some r := by rw [if_pos rfl] at H; exact H
  clear H
  have H := H1
  clear H1
  have H' := Aside0.mk H
  clear H
  go_enter Tryd.func29, Tryd.ntmps29
  go_wp2_with (first | ((with_reducible refine gate_dst (N := 2) rfl ?_); refine box_event ?hg (N := 2) ?hd (cs := #[.slice A0_0 l0_0.length c0_0]) (t := 26) ?hr ?_; (case hd => rfl); (case hg => rfl); (case hr => first | (go_simp; done) | (go_simp; rfl)); intro gb160 hg w5 hbox hb; have n0_ := xa_ (below_step (by repeat (first | (with_reducible first | exact HB.out | apply below_alloc | apply pw_below_drewN | apply below_drew1) | exact HB.out)) hb); have n1_ := xa_ (hbox); have n2_ := xa_ ((by rw [hg]; exact (below_size (by repeat (first | (with_reducible first | exact HB.out | apply below_alloc | apply pw_below_drewN | apply below_drew1) | exact HB.out))) : w.heap.size ≤ gb160)); have n3_ := xa_ ((by rw [hg]; exact (below_size (by repeat (first | (with_reducible first | exact HB.out | apply below_alloc | apply pw_below_drewN | apply below_drew1) | exact HB.out))) : w.heap.size ≤ gb160)); clear HB; have HB := n0_; have BK160 := n1_; have GW160 := n2_; have GE160 := n3_; clear n0_ n1_ n2_ n3_; clear hb hbox hg; have hcz6_0 : w5.cell? ⟨gb160, 0, none⟩ = some (.slice A0_0 l0_0.length c0_0) := (blk_cell BK160.out 0).trans rfl; have hfz6_0 := blk_frozen BK160.out 0) | ((with_reducible refine gate_callee (f := 14) rfl ?_); refine goesL_ (some 11) rfl rfl Tryd.func14 (by kernel_rfl) rfl #[.agg #[.slice A0_0 l0_0.length c0_0]] rfl (by (try simp only [List.map_toArray, List.map_cons, List.map_nil]); first | done | rfl | (simp only [List.length_drop, List.length_take]; rfl)) ?_; (with_reducible refine (tree_Good.calls _ _ l0_0 true _ ?side1 ?side2 A3.out).mono ?_); (case side1 => exact xC_ (Kd.C_below HR0_0.out HB.out)); (case side2 => exact HC0_0.out); rintro e w7 ⟨rfl, hb⟩; refine ⟨_, rfl, ?_⟩; replace BK160 := xa_ (blk_below (xb_ BK160.out) hb); replace HB := xa_ (below_step (by repeat (first | (with_reducible first | exact HB.out | apply below_alloc | apply pw_below_drewN | apply below_drew1 | refine below_set ?_ GE160.out) | exact HB.out)) hb); (try clear hb); (try clear hb2); (try clear hk); (try clear hi); have hcz8_0 : w7.cell? ⟨gb160, 0, none⟩ = some (.slice A0_0 l0_0.length c0_0) := (blk_cell BK160.out 0).trans rfl; have hfz8_0 := blk_frozen BK160.out 0))
  go_loopg [5, 16] k (fun kq v5 v16 w' => ∃ (x5_1 : List ByteArray) (x16_1 : Int), v16 = .int .i64 x16_1 ∧ Aside0 (tree_Kids.l0 kq a1 x5_1 l0_0 (l0_0.length : Int) x16_1 = some r) ∧ Aside0 (kq ≤ k) ∧ Aside0 (Kd.R Kd.string 9 w' w.heap.size (fun _ => True) v5 x5_1) ∧ Aside0 (w'.heap[gb160]? = some (.cells #[(.slice A0_0 l0_0.length c0_0)] 26 (0, 0))) ∧ Aside0 (Below w.heap.size w w'))
  case atStart => exact ⟨(([] : List ByteArray)), (0), (by first | rfl | (simp; done) | (simp [*]; done)), H', ⟨Nat.le_refl _⟩, ⟨by first | exact Kd.R_nil _ _ _ _ _ | exact Kd.N_nil _ _ _ _ _ | exact Kd.V_nil _ _ _ _ _ | exact Kd.Q_nil _ _ _ _ _ | exact Kd.S_nil _ _ _ _ _⟩, ⟨by (with_reducible repeat (first | refine blk_drewN ?_ _ | refine blk_drew ?_ | refine blk_alloc ?_ _)); exact BK160.out⟩, ⟨by repeat (first | (with_reducible first | exact HB.out | apply below_alloc | apply pw_below_drewN | apply below_drew1 | refine below_set ?_ GE160.out) | exact HB.out)⟩⟩
  case round =>
   clear H'
   try clear c1
   try clear c2
   try clear p2
   try clear c4
   try clear hcz6_0
   try clear hcz8_0
   try clear hfz6_0
   try clear hfz8_0
   obtain ⟨x5_1, x16_1, rfl, HA, HK1, HO_5, BK160, HB⟩ := hrel
   cases gk with
   | zero => exact absurd HA.out (by simp [tree_Kids.l0])
   | succ k1 =>
    have H := HA.out
    clear HA
    simp only [tree_Kids.l0] at H
    by_cases c9 : x16_1 < (l0_0.length : Int)
    ·rw [if_pos c9] at H
     have c9b0 : decide (x16_1 < (l0_0.length : Int)) = true := decide_eq_true c9
     clear c9
     by_cases c10 : 0 ≤ x16_1
     ·rw [if_pos c10] at H
      have c10b0 : decide (0 ≤ x16_1) = true := decide_eq_true c10
      clear c10
      by_cases c11 : x16_1 < (l0_0.length : Int)
      ·rw [if_pos c11] at H
       have c11b0 : decide (x16_1 < (l0_0.length : Int)) = true := decide_eq_true c11
       clear c11
       replace H := Option.bind_eq_some_iff.mp H
       obtain ⟨⟨t164, t165⟩, A120, H⟩ := H
       replace H : (if t164.toList = a1.toList then (if x5_1.length < 8796093022208 then (tree_Kids.l0 k1 a1 (x5_1 ++ [(rd_T30 l0_0 x16_1).f0]) l0_0 (l0_0.length : Int) (wrap64 (x16_1 + 1))) else (none)) else (tree_Kids.l0 k1 a1 x5_1 l0_0 (l0_0.length : Int) (wrap64 (x16_1 + 1)))) = some r := H
       have A12 := Aside0.mk A120
       clear A120
       by_cases c13 : t164.toList = a1.toList
       ·rw [if_pos c13] at H
        have c13b0 : (t164.toList == a1.toList) = true := beq_iff_eq.mpr c13
        have c13b1 : (t164.toList != a1.toList) = false := bne_eq_false_iff_eq.mpr c13
        clear c13
        by_cases c14 : x5_1.length < 8796093022208
        ·rw [if_pos c14] at H
         have LMc14 := Aside0.mk c14
         clear c14
         obtain ⟨y166, hy166⟩ : ∃ y_ : List ByteArray, y_ = (x5_1 ++ [(rd_T30 l0_0 x16_1).f0]) := ⟨_, rfl⟩
         replace H : (tree_Kids.l0 k1 a1 y166 l0_0 (l0_0.length : Int) (wrap64 (x16_1 + 1))) = some r := by first | (rw [hy166]; with_reducible exact H) | (have H2_ := (Option.bind_some _ _).symm.trans H; rw [hy166]; with_reducible exact H2_) | (have H2_ := (Option.bind_some _ _).symm.trans H; with_reducible exact H2_) | with_reducible exact H | (rw [hy166]; exact H) | exact H
         have Ny166 := Aside0.mk hy166
         clear hy166
         have H' := Aside0.mk H
         clear H
         have p162 : 0 ≤ (x16_1 : Int) := of_decide_eq_true (by first | (with_reducible assumption) | assumption)
         have q162 : x16_1 < (l0_0.length : Int) := of_decide_eq_true (by first | (with_reducible assumption) | assumption)
         obtain ⟨ad162, A162_2, c162_2, e162, hx162_0, hx162_1, hx162_2, hl162_2, hi162_2⟩ := at_T30 HR0_0.out x16_1 p162 q162
         cases e162
         replace hx162_0 := (HB.out.cell (World.block_lt_of_cell? w _ hx162_0)).trans hx162_0
         replace hx162_1 := (HB.out.cell (World.block_lt_of_cell? w _ hx162_1)).trans hx162_1
         replace hx162_2 := (HB.out.cell (World.block_lt_of_cell? w _ hx162_2)).trans hx162_2
         have HR162_2 := Aside0.mk hi162_2
         have HC162_2 := Aside0.mk hl162_2
         clear hi162_2 hl162_2
         replace p162 := eq_true p162
         replace q162 := eq_true q162
         go_wp2_with (first | ((with_reducible refine gate_dst (N := 7) rfl ?_); refine box_event ?hg (N := 7) ?hd (cs := #[.string (⟨#[]⟩ : ByteArray), .bool false, .slice none 0 0]) (t := 30) ?hr ?_; (case hd => rfl); (case hg => rfl); (case hr => first | (go_simp; done) | (go_simp; rfl)); intro gb163 hg w15 hbox hb; have n0_ := xa_ (Kd.R_below (xR_ HO_5.out) hb); have n1_ := xa_ (blk_below (xb_ BK160.out) hb); have n2_ := xa_ (below_step (by repeat (first | (with_reducible first | exact HB.out | apply below_alloc | apply pw_below_drewN | apply below_drew1 | refine below_set ?_ GE160.out) | exact HB.out)) hb); have n3_ := xa_ (hbox); have n4_ := xa_ ((by rw [hg]; exact (below_size (by repeat (first | (with_reducible first | exact HB.out | apply below_alloc | apply pw_below_drewN | apply below_drew1 | refine below_set ?_ GE160.out) | exact HB.out))) : w.heap.size ≤ gb163)); have n5_ := xa_ ((by rw [hg]; exact (below_size (by repeat (first | (with_reducible first | exact HB.out | apply below_alloc | apply pw_below_drewN | apply below_drew1 | refine below_set ?_ GE160.out) | exact HB.out))) : w.heap.size ≤ gb163)); have n6_ := xa_ ((by rw [hg]; exact Nat.ne_of_lt (blk_lt (xb_ BK160.out)) : gb160 ≠ gb163)); have n7_ := xa_ ((by rw [hg]; exact Nat.ne_of_gt (blk_lt (xb_ BK160.out)) : gb163 ≠ gb160)); clear HO_5; clear BK160; clear HB; have HO_5 := n0_; have BK160 := n1_; have HB := n2_; have BK163 := n3_; have GW163 := n4_; have GE163 := n5_; have NB160_163 := n6_; have NB163_160 := n7_; clear n0_ n1_ n2_ n3_ n4_ n5_ n6_ n7_; clear hb hbox hg; have hnb16 := NB163_160.out; have hnc16 := NB160_163.out; have hcz17_0 : w15.cell? ⟨gb163, 0, none⟩ = some (.string (⟨#[]⟩ : ByteArray)) := (blk_cell BK163.out 0).trans rfl; have hcz17_1 : w15.cell? ⟨gb163, 1, none⟩ = some (.bool false) := (blk_cell BK163.out 1).trans rfl; have hcz17_2 : w15.cell? ⟨gb163, 2, none⟩ = some (.slice none 0 0) := (blk_cell BK163.out 2).trans rfl; have hfz17_0 := blk_frozen BK163.out 0; have hfz17_1 := blk_frozen BK163.out 1; have hfz17_2 := blk_frozen BK163.out 2) | ((with_reducible refine gate_callee (f := 37) rfl ?_); refine goesL_ (some 23) rfl rfl Tryd.func37 (by kernel_rfl) rfl #[.string ((rd_T30 l0_0 x16_1).f0)] rfl (by (try simp only [List.map_toArray, List.map_cons, List.map_nil]); first | done | rfl | (simp only [List.length_drop, List.length_take]; rfl)) ?_; (with_reducible refine (path_Up.calls ((rd_T30 l0_0 x16_1).f0) t164 t165 _ A12.out).mono ?_); rintro e w18 ⟨rfl, hb⟩; refine ⟨_, rfl, ?_⟩; replace HO_5 := xa_ (Kd.R_below (by (with_reducible repeat (first | apply Kd.R_alloc | apply Kd.R_drewN | apply Kd.R_drew)); exact (Kd.R_mono (Kd.R_far (p := ⟨gb163, 2, none⟩) (Kd.R_far (p := ⟨gb163, 1, none⟩) (Kd.R_far (p := ⟨gb163, 0, none⟩) (Kd.R_types HO_5.out BK163.out (by decide)) (fun _ hk => hk.2) (.string ((rd_T30 l0_0 x16_1).f0))) (fun _ hk => hk.2) (.bool ((rd_T30 l0_0 x16_1).f1))) (fun _ hk => hk.2) (.slice A162_2 ((rd_T30 l0_0 x16_1).f2).length c162_2)) (fun _ h_ => h_.1))) hb); replace BK160 := xa_ (blk_below (g := gb160) (o := .cells #[.slice (some ad162) l0_0.length c0_0] 26 (0, 0)) (by (with_reducible repeat (first | refine blk_drewN ?_ _ | refine blk_drew ?_ | refine blk_alloc ?_ _)); refine blk_far ?_ NB160_163.out _; (with_reducible repeat (first | refine blk_drewN ?_ _ | refine blk_drew ?_ | refine blk_alloc ?_ _)); refine blk_far ?_ NB160_163.out _; (with_reducible repeat (first | refine blk_drewN ?_ _ | refine blk_drew ?_ | refine blk_alloc ?_ _)); refine blk_far ?_ NB160_163.out _; (with_reducible repeat (first | refine blk_drewN ?_ _ | refine blk_drew ?_ | refine blk_alloc ?_ _)); exact BK160.out) hb); replace BK163 := xa_ (blk_below (g := gb163) (o := .cells #[.string ((rd_T30 l0_0 x16_1).f0), .bool ((rd_T30 l0_0 x16_1).f1), .slice A162_2 ((rd_T30 l0_0 x16_1).f2).length c162_2] 30 (0, 0)) (by (with_reducible repeat (first | refine blk_drewN ?_ _ | refine blk_drew ?_ | refine blk_alloc ?_ _)); refine blk_put (cs := #[.string ((rd_T30 l0_0 x16_1).f0), .bool ((rd_T30 l0_0 x16_1).f1), .slice none 0 0]) ?_ 2 _ rfl; (with_reducible repeat (first | refine blk_drewN ?_ _ | refine blk_drew ?_ | refine blk_alloc ?_ _)); refine blk_put (cs := #[.string ((rd_T30 l0_0 x16_1).f0), .bool false, .slice none 0 0]) ?_ 1 _ rfl; (with_reducible repeat (first | refine blk_drewN ?_ _ | refine blk_drew ?_ | refine blk_alloc ?_ _)); refine blk_put (cs := #[.string (⟨#[]⟩ : ByteArray), .bool false, .slice none 0 0]) ?_ 0 _ rfl; (with_reducible repeat (first | refine blk_drewN ?_ _ | refine blk_drew ?_ | refine blk_alloc ?_ _)); exact BK163.out) hb); replace HB := xa_ (below_step (by repeat (first | (with_reducible first | exact HB.out | apply below_alloc | apply pw_below_drewN | apply below_drew1 | refine below_set ?_ GE160.out | refine below_set ?_ GE163.out) | exact HB.out)) hb); (try clear hb); (try clear hb2); (try clear hk); (try clear hi); have hcz19_0 : w18.cell? ⟨gb163, 0, none⟩ = some (.string ((rd_T30 l0_0 x16_1).f0)) := (blk_cell BK163.out 0).trans rfl; have hcz19_1 : w18.cell? ⟨gb163, 1, none⟩ = some (.bool ((rd_T30 l0_0 x16_1).f1)) := (blk_cell BK163.out 1).trans rfl; have hcz19_2 : w18.cell? ⟨gb163, 2, none⟩ = some (.slice A162_2 ((rd_T30 l0_0 x16_1).f2).length c162_2) := (blk_cell BK163.out 2).trans rfl; have hfz19_0 := blk_frozen BK163.out 0; have hfz19_1 := blk_frozen BK163.out 1; have hfz19_2 := blk_frozen BK163.out 2) | ((with_reducible refine gate_builtin (b := .append) (xs := #[.tmp 29, .tmp 32]) rfl ?_); at_builtin; refine Kd.R_append Kd.string (w0 := w) w.heap.size rfl (.tmp 29) (.tmp 32) 52 9 (.string ⟨#[]⟩) 16 rfl Tryd.underlying52 info9 rfl (by decide) (by omega) u5 x5_1 ((rd_T30 l0_0 x16_1).f0) [.string ((rd_T30 l0_0 x16_1).f0)] (fun _ => True) (fun _ => False) rfl rfl ?aP (fun _ hk => hk.elim) ?aF ?aO ?aB ?aS ?aL ?_; (case aP => exact rfl); (case aB => exact (by repeat (first | (with_reducible first | exact HB.out | apply below_alloc | apply pw_below_drewN | apply below_drew1 | refine below_set ?_ GE160.out | refine below_set ?_ GE163.out) | exact HB.out))); (case aF => exact (fun _ _ => trivial)); (case aO => exact (xR_ HO_5.out)); (case aS => exact (below_size (by repeat (first | (with_reducible first | exact HB.out | apply below_alloc | apply pw_below_drewN | apply below_drew1 | refine below_set ?_ GE160.out | refine below_set ?_ GE163.out) | exact HB.out)))); (case aL => have := LMc14.out; omega); intro v167 w20 ho hb hg hat; rw [← Ny166.out] at ho; replace BK160 := xa_ (blk_grown (xb_ BK160.out) hg (Kd.R_ne HO_5.out BK160.out (by decide))); replace BK163 := xa_ (blk_grown (xb_ BK163.out) hg (Kd.R_ne HO_5.out BK163.out (by decide))); replace HB := xa_ (hb); replace HO168 := xa_ (ho); clear ho hb hg hat))
         go_roundg k1
         case measure => have := HK1.out; omega
         case rel => exact ⟨(y166), (wrap64 (x16_1 + 1)), (by first | rfl | (simp; done) | (simp [*]; done)), H', ⟨by have := HK1.out; omega⟩, ⟨by (with_reducible repeat (first | apply Kd.R_alloc | apply Kd.R_drewN | apply Kd.R_drew)); exact HO168.out⟩, ⟨by (with_reducible repeat (first | refine blk_drewN ?_ _ | refine blk_drew ?_ | refine blk_alloc ?_ _)); exact BK160.out⟩, ⟨by repeat (first | (with_reducible first | exact HB.out | apply below_alloc | apply pw_below_drewN | apply below_drew1 | refine below_set ?_ GE160.out | refine below_set ?_ GE163.out) | exact HB.out)⟩⟩
        ·rw [if_neg c14] at H
         exact absurd H (by simp)
       ·rw [if_neg c13] at H
        have c13b0 : (t164.toList == a1.toList) = false := beq_eq_false_iff_ne.mpr c13
        have c13b1 : (t164.toList != a1.toList) = true := bne_iff_ne.mpr c13
        have H' := Aside0.mk H
        clear H
        have p162 : 0 ≤ (x16_1 : Int) := of_decide_eq_true (by first | (with_reducible assumption) | assumption)
        have q162 : x16_1 < (l0_0.length : Int) := of_decide_eq_true (by first | (with_reducible assumption) | assumption)
        obtain ⟨ad162, A162_2, c162_2, e162, hx162_0, hx162_1, hx162_2, hl162_2, hi162_2⟩ := at_T30 HR0_0.out x16_1 p162 q162
        cases e162
        replace hx162_0 := (HB.out.cell (World.block_lt_of_cell? w _ hx162_0)).trans hx162_0
        replace hx162_1 := (HB.out.cell (World.block_lt_of_cell? w _ hx162_1)).trans hx162_1
        replace hx162_2 := (HB.out.cell (World.block_lt_of_cell? w _ hx162_2)).trans hx162_2
        have HR162_2 := Aside0.mk hi162_2
        have HC162_2 := Aside0.mk hl162_2
        clear hi162_2 hl162_2
        replace p162 := eq_true p162
        replace q162 := eq_true q162
        go_wp2_with (first | ((with_reducible refine gate_dst (N := 7) rfl ?_); refine box_event ?hg (N := 7) ?hd (cs := #[.string (⟨#[]⟩ : ByteArray), .bool false, .slice none 0 0]) (t := 30) ?hr ?_; (case hd => rfl); (case hg => rfl); (case hr => first | (go_simp; done) | (go_simp; rfl)); intro gb163 hg w21 hbox hb; have n0_ := xa_ (Kd.R_below (xR_ HO_5.out) hb); have n1_ := xa_ (blk_below (xb_ BK160.out) hb); have n2_ := xa_ (below_step (by repeat (first | (with_reducible first | exact HB.out | apply below_alloc | apply pw_below_drewN | apply below_drew1 | refine below_set ?_ GE160.out) | exact HB.out)) hb); have n3_ := xa_ (hbox); have n4_ := xa_ ((by rw [hg]; exact (below_size (by repeat (first | (with_reducible first | exact HB.out | apply below_alloc | apply pw_below_drewN | apply below_drew1 | refine below_set ?_ GE160.out) | exact HB.out))) : w.heap.size ≤ gb163)); have n5_ := xa_ ((by rw [hg]; exact (below_size (by repeat (first | (with_reducible first | exact HB.out | apply below_alloc | apply pw_below_drewN | apply below_drew1 | refine below_set ?_ GE160.out) | exact HB.out))) : w.heap.size ≤ gb163)); have n6_ := xa_ ((by rw [hg]; exact Nat.ne_of_lt (blk_lt (xb_ BK160.out)) : gb160 ≠ gb163)); have n7_ := xa_ ((by rw [hg]; exact Nat.ne_of_gt (blk_lt (xb_ BK160.out)) : gb163 ≠ gb160)); clear HO_5; clear BK160; clear HB; have HO_5 := n0_; have BK160 := n1_; have HB := n2_; have BK163 := n3_; have GW163 := n4_; have GE163 := n5_; have NB160_163 := n6_; have NB163_160 := n7_; clear n0_ n1_ n2_ n3_ n4_ n5_ n6_ n7_; clear hb hbox hg; have hnb22 := NB163_160.out; have hnc22 := NB160_163.out; have hcz23_0 : w21.cell? ⟨gb163, 0, none⟩ = some (.string (⟨#[]⟩ : ByteArray)) := (blk_cell BK163.out 0).trans rfl; have hcz23_1 : w21.cell? ⟨gb163, 1, none⟩ = some (.bool false) := (blk_cell BK163.out 1).trans rfl; have hcz23_2 : w21.cell? ⟨gb163, 2, none⟩ = some (.slice none 0 0) := (blk_cell BK163.out 2).trans rfl; have hfz23_0 := blk_frozen BK163.out 0; have hfz23_1 := blk_frozen BK163.out 1; have hfz23_2 := blk_frozen BK163.out 2) | ((with_reducible refine gate_callee (f := 37) rfl ?_); refine goesL_ (some 23) rfl rfl Tryd.func37 (by kernel_rfl) rfl #[.string ((rd_T30 l0_0 x16_1).f0)] rfl (by (try simp only [List.map_toArray, List.map_cons, List.map_nil]); first | done | rfl | (simp only [List.length_drop, List.length_take]; rfl)) ?_; (with_reducible refine (path_Up.calls ((rd_T30 l0_0 x16_1).f0) t164 t165 _ A12.out).mono ?_); rintro e w24 ⟨rfl, hb⟩; refine ⟨_, rfl, ?_⟩; replace HO_5 := xa_ (Kd.R_below (by (with_reducible repeat (first | apply Kd.R_alloc | apply Kd.R_drewN | apply Kd.R_drew)); exact (Kd.R_mono (Kd.R_far (p := ⟨gb163, 2, none⟩) (Kd.R_far (p := ⟨gb163, 1, none⟩) (Kd.R_far (p := ⟨gb163, 0, none⟩) (Kd.R_types HO_5.out BK163.out (by decide)) (fun _ hk => hk.2) (.string ((rd_T30 l0_0 x16_1).f0))) (fun _ hk => hk.2) (.bool ((rd_T30 l0_0 x16_1).f1))) (fun _ hk => hk.2) (.slice A162_2 ((rd_T30 l0_0 x16_1).f2).length c162_2)) (fun _ h_ => h_.1))) hb); replace BK160 := xa_ (blk_below (g := gb160) (o := .cells #[.slice (some ad162) l0_0.length c0_0] 26 (0, 0)) (by (with_reducible repeat (first | refine blk_drewN ?_ _ | refine blk_drew ?_ | refine blk_alloc ?_ _)); refine blk_far ?_ NB160_163.out _; (with_reducible repeat (first | refine blk_drewN ?_ _ | refine blk_drew ?_ | refine blk_alloc ?_ _)); refine blk_far ?_ NB160_163.out _; (with_reducible repeat (first | refine blk_drewN ?_ _ | refine blk_drew ?_ | refine blk_alloc ?_ _)); refine blk_far ?_ NB160_163.out _; (with_reducible repeat (first | refine blk_drewN ?_ _ | refine blk_drew ?_ | refine blk_alloc ?_ _)); exact BK160.out) hb); replace BK163 := xa_ (blk_below (g := gb163) (o := .cells #[.string ((rd_T30 l0_0 x16_1).f0), .bool ((rd_T30 l0_0 x16_1).f1), .slice A162_2 ((rd_T30 l0_0 x16_1).f2).length c162_2] 30 (0, 0)) (by (with_reducible repeat (first | refine blk_drewN ?_ _ | refine blk_drew ?_ | refine blk_alloc ?_ _)); refine blk_put (cs := #[.string ((rd_T30 l0_0 x16_1).f0), .bool ((rd_T30 l0_0 x16_1).f1), .slice none 0 0]) ?_ 2 _ rfl; (with_reducible repeat (first | refine blk_drewN ?_ _ | refine blk_drew ?_ | refine blk_alloc ?_ _)); refine blk_put (cs := #[.string ((rd_T30 l0_0 x16_1).f0), .bool false, .slice none 0 0]) ?_ 1 _ rfl; (with_reducible repeat (first | refine blk_drewN ?_ _ | refine blk_drew ?_ | refine blk_alloc ?_ _)); refine blk_put (cs := #[.string (⟨#[]⟩ : ByteArray), .bool false, .slice none 0 0]) ?_ 0 _ rfl; (with_reducible repeat (first | refine blk_drewN ?_ _ | refine blk_drew ?_ | refine blk_alloc ?_ _)); exact BK163.out) hb); replace HB := xa_ (below_step (by repeat (first | (with_reducible first | exact HB.out | apply below_alloc | apply pw_below_drewN | apply below_drew1 | refine below_set ?_ GE160.out | refine below_set ?_ GE163.out) | exact HB.out)) hb); (try clear hb); (try clear hb2); (try clear hk); (try clear hi)))
        go_roundg k1
        case measure => have := HK1.out; omega
        case rel => exact ⟨(x5_1), (wrap64 (x16_1 + 1)), (by first | rfl | (simp; done) | (simp [*]; done)), H', ⟨by have := HK1.out; omega⟩, ⟨by (with_reducible repeat (first | apply Kd.R_alloc | apply Kd.R_drewN | apply Kd.R_drew)); exact HO_5.out⟩, ⟨by (with_reducible repeat (first | refine blk_drewN ?_ _ | refine blk_drew ?_ | refine blk_alloc ?_ _)); exact BK160.out⟩, ⟨by repeat (first | (with_reducible first | exact HB.out | apply below_alloc | apply pw_below_drewN | apply below_drew1 | refine below_set ?_ GE160.out | refine below_set ?_ GE163.out) | exact HB.out)⟩⟩
      ·rw [if_neg c11] at H
       exact absurd H (by simp)
     ·rw [if_neg c10] at H
      exact absurd H (by simp)
    ·rw [if_neg c9] at H
     have c9b0 : decide (x16_1 < (l0_0.length : Int)) = false := decide_eq_false c9
     clear c9
     obtain rfl := Option.some.inj H
     go_wp2
     go_ret
     exact ⟨_, by first | rfl | (simp [errW_none, errW_some] <;> rfl) | (simp [*, errW_none, errW_some] <;> rfl), by (with_reducible repeat (first | apply Kd.R_alloc | apply Kd.R_drewN | apply Kd.R_drew)); exact HO_5.out, by repeat (first | (with_reducible first | exact HB.out | apply below_alloc | apply pw_below_drewN | apply below_drew1 | refine below_set ?_ GE160.out) | exact HB.out)⟩
 ·replace c4 := Bool.eq_false_iff.mpr c4
  subst c4
  have H1 : (some ([] : List ByteArray)) = some r := by rw [if_neg (show ¬ (false = true) by decide)] at H; exact H
  clear H
  have H := H1
  clear H1
  obtain rfl := Option.some.inj H
  go_enter Tryd.func29, Tryd.ntmps29
  go_wp2_with (first | ((with_reducible refine gate_dst (N := 2) rfl ?_); refine box_event ?hg (N := 2) ?hd (cs := #[.slice A0_0 l0_0.length c0_0]) (t := 26) ?hr ?_; (case hd => rfl); (case hg => rfl); (case hr => first | (go_simp; done) | (go_simp; rfl)); intro gb160 hg w25 hbox hb; have n0_ := xa_ (below_step (by repeat (first | (with_reducible first | exact HB.out | apply below_alloc | apply pw_below_drewN | apply below_drew1) | exact HB.out)) hb); have n1_ := xa_ (hbox); have n2_ := xa_ ((by rw [hg]; exact (below_size (by repeat (first | (with_reducible first | exact HB.out | apply below_alloc | apply pw_below_drewN | apply below_drew1) | exact HB.out))) : w.heap.size ≤ gb160)); have n3_ := xa_ ((by rw [hg]; exact (below_size (by repeat (first | (with_reducible first | exact HB.out | apply below_alloc | apply pw_below_drewN | apply below_drew1) | exact HB.out))) : w.heap.size ≤ gb160)); clear HB; have HB := n0_; have BK160 := n1_; have GW160 := n2_; have GE160 := n3_; clear n0_ n1_ n2_ n3_; clear hb hbox hg; have hcz26_0 : w25.cell? ⟨gb160, 0, none⟩ = some (.slice A0_0 l0_0.length c0_0) := (blk_cell BK160.out 0).trans rfl; have hfz26_0 := blk_frozen BK160.out 0) | ((with_reducible refine gate_callee (f := 14) rfl ?_); refine goesL_ (some 11) rfl rfl Tryd.func14 (by kernel_rfl) rfl #[.agg #[.slice A0_0 l0_0.length c0_0]] rfl (by (try simp only [List.map_toArray, List.map_cons, List.map_nil]); first | done | rfl | (simp only [List.length_drop, List.length_take]; rfl)) ?_; (with_reducible refine (tree_Good.calls _ _ l0_0 false _ ?side1 ?side2 A3.out).mono ?_); (case side1 => exact xC_ (Kd.C_below HR0_0.out HB.out)); (case side2 => exact HC0_0.out); rintro e w27 ⟨rfl, hb⟩; refine ⟨_, rfl, ?_⟩; replace BK160 := xa_ (blk_below (xb_ BK160.out) hb); replace HB := xa_ (below_step (by repeat (first | (with_reducible first | exact HB.out | apply below_alloc | apply pw_below_drewN | apply below_drew1 | refine below_set ?_ GE160.out) | exact HB.out)) hb); (try clear hb); (try clear hb2); (try clear hk); (try clear hi)))
  go_ret
  exact ⟨_, by first | rfl | (simp [errW_none, errW_some] <;> rfl) | (simp [*, errW_none, errW_some] <;> rfl), by first | exact Kd.R_nil _ _ _ _ _ | exact Kd.N_nil _ _ _ _ _ | exact Kd.V_nil _ _ _ _ _ | exact Kd.Q_nil _ _ _ _ _ | exact Kd.S_nil _ _ _ _ _, by repeat (first | (with_reducible first | exact HB.out | apply below_alloc | apply pw_below_drewN | apply below_drew1 | refine below_set ?_ GE160.out) | exact HB.out)⟩



end Go.Proofs.YtidlldfghkaeeaaDoor.P
end
section
namespace Go.Proofs.YtidlldfghkaeeaaDoor.P
open Go.RowKit Go.Proofs.YtidlldfghkaeeaaDoorW.PrintWords Go.Proofs.YtidlldfghkaeeaaDoorW.PrintLast Go.Proofs.YtidlldfghkaeeaaDoorW.PrintMore
set_option linter.unusedVariables false
set_option linter.unusedSimpArgs false

/-- What tree.Find says of a path. -/
def findE (l : List S30) (p : ByteArray) : Int := if GT30 l then if Gd p.data.toList then if ∃ x ∈ l, x.f0 = p then 0 else 5 else 4 else 1
theorem tree_find.eq {l : List S30} {p : ByteArray} (h : okT l) (hp : p.size < 4294967280) (hs : Srt S30.f0 l) : tree_find.f l p = some ((lowB S30.f0 p l : Int), decide (∃ x ∈ l, x.f0 = p)) := by
  unfold tree_find.f
  rw [if_pos ⟨h.1, hp, hs⟩]
theorem nB_mem {l : List S30} : ∀ {x : S30}, x ∈ l → x.f2.length ≤ nB30 l := by
  induction l with
  | nil => intro x h; cases h
  | cons y l ih =>
    intro x h
    rw [nB30, nB_cons]
    rcases List.mem_cons.1 h with rfl | h
    · omega
    · have := ih h
      unfold nB30 at this
      omega
theorem tree_Find.eq {l : List S30} {p : ByteArray} (h : okT l) (hp : p.size < 4294967280) : ∃ r1 r2 r3, tree_Find.f l p = some (r1, r2, r3, findE l p) := by
  unfold tree_Find.f findE
  rw [tree_Good.eq h, Option.bind_some]
  by_cases hg : GT30 l
  · rw [if_pos (decide_eq_true hg), if_pos hg, Good_eq (by omega), Option.bind_some]
    by_cases hd : Gd p.data.toList
    · rw [if_pos (decide_eq_true hd), if_pos hd, tree_find.eq h hp hg.2.2.1, Option.bind_some]
      by_cases hx : ∃ x ∈ l, x.f0 = p
      · obtain ⟨hlt, _⟩ := (lowB_at hg.2.2.1).2 hx
        have hm := nB_mem (List.getElem_mem hlt)
        have hn := h.2
        dsimp only
        rw [if_pos (decide_eq_true hx), if_pos hx, if_pos (Int.natCast_nonneg _), if_pos (by omega), rdT hlt, own_eq (by omega), Option.bind_some]
        exact ⟨_, _, _, rfl⟩
      · dsimp only
        rw [if_neg (by simpa using hx), if_neg hx]
        exact ⟨_, _, _, rfl⟩
    · rw [if_neg (by simpa using hd), if_neg hd]
      exact ⟨_, _, _, rfl⟩
  · rw [if_neg (by simpa using hg), if_neg hg]
    exact ⟨_, _, _, rfl⟩
/-- What stands just within a path. -/
def kidsL (l : List S30) (p : ByteArray) : List ByteArray := if GT30 l then (l.filter fun x => decide (upB x.f0 = p)).map S30.f0 else []
theorem kids_l0 (l : List S30) (p : ByteArray) (hg : GT30 l) (hs : ∀ x ∈ l, x.f0.size < 4294967280) : ∀ (d i k : Nat) (acc : List ByteArray), i + d = l.length → d < k → acc.length ≤ i → tree_Kids.l0 k p acc l (l.length : Int) (i : Int) = some (acc ++ ((l.drop i).filter fun x => decide (upB x.f0 = p)).map S30.f0)
  | 0, i, k, acc, hd, hk, ha => by
    obtain ⟨k, rfl⟩ : ∃ m, k = m + 1 := ⟨k - 1, by omega⟩
    rw [tree_Kids.l0, if_neg (by omega), List.drop_eq_nil_of_le (by omega)]
    simp
  | d + 1, i, k, acc, hd, hk, ha => by
    obtain ⟨k, rfl⟩ : ∃ m, k = m + 1 := ⟨k - 1, by omega⟩
    have hi : i < l.length := by omega
    have hm := List.getElem_mem hi
    have hl := hg.1
    have hw : wrap64 ((i : Int) + 1) = ((i + 1 : Nat) : Int) := wr1 (by omega)
    rw [tree_Kids.l0, if_pos (by omega), if_pos (by omega), if_pos (by omega), rdT hi, Up_eq (by have := hs _ hm; omega), if_pos (hg.2.2.2 _ hm).1, Option.bind_some, hw, List.drop_eq_getElem_cons hi, List.filter_cons]
    dsimp only
    by_cases hq : upB l[i].f0 = p
    · rw [if_pos (by rw [hq]), if_pos (by omega), if_pos (decide_eq_true hq), kids_l0 l p hg hs d (i + 1) k _ (by omega) (by omega) (by rw [List.length_append, List.length_singleton]; omega)]
      simp
    · rw [if_neg (fun h => hq (by rw [Lib.toList_data, Lib.toList_data] at h; exact bext h)), if_neg (by simpa using hq), kids_l0 l p hg hs d (i + 1) k _ (by omega) (by omega) (by omega)]
theorem tree_Kids.eq {l : List S30} {p : ByteArray} {k : Nat} (h : okT l) (hk : 40 < k) : tree_Kids.f k l p = some (kidsL l p) := by
  unfold tree_Kids.f kidsL
  rw [tree_Good.eq h, Option.bind_some]
  by_cases hg : GT30 l
  · rw [if_pos (decide_eq_true hg), if_pos hg]
    have := kids_l0 l p hg (okP_iff.1 h.1).1 l.length 0 k [] (by omega) (by have := hg.1; omega) (Nat.zero_le _)
    rw [List.drop_zero, List.nil_append] at this
    exact this
  · rw [if_neg (by simpa using hg), if_neg hg]
def rem0 (l : List S30) (p : ByteArray) : List S30 × Int := if findE l p = 0 then if (kidsL l p).length > 0 then (l, 8) else (delE S30.f0 p l, 0) else (l, findE l p)
def tree_Remove.f (l : List S30) (p : ByteArray) : Option (List S30 × Int) := if okT l ∧ p.size < 4294967280 then some (rem0 l p) else none
/-- The two boxes: the tree, the result. -/
structure By (w W : World) (v : Value) : Prop where
  b : Below w.heap.size w W
  k2 : W.heap[w.heap.size]? = some (.cells #[v] 26 (0, 0))
  k4 : W.heap[w.heap.size + 1]? = some (.cells #[.slice none 0 0] 26 (0, 0))
theorem By.below {w W W' : World} {v : Value} (h : By w W v) (hb : Below W.heap.size W W') : By w W' v :=
  ⟨h.b.trans (hb.mono h.b.size), (hb.block _ (blk_lt h.k2)).trans h.k2, (hb.block _ (blk_lt h.k4)).trans h.k4⟩
theorem By.belowB {w W W' : World} {v : Value} {B : Nat} (h : By w W v) (hB : w.heap.size + 2 ≤ B) (hb : Below B W W') : By w W' v :=
  ⟨h.b.trans (hb.mono (by omega)), (hb.block _ (by omega)).trans h.k2, (hb.block _ (by omega)).trans h.k4⟩
theorem By.new (w : World) (v : Value) : By w ((w.alloc (.cells #[v] 26)).alloc (.cells #[.slice none 0 0] 26)) v := by
  refine ⟨below_alloc (below_alloc (Below.refl _ _) _) _, blk_alloc (blk_new w _) _, ?_⟩
  have h := blk_new (w.alloc (.cells #[v] 26)) (.cells #[.slice none 0 0] 26)
  rw [World.size_alloc] at h
  exact h
theorem By.cells {w W : World} {v : Value} (h : By w W v) : W.cell? ⟨w.heap.size, 0, none⟩ = some v ∧ W.cell? ⟨w.heap.size + 1, 0, none⟩ = some (.slice none 0 0) ∧ W.frozen? ⟨w.heap.size + 1, 0, none⟩ = false :=
  ⟨blk_cell h.k2 0, blk_cell h.k4 0, blk_frozen h.k4 0⟩
set_option maxHeartbeats 8000000 in
set_option maxRecDepth 100000 in
theorem Remove_calls (P : Nat → Prop) (A0 : Option Addr) (c0 : Nat) (l0 : List S30) (p : ByteArray) (w : World) (hs0 : Kd.V k30 30 w w.heap.size (fun k_ => P k_) (.slice A0 l0.length c0) l0) (hok : okT l0) (hp : p.size < 4294967280) (R : List S30 × Int) (hR : R = rem0 l0 p) :
    Calls Tryd.prog 19 #[.agg #[.slice A0 l0.length c0], .string p] w fun e w' => ∃ v0_ : Value, e = .returned (.tuple #[.agg #[v0_], .int .i64 R.2]) ∧ Kd.V k30 30 w' w.heap.size (fun k_ => (P k_ ∨ w.heap.size ≤ k_)) v0_ R.1 ∧ Below w.heap.size w w' := by
  have hu26 := Tryd.underlying26
  have hu30 := Tryd.underlying30
  have HS := Aside0.mk hs0
  have HRR := Aside0.mk hR
  clear hR
  have hC0 := (Kd.V_reads' hs0).2.2
  have hc0 := (Kd.V_reads' hs0).2.1
  obtain ⟨r1, r2, r3, hfe⟩ := tree_Find.eq hok hp
  have hkd := tree_Kids.eq (p := p) (k := 41) hok (by decide)
  have X0 := By.new w (.slice A0 l0.length c0)
  obtain ⟨m20, m40, f40⟩ := X0.cells
  obtain ⟨fe, hfq⟩ : ∃ fe, fe = findE l0 p := ⟨_, rfl⟩
  obtain ⟨kl, hkl⟩ : ∃ kl, kl = kidsL l0 p := ⟨_, rfl⟩
  rw [← hfq] at hfe
  rw [← hkl] at hkd
  have HFQ := Aside0.mk hfq
  have HKL := Aside0.mk hkl
  clear hfq hkl hs0
  go_enter Tryd.func19, Tryd.ntmps19
  go_wp2_with (fail)
  refine (tree_Find.calls A0 c0 l0 p r1 r2 r3 fe _ (Kd.C_below hC0 X0.b) hc0 hfe).mono ?_
  rintro e W1 ⟨v1, rfl, hr1, hb1⟩
  obtain ⟨A1, c1, rfl⟩ := Kd.R_slice hr1
  have X1 := (X0.below hb1).below (below_alloc (Below.refl _ W1) (.cells #[.string r1, .bool r2, .slice A1 r3.length c1] 30))
  clear X0 hb1 hr1 hfe m20 m40 f40
  dsimp only
  obtain ⟨m20, m40, f40⟩ := X1.cells
  by_cases q1 : fe = 0
  · subst q1
    go_wp2_with (fail)
    refine (tree_Kids.calls 41 A0 c0 l0 p kl _ (Kd.C_below hC0 X1.b) hc0 hkd).mono ?_
    rintro e W2 ⟨v2, rfl, hr2, hb2⟩
    obtain ⟨A2, c2, rfl⟩ := Kd.R_slice hr2
    have X2 := X1.below hb2
    clear X1 hb2 hr2 hkd m20 m40 f40
    dsimp only
    obtain ⟨m20, m40, f40⟩ := X2.cells
    obtain ⟨nk, hnk⟩ : ∃ nk, nk = kl.length := ⟨_, rfl⟩
    rw [← hnk]
    have HNK := Aside0.mk hnk
    clear hnk
    by_cases q2 : nk > 0
    · have p2 : decide ((0 : Int) < (nk : Int)) = true := decide_eq_true (by omega)
      go_wp2_with (fail)
      refine bodyPost_ret (results_ct rfl _ _ (w.heap.size + 1) 26 #[.slice A0 l0.length c0] (0, 0) _ rfl (blk_put (cs := #[.slice none 0 0]) X2.k4 0 _ rfl) Tryd.underlying26 rfl (by kernel_rfl)) rfl ?_
      obtain rfl : R = (l0, 8) := by rw [HRR.out, rem0, if_pos HFQ.out.symm, if_pos (by rw [← HKL.out, ← HNK.out]; exact q2)]
      exact ⟨_, rfl, V_came HS.out X2.b (by omega) _, X2.b.setCell (p := ⟨w.heap.size + 1, 0, none⟩) (by show w.heap.size ≤ w.heap.size + 1; omega) _⟩
    · have p2 : decide ((0 : Int) < (nk : Int)) = false := decide_eq_false (by omega)
      have hgt : GT30 l0 ∧ ∃ x ∈ l0, x.f0 = p := by
        have h := HFQ.out
        unfold findE at h
        split at h
        · rename_i hg
          split at h
          · split at h
            · rename_i hx
              exact ⟨hg, hx⟩
            · cases h
          · cases h
        · cases h
      have hfd := tree_find.eq hok hp hgt.1.2.2.1
      rw [decide_eq_true hgt.2] at hfd
      obtain ⟨hlt, hat⟩ := (lowB_at hgt.1.2.2.1).2 hgt.2
      have HAT := Aside0.mk (erase_del hgt.1.2.2.1 hlt hat)
      have hl40 := hgt.1.1
      clear hgt hat
      go_wp2_with (fail)
      refine (tree_find.calls A0 c0 l0 p _ _ _ (Kd.C_below hC0 X2.b) hc0 hfd).mono ?_
      rintro e W3 ⟨rfl, hb3⟩
      have X3 := X2.below hb3
      clear X2 hb3 hfd m20 m40 f40
      dsimp only
      obtain ⟨m20, m40, f40⟩ := X3.cells
      obtain ⟨i, hi⟩ : ∃ i, i = lowB S30.f0 p l0 := ⟨_, rfl⟩
      rw [← hi] at hlt HAT ⊢
      clear hi
      go_wp2_with (fail)
      have hbase : w.heap.size + 2 ≤ W3.heap.size := by
        have := blk_lt X3.k4
        omega
      have hV3 : Kd.V k30 30 W3 W3.heap.size (fun k => P k ∧ k < w.heap.size) (.slice A0 l0.length c0) l0 := Kd.V_below (Kd.V_bound HS.out) X3.b
      refine (CloneE_calls (fun k => P k ∧ k < w.heap.size) A0 c0 l0 W3 hV3 (by omega)).mono ?_
      rintro e W4 ⟨v4, rfl, hN4, hb4⟩
      have X4 := X3.below hb4
      have hs4 := hb4.size
      clear hV3 X3 hb4 m20 m40 f40
      dsimp only
      obtain ⟨m20, m40, f40⟩ := X4.cells
      obtain ⟨ii, hii⟩ : ∃ ii : Int, ii = (i : Int) := ⟨_, rfl⟩
      have hw : wrap64 (ii + 1) = ((i + 1 : Nat) : Int) := by rw [hii]; exact wr1 (by omega)
      obtain ⟨jj, hjj⟩ : ∃ jj : Int, jj = ((i + 1 : Nat) : Int) := ⟨_, rfl⟩
      rw [← hjj] at hw
      rw [← hii]
      have HII := Aside0.mk hii
      have HJJ := Aside0.mk hjj
      clear hii hjj
      go_wp2_with (fail)
      refine (DeleteE_calls W3.heap.size _ v4 i ii jj l0 W4 hN4 hs4 hlt (by omega) HII.out HJJ.out).mono ?_
      rintro e W5 ⟨v5, rfl, hN5, hb5⟩
      have X5 := X4.belowB hbase hb5
      rw [List.eraseIdx_eq_take_drop_succ, HAT.out] at hN5
      obtain ⟨A5, c5, rfl⟩ := Kd.N_slice hN5
      have HN5 := Aside0.mk hN5
      clear hN4 hN5 X4 m20 m40 f40
      dsimp only
      obtain ⟨m20, m40, f40⟩ := X5.cells
      go_wp2_with (fail)
      refine bodyPost_ret (results_ct rfl _ _ (w.heap.size + 1) 26 #[.slice A5 (delE S30.f0 p l0).length c5] (0, 0) _ rfl (blk_put (cs := #[.slice none 0 0]) X5.k4 0 _ rfl) Tryd.underlying26 rfl (by kernel_rfl)) rfl ?_
      obtain rfl : R = (delE S30.f0 p l0, 0) := by rw [HRR.out, rem0, if_pos HFQ.out.symm, if_neg (by rw [← HKL.out, ← HNK.out]; exact q2)]
      refine ⟨_, rfl, Kd.V_mono (Kd.V_far (p := ⟨w.heap.size + 1, 0, none⟩) (Kd.N_V HN5.out) (fun k hk => ?_) _) (fun k hk => ?_), X5.b.setCell (p := ⟨w.heap.size + 1, 0, none⟩) (by show w.heap.size ≤ w.heap.size + 1; omega) _⟩
      · show k ≠ w.heap.size + 1
        rcases hk with hk | hk <;> omega
      · rcases hk with hk | hk
        · exact .inl hk.1
        · exact .inr (by omega)
  · have p1 : (fe != 0) = true := bne_iff_ne.2 q1
    go_wp2_with (fail)
    refine bodyPost_ret (results_ct rfl _ _ (w.heap.size + 1) 26 #[.slice A0 l0.length c0] (0, 0) _ rfl (blk_put (cs := #[.slice none 0 0]) X1.k4 0 _ rfl) Tryd.underlying26 rfl (by kernel_rfl)) rfl ?_
    obtain rfl : R = (l0, fe) := by rw [HRR.out, rem0, if_neg (by rw [← HFQ.out]; exact q1), HFQ.out]
    exact ⟨_, rfl, V_came HS.out X1.b (by omega) _, X1.b.setCell (p := ⟨w.heap.size + 1, 0, none⟩) (by show w.heap.size ≤ w.heap.size + 1; omega) _⟩
theorem tree_Remove.calls (P0_0_ : Nat → Prop) (A0_0 : Option Addr) (c0_0 : Nat) (l0_0 : List S30) (a1 : ByteArray) (r1 : List S30) (r2 : Int) (w : World) (hs0_0 : Kd.V k30 30 w w.heap.size (fun k_ => P0_0_ k_) (.slice A0_0 l0_0.length c0_0) l0_0) (h : tree_Remove.f l0_0 a1 = some (r1, r2)) :
    Calls Tryd.prog 19 #[.agg #[.slice A0_0 l0_0.length c0_0], .string a1] w fun e w' => ∃ v0_ : Value, e = .returned (.tuple #[.agg #[v0_], .int .i64 r2]) ∧ Kd.V k30 30 w' w.heap.size (fun k_ => (P0_0_ k_ ∨ w.heap.size ≤ k_)) v0_ r1 ∧ Below w.heap.size w w' := by
  unfold tree_Remove.f at h
  split at h
  · rename_i hh
    exact Remove_calls P0_0_ A0_0 c0_0 l0_0 a1 w hs0_0 hh.1 hh.2 (r1, r2) (Option.some.inj h).symm
  · cases h
end Go.Proofs.YtidlldfghkaeeaaDoor.P
end
