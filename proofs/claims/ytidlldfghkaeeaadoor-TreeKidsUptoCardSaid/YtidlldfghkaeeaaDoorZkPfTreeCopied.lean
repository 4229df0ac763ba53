/- Put together by pack.py: PfTreeCopied -/
import Derived.Test.YtidlldfghkaeeaaDoorZkPx0
import Derived.Test.YtidlldfghkaeeaaDoorZkPfTreeEntryOwn
namespace Go.Proofs.YtidlldfghkaeeaaDoor.P
open Go.RowKit Go.Proofs.YtidlldfghkaeeaaDoorW.PrintWords Go.Proofs.YtidlldfghkaeeaaDoorW.PrintLast Go.Proofs.YtidlldfghkaeeaaDoorW.PrintMore
attribute [local go_sem] max2_int min2_int max_two min_two max_three min_three max_four min_four   -- for this text's walks alone
set_option linter.unusedVariables false
set_option linter.unusedSimpArgs false
/-! ### tree_copied: function 75 -/
def tree_copied.l0 : Nat → List (S30) → Int → Int → List (S30) → Option ((List (S30)))
  | 0, _, _, _, _ => none
  | k + 1, x7, x8, x9, x307000 => if x9 < x8 then (if 0 ≤ x9 then (if x9 < (x7.length : Int) then ((tree_Entry_own.f ((rd_T30 x7 x9).f0) ((rd_T30 x7 x9).f1) ((rd_T30 x7 x9).f2)).bind fun bt309 => (if x307000.length < 2932031007402 then (tree_copied.l0 k x7 x8 (wrap64 (x9 + 1)) (x307000 ++ [(⟨bt309.1, bt309.2.1, bt309.2.2⟩ : S30)])) else (none))) else (none)) else (none)) else (some x307000)
def tree_copied.f (k : Nat) (l0_0 : List (S30)) : Option ((List (S30))) := tree_copied.l0 k l0_0 (l0_0.length : Int) 0 ([] : List (S30))
theorem tree_copied.mono_l : ∀ k, (∀ y0 y1 y2 y3, LeO (tree_copied.l0 k y0 y1 y2 y3) (tree_copied.l0 (k + 1) y0 y1 y2 y3))
  | 0 => fun _ _ _ _ r h => by simp [tree_copied.l0] at h
  | k + 1 => by
    have ih0 := tree_copied.mono_l k
    · intro y0 y1 y2 y3
      unfold tree_copied.l0
      repeat' first
      | (with_reducible exact ih0 _ _ _ _)
      | (with_reducible exact LeO.refl _)
      | (with_reducible exact LeO.none _)
      | (with_reducible refine LeO.ite ?_ ?_)
      | (with_reducible refine LeO.bind ?_ (fun _ => ?_))
      | exact ih0 _ _ _ _
      | exact LeO.none _
      | refine LeO.ite ?_ ?_
      | refine LeO.bind ?_ (fun _ => ?_)
theorem tree_copied.mono : ∀ a0 k, LeO (tree_copied.f k a0) (tree_copied.f (k + 1) a0) := by
  intro a0 k
  have ih0 := tree_copied.mono_l k
  unfold tree_copied.f
  repeat' first
      | (with_reducible exact ih0 _ _ _ _)
      | (with_reducible exact LeO.refl _)
      | (with_reducible exact LeO.none _)
      | (with_reducible refine LeO.ite ?_ ?_)
      | (with_reducible refine LeO.bind ?_ (fun _ => ?_))
      | exact ih0 _ _ _ _
      | exact LeO.none _
      | refine LeO.ite ?_ ?_
      | refine LeO.bind ?_ (fun _ => ?_)
def tree_copied.T5 : Bool × List (List Nat × List Nat) := (true, [([], []), ([0], [0]), ([], []), ([2], [2]), ([3], [3]), ([1, 4, 3], [1, 4]), ([0, 1, 2, 3, 4, 5], []), ([6, 5, 5, 0, 1, 2, 3, 4, 5], [5, 6])])
def tree_copied.B5 : List Nat := [0, 1, 0, 4, 12, 31, 63, 127]
theorem tree_copied.tab5 : rtab .any (opsOf Tryd.f75 5) = tree_copied.T5 := by kernel_rfl
theorem tree_copied.bits5 : waitsOk tree_copied.T5.2 tree_copied.B5 = true := by kernel_rfl
set_option maxHeartbeats 8000000 in
set_option maxRecDepth 100000 in
theorem tree_copied.calls (k : Nat) (A0_0 : Option Addr) (c0_0 : Nat) (l0_0 : List (S30)) (r : List (S30)) (w : World) (hr0_0 : Kd.C k30 w A0_0 l0_0.length l0_0) (hc0_0 : l0_0.length ≤ c0_0) (h : tree_copied.f k l0_0 = some r) :
    Calls Tryd.prog 75 #[.agg #[.slice A0_0 l0_0.length c0_0]] w fun e w' => ∃ v0_ : Value, e = .returned (.agg #[v0_]) ∧ Kd.S k30 30 w' w.heap.size (fun _ => True) v0_ r ∧ Below w.heap.size w w' := by
  have hu26 := Tryd.underlying26
  have hu30 := Tryd.underlying30
  have HR0_0 := Aside0.mk hr0_0
  have HC0_0 := Aside0.mk hc0_0
  clear hr0_0 hc0_0
  have HB := Aside0.mk (Below.refl w.heap.size w)
  have H : (tree_copied.l0 k l0_0 (l0_0.length : Int) 0 ([] : List (S30))) = some r := h
  clear h
  have H' := Aside0.mk H
  clear H
  go_enter Tryd.func75, Tryd.ntmps75
  go_wp2_with (first | ((with_reducible refine gate_dst (N := 1) rfl ?_); refine box_event ?hg (N := 1) ?hd (cs := #[.slice A0_0 l0_0.length c0_0]) (t := 26) ?hr ?_; (case hd => rfl); (case hg => rfl); (case hr => first | (go_simp; done) | (go_simp; rfl)); intro gb304 hg w2 hbox hb; have n0_ := Aside0.mk (below_step (by repeat (first | (with_reducible first | exact HB.out | apply below_alloc | apply pw_below_drewN | apply below_drew1) | exact HB.out)) hb); have n1_ := Aside0.mk (hbox); have n2_ := Aside0.mk ((by rw [hg]; exact (below_size (by repeat (first | (with_reducible first | exact HB.out | apply below_alloc | apply pw_below_drewN | apply below_drew1) | exact HB.out))) : w.heap.size ≤ gb304)); have n3_ := Aside0.mk ((by rw [hg]; exact (below_size (by repeat (first | (with_reducible first | exact HB.out | apply below_alloc | apply pw_below_drewN | apply below_drew1) | exact HB.out))) : w.heap.size ≤ gb304)); clear HB; have HB := n0_; have BK304 := n1_; have GW304 := n2_; have GE304 := n3_; clear n0_ n1_ n2_ n3_; clear hb hbox hg) | ((with_reducible refine gate_dst (N := 2) rfl ?_); refine box_event ?hg (N := 2) ?hd (cs := #[.slice none 0 0]) (t := 26) ?hr ?_; (case hd => rfl); (case hg => rfl); (case hr => first | (go_simp; done) | (go_simp; rfl)); intro gb305 hg w3 hbox hb; have n0_ := Aside0.mk (blk_below (g := gb304) (o := .cells #[.slice A0_0 l0_0.length c0_0] 26 (0, 0)) (by (with_reducible repeat (first | refine blk_drewN ?_ _ | refine blk_drew ?_ | refine blk_alloc ?_ _)); exact BK304.out) hb); have n1_ := Aside0.mk (below_step (by repeat (first | (with_reducible first | exact HB.out | apply below_alloc | apply pw_below_drewN | apply below_drew1 | refine below_set ?_ GE304.out) | exact HB.out)) hb); have n2_ := Aside0.mk (hbox); have n3_ := Aside0.mk ((by rw [hg]; exact (below_size (by repeat (first | (with_reducible first | exact HB.out | apply below_alloc | apply pw_below_drewN | apply below_drew1 | refine below_set ?_ GE304.out) | exact HB.out))) : w.heap.size ≤ gb305)); have n4_ := Aside0.mk ((by rw [hg]; exact (below_size (by repeat (first | (with_reducible first | exact HB.out | apply below_alloc | apply pw_below_drewN | apply below_drew1 | refine below_set ?_ GE304.out) | exact HB.out))) : w.heap.size ≤ gb305)); have n5_ := Aside0.mk ((by rw [hg]; exact Nat.ne_of_lt (blk_lt (g := gb304) (o := .cells #[.slice A0_0 l0_0.length c0_0] 26 (0, 0)) (by (with_reducible repeat (first | refine blk_drewN ?_ _ | refine blk_drew ?_ | refine blk_alloc ?_ _)); exact BK304.out)) : gb304 ≠ gb305)); have n6_ := Aside0.mk ((by rw [hg]; exact Nat.ne_of_gt (blk_lt (g := gb304) (o := .cells #[.slice A0_0 l0_0.length c0_0] 26 (0, 0)) (by (with_reducible repeat (first | refine blk_drewN ?_ _ | refine blk_drew ?_ | refine blk_alloc ?_ _)); exact BK304.out)) : gb305 ≠ gb304)); clear BK304; clear HB; have BK304 := n0_; have HB := n1_; have BK305 := n2_; have GW305 := n3_; have GE305 := n4_; have NB304_305 := n5_; have NB305_304 := n6_; clear n0_ n1_ n2_ n3_ n4_ n5_ n6_; clear hb hbox hg) | ((with_reducible refine gate_dst (N := 3) rfl ?_); refine box_event ?hg (N := 3) ?hd (cs := #[.slice none 0 0]) (t := 26) ?hr ?_; (case hd => rfl); (case hg => rfl); (case hr => first | (go_simp; done) | (go_simp; rfl)); intro gb306 hg w4 hbox hb; have n0_ := Aside0.mk (blk_below (g := gb304) (o := .cells #[.slice A0_0 l0_0.length c0_0] 26 (0, 0)) (by (with_reducible repeat (first | refine blk_drewN ?_ _ | refine blk_drew ?_ | refine blk_alloc ?_ _)); exact BK304.out) hb); have n1_ := Aside0.mk (blk_below (g := gb305) (o := .cells #[.slice none 0 0] 26 (0, 0)) (by (with_reducible repeat (first | refine blk_drewN ?_ _ | refine blk_drew ?_ | refine blk_alloc ?_ _)); exact BK305.out) hb); have n2_ := Aside0.mk (below_step (by repeat (first | (with_reducible first | exact HB.out | apply below_alloc | apply pw_below_drewN | apply below_drew1 | refine below_set ?_ GE304.out | refine below_set ?_ GE305.out) | exact HB.out)) hb); have n3_ := Aside0.mk (hbox); have n4_ := Aside0.mk ((by rw [hg]; exact (below_size (by repeat (first | (with_reducible first | exact HB.out | apply below_alloc | apply pw_below_drewN | apply below_drew1 | refine below_set ?_ GE304.out | refine below_set ?_ GE305.out) | exact HB.out))) : w.heap.size ≤ gb306)); have n5_ := Aside0.mk ((by rw [hg]; exact (below_size (by repeat (first | (with_reducible first | exact HB.out | apply below_alloc | apply pw_below_drewN | apply below_drew1 | refine below_set ?_ GE304.out | refine below_set ?_ GE305.out) | exact HB.out))) : w.heap.size ≤ gb306)); have n6_ := Aside0.mk ((by rw [hg]; exact Nat.ne_of_lt (blk_lt (g := gb304) (o := .cells #[.slice A0_0 l0_0.length c0_0] 26 (0, 0)) (by (with_reducible repeat (first | refine blk_drewN ?_ _ | refine blk_drew ?_ | refine blk_alloc ?_ _)); exact BK304.out)) : gb304 ≠ gb306)); have n7_ := Aside0.mk ((by rw [hg]; exact Nat.ne_of_gt (blk_lt (g := gb304) (o := .cells #[.slice A0_0 l0_0.length c0_0] 26 (0, 0)) (by (with_reducible repeat (first | refine blk_drewN ?_ _ | refine blk_drew ?_ | refine blk_alloc ?_ _)); exact BK304.out)) : gb306 ≠ gb304)); have n8_ := Aside0.mk ((by rw [hg]; exact Nat.ne_of_lt (blk_lt (g := gb305) (o := .cells #[.slice none 0 0] 26 (0, 0)) (by (with_reducible repeat (first | refine blk_drewN ?_ _ | refine blk_drew ?_ | refine blk_alloc ?_ _)); exact BK305.out)) : gb305 ≠ gb306)); have n9_ := Aside0.mk ((by rw [hg]; exact Nat.ne_of_gt (blk_lt (g := gb305) (o := .cells #[.slice none 0 0] 26 (0, 0)) (by (with_reducible repeat (first | refine blk_drewN ?_ _ | refine blk_drew ?_ | refine blk_alloc ?_ _)); exact BK305.out)) : gb306 ≠ gb305)); clear BK304; clear BK305; clear HB; have BK304 := n0_; have BK305 := n1_; have HB := n2_; have BK306 := n3_; have GW306 := n4_; have GE306 := n5_; have NB304_306 := n6_; have NB306_304 := n7_; have NB305_306 := n8_; have NB306_305 := n9_; clear n0_ n1_ n2_ n3_ n4_ n5_ n6_ n7_ n8_ n9_; clear hb hbox hg; have hnb5 := NB304_305.out; have hnc5 := NB305_304.out; have hnb6 := NB304_306.out; have hnc6 := NB306_304.out; have hcz7_0 : w4.cell? ⟨gb304, 0, none⟩ = some (.slice A0_0 l0_0.length c0_0) := (blk_cell BK304.out 0).trans rfl; have hfz7_0 := blk_frozen BK304.out 0))
  go_loopg [9] k (fun kq v9 w' => ∃ (x9_1 : Int) (x307000_1 : List (S30)) (u307000 : Value), v9 = .int .i64 x9_1 ∧ Aside0 (tree_copied.l0 kq l0_0 (l0_0.length : Int) x9_1 x307000_1 = some r) ∧ Aside0 (kq ≤ k) ∧ Aside0 (Kd.S k30 30 w' w.heap.size (fun _ => True) u307000 x307000_1) ∧ Aside0 (w'.heap[gb304]? = some (.cells #[(.slice A0_0 l0_0.length c0_0)] 26 (0, 0))) ∧ Aside0 (w'.heap[gb305]? = some (.cells #[(.slice none 0 0)] 26 (0, 0))) ∧ Aside0 (w'.heap[gb306]? = some (.cells #[u307000] 26 (0, 0))) ∧ Aside0 (Below w.heap.size w w'))
  case atStart => exact ⟨(0), (([] : List (S30))), (.slice none 0 0), (by first | rfl | (simp; done) | (simp [*]; done)), H', ⟨Nat.le_refl _⟩, ⟨by first | exact Kd.S_nil _ _ _ _ _ | exact Kd.N_nil _ _ _ _ _ | exact Kd.V_nil _ _ _ _ _ | exact Kd.Q_nil _ _ _ _ _ | exact Kd.R_nil _ _ _ _ _⟩, ⟨by (with_reducible repeat (first | refine blk_drewN ?_ _ | refine blk_drew ?_ | refine blk_alloc ?_ _)); exact BK304.out⟩, ⟨by (with_reducible repeat (first | refine blk_drewN ?_ _ | refine blk_drew ?_ | refine blk_alloc ?_ _)); exact BK305.out⟩, ⟨by (with_reducible repeat (first | refine blk_drewN ?_ _ | refine blk_drew ?_ | refine blk_alloc ?_ _)); exact BK306.out⟩, ⟨by repeat (first | (with_reducible first | exact HB.out | apply below_alloc | apply pw_below_drewN | apply below_drew1 | refine below_set ?_ GE304.out | refine below_set ?_ GE305.out | refine below_set ?_ GE306.out) | exact HB.out)⟩⟩
  case round =>
    clear H'
    try clear p2
    try clear c5
    try clear c6
    try clear c7
    try clear hcz7_0
    try clear hfz7_0
    obtain ⟨x9_1, x307000_1, u307000, rfl, HA, HK1, HO_307000, BK304, BK305, BK306, HB⟩ := hrel
    cases gk with
    | zero => exact absurd HA.out (by simp [tree_copied.l0])
    | succ k1 =>
      have H := HA.out
      clear HA
      simp only [tree_copied.l0] at H
      by_cases c8 : x9_1 < (l0_0.length : Int)
      · rw [if_pos c8] at H
        have c8b0 : decide (x9_1 < (l0_0.length : Int)) = true := decide_eq_true c8
        clear c8
        by_cases c9 : 0 ≤ x9_1
        · rw [if_pos c9] at H
          have c9b0 : decide (0 ≤ x9_1) = true := decide_eq_true c9
          clear c9
          by_cases c10 : x9_1 < (l0_0.length : Int)
          · rw [if_pos c10] at H
            have c10b0 : decide (x9_1 < (l0_0.length : Int)) = true := decide_eq_true c10
            clear c10
            replace H := Option.bind_eq_some_iff.mp H
            obtain ⟨⟨t309, t310, t311⟩, A110, H⟩ := H
            replace H : (if x307000_1.length < 2932031007402 then (tree_copied.l0 k1 l0_0 (l0_0.length : Int) (wrap64 (x9_1 + 1)) (x307000_1 ++ [(⟨t309, t310, t311⟩ : S30)])) else (none)) = some r := H
            have A11 := Aside0.mk A110
            clear A110
            by_cases c12 : x307000_1.length < 2932031007402
            · rw [if_pos c12] at H
              have LMc12 := Aside0.mk c12
              clear c12
              obtain ⟨y314, hy314⟩ : ∃ y_ : List (S30), y_ = (x307000_1 ++ [(⟨t309, t310, t311⟩ : S30)]) := ⟨_, rfl⟩
              replace H : (tree_copied.l0 k1 l0_0 (l0_0.length : Int) (wrap64 (x9_1 + 1)) y314) = some r := by first | (rw [hy314]; with_reducible exact H) | (have H2_ := (Option.bind_some _ _).symm.trans H; rw [hy314]; with_reducible exact H2_) | (have H2_ := (Option.bind_some _ _).symm.trans H; with_reducible exact H2_) | with_reducible exact H | (rw [hy314]; exact H) | exact H
              have Ny314 := Aside0.mk hy314
              clear hy314
              have H' := Aside0.mk H
              clear H
              have p307 : 0 ≤ (x9_1 : Int) := of_decide_eq_true (by first | (with_reducible assumption) | assumption)
              have q307 : x9_1 < (l0_0.length : Int) := of_decide_eq_true (by first | (with_reducible assumption) | assumption)
              obtain ⟨ad307, A307_2, c307_2, e307, hx307_0, hx307_1, hx307_2, hl307_2, hi307_2⟩ := at_T30 HR0_0.out x9_1 p307 q307
              cases e307
              replace hx307_0 := (HB.out.cell (World.block_lt_of_cell? w _ hx307_0)).trans hx307_0
              replace hx307_1 := (HB.out.cell (World.block_lt_of_cell? w _ hx307_1)).trans hx307_1
              replace hx307_2 := (HB.out.cell (World.block_lt_of_cell? w _ hx307_2)).trans hx307_2
              have HR307_2 := Aside0.mk hi307_2
              have HC307_2 := Aside0.mk hl307_2
              clear hi307_2 hl307_2
              replace p307 := eq_true p307
              replace q307 := eq_true q307
              try go_wp2_with (first | ((with_reducible refine gate_dst (N := 5) rfl ?_); refine box_event ?hg (N := 5) ?hd (cs := #[.string (⟨#[]⟩ : ByteArray), .bool false, .slice none 0 0]) (t := 30) ?hr ?_; (case hd => rfl); (case hg => rfl); (case hr => first | (go_simp; done) | (go_simp; rfl)); intro gb308 hg w13 hbox hb; have n0_ := Aside0.mk (Kd.S_below (Kd.S_elderB (by (with_reducible repeat (first | apply Kd.S_alloc | apply Kd.S_drewN | apply Kd.S_drew)); exact HO_307000.out) gb308 (Nat.le_of_eq hg.symm)) hb); have n1_ := Aside0.mk (blk_below (g := gb304) (o := .cells #[.slice (some ad307) l0_0.length c0_0] 26 (0, 0)) (by (with_reducible repeat (first | refine blk_drewN ?_ _ | refine blk_drew ?_ | refine blk_alloc ?_ _)); exact BK304.out) hb); have n2_ := Aside0.mk (blk_below (g := gb305) (o := .cells #[.slice none 0 0] 26 (0, 0)) (by (with_reducible repeat (first | refine blk_drewN ?_ _ | refine blk_drew ?_ | refine blk_alloc ?_ _)); exact BK305.out) hb); have n3_ := Aside0.mk (blk_below (g := gb306) (o := .cells #[u307000] 26 (0, 0)) (by (with_reducible repeat (first | refine blk_drewN ?_ _ | refine blk_drew ?_ | refine blk_alloc ?_ _)); exact BK306.out) hb); have n4_ := Aside0.mk (below_step (by repeat (first | (with_reducible first | exact HB.out | apply below_alloc | apply pw_below_drewN | apply below_drew1 | refine below_set ?_ GE304.out | refine below_set ?_ GE305.out | refine below_set ?_ GE306.out) | exact HB.out)) hb); have n5_ := Aside0.mk (hbox); have n6_ := Aside0.mk ((by rw [hg]; exact (below_size (by repeat (first | (with_reducible first | exact HB.out | apply below_alloc | apply pw_below_drewN | apply below_drew1 | refine below_set ?_ GE304.out | refine below_set ?_ GE305.out | refine below_set ?_ GE306.out) | exact HB.out))) : w.heap.size ≤ gb308)); have n7_ := Aside0.mk ((by rw [hg]; exact (below_size (by repeat (first | (with_reducible first | exact HB.out | apply below_alloc | apply pw_below_drewN | apply below_drew1 | refine below_set ?_ GE304.out | refine below_set ?_ GE305.out | refine below_set ?_ GE306.out) | exact HB.out))) : w.heap.size ≤ gb308)); have n8_ := Aside0.mk ((by rw [hg]; exact Nat.ne_of_lt (blk_lt (g := gb304) (o := .cells #[.slice (some ad307) l0_0.length c0_0] 26 (0, 0)) (by (with_reducible repeat (first | refine blk_drewN ?_ _ | refine blk_drew ?_ | refine blk_alloc ?_ _)); exact BK304.out)) : gb304 ≠ gb308)); have n9_ := Aside0.mk ((by rw [hg]; exact Nat.ne_of_gt (blk_lt (g := gb304) (o := .cells #[.slice (some ad307) l0_0.length c0_0] 26 (0, 0)) (by (with_reducible repeat (first | refine blk_drewN ?_ _ | refine blk_drew ?_ | refine blk_alloc ?_ _)); exact BK304.out)) : gb308 ≠ gb304)); have n10_ := Aside0.mk ((by rw [hg]; exact Nat.ne_of_lt (blk_lt (g := gb305) (o := .cells #[.slice none 0 0] 26 (0, 0)) (by (with_reducible repeat (first | refine blk_drewN ?_ _ | refine blk_drew ?_ | refine blk_alloc ?_ _)); exact BK305.out)) : gb305 ≠ gb308)); have n11_ := Aside0.mk ((by rw [hg]; exact Nat.ne_of_gt (blk_lt (g := gb305) (o := .cells #[.slice none 0 0] 26 (0, 0)) (by (with_reducible repeat (first | refine blk_drewN ?_ _ | refine blk_drew ?_ | refine blk_alloc ?_ _)); exact BK305.out)) : gb308 ≠ gb305)); have n12_ := Aside0.mk ((by rw [hg]; exact Nat.ne_of_lt (blk_lt (g := gb306) (o := .cells #[u307000] 26 (0, 0)) (by (with_reducible repeat (first | refine blk_drewN ?_ _ | refine blk_drew ?_ | refine blk_alloc ?_ _)); exact BK306.out)) : gb306 ≠ gb308)); have n13_ := Aside0.mk ((by rw [hg]; exact Nat.ne_of_gt (blk_lt (g := gb306) (o := .cells #[u307000] 26 (0, 0)) (by (with_reducible repeat (first | refine blk_drewN ?_ _ | refine blk_drew ?_ | refine blk_alloc ?_ _)); exact BK306.out)) : gb308 ≠ gb306)); clear HO_307000; clear BK304; clear BK305; clear BK306; clear HB; have HO_307000 := n0_; have BK304 := n1_; have BK305 := n2_; have BK306 := n3_; have HB := n4_; have BK308 := n5_; have GW308 := n6_; have GE308 := n7_; have NB304_308 := n8_; have NB308_304 := n9_; have NB305_308 := n10_; have NB308_305 := n11_; have NB306_308 := n12_; have NB308_306 := n13_; clear n0_ n1_ n2_ n3_ n4_ n5_ n6_ n7_ n8_ n9_ n10_ n11_ n12_ n13_; clear hb hbox hg; have hnb14 := NB308_304.out; have hnc14 := NB304_308.out; have hnb15 := NB308_305.out; have hnc15 := NB305_308.out; have hnb16 := NB308_306.out; have hnc16 := NB306_308.out; have hcz17_0 : w13.cell? ⟨gb308, 0, none⟩ = some (.string (⟨#[]⟩ : ByteArray)) := (blk_cell BK308.out 0).trans rfl; have hcz17_1 : w13.cell? ⟨gb308, 1, none⟩ = some (.bool false) := (blk_cell BK308.out 1).trans rfl; have hcz17_2 : w13.cell? ⟨gb308, 2, none⟩ = some (.slice none 0 0) := (blk_cell BK308.out 2).trans rfl; have hfz17_0 := blk_frozen BK308.out 0; have hfz17_1 := blk_frozen BK308.out 1; have hfz17_2 := blk_frozen BK308.out 2))
              have n0_ : Aside0 (Kd.S k30 30 (((w13.setCell ⟨gb308, 0, none⟩ (.string ((rd_T30 l0_0 x9_1).f0))).setCell ⟨gb308, 1, none⟩ (.bool ((rd_T30 l0_0 x9_1).f1))).setCell ⟨gb308, 2, none⟩ (.slice A307_2 ((rd_T30 l0_0 x9_1).f2).length c307_2)) w.heap.size (fun k_ => k_ ≠ gb308) u307000 x307000_1) := ⟨by (with_reducible repeat (first | apply Kd.S_alloc | apply Kd.S_drewN | apply Kd.S_drew)); exact Kd.S_mono (Kd.S_far (p := ⟨gb308, 2, none⟩) (Kd.S_far (p := ⟨gb308, 1, none⟩) (Kd.S_far (p := ⟨gb308, 0, none⟩) (Kd.S_mono HO_307000.out (fun k_ hk => (⟨hk, hk.2⟩ : _ ∧ k_ ≠ gb308))) (fun _ hk => hk.2) (.string ((rd_T30 l0_0 x9_1).f0))) (fun _ hk => hk.2) (.bool ((rd_T30 l0_0 x9_1).f1))) (fun _ hk => hk.2) (.slice A307_2 ((rd_T30 l0_0 x9_1).f2).length c307_2)) (fun _ hk => hk.1.2)⟩
              have n1_ : Aside0 ((((w13.setCell ⟨gb308, 0, none⟩ (.string ((rd_T30 l0_0 x9_1).f0))).setCell ⟨gb308, 1, none⟩ (.bool ((rd_T30 l0_0 x9_1).f1))).setCell ⟨gb308, 2, none⟩ (.slice A307_2 ((rd_T30 l0_0 x9_1).f2).length c307_2)).heap[gb304]? = some (.cells #[.slice (some ad307) l0_0.length c0_0] 26 (0, 0))) := ⟨by (with_reducible repeat (first | refine blk_drewN ?_ _ | refine blk_drew ?_ | refine blk_alloc ?_ _)); refine blk_far ?_ NB304_308.out _; (with_reducible repeat (first | refine blk_drewN ?_ _ | refine blk_drew ?_ | refine blk_alloc ?_ _)); refine blk_far ?_ NB304_308.out _; (with_reducible repeat (first | refine blk_drewN ?_ _ | refine blk_drew ?_ | refine blk_alloc ?_ _)); refine blk_far ?_ NB304_308.out _; (with_reducible repeat (first | refine blk_drewN ?_ _ | refine blk_drew ?_ | refine blk_alloc ?_ _)); exact BK304.out⟩
              have n2_ : Aside0 ((((w13.setCell ⟨gb308, 0, none⟩ (.string ((rd_T30 l0_0 x9_1).f0))).setCell ⟨gb308, 1, none⟩ (.bool ((rd_T30 l0_0 x9_1).f1))).setCell ⟨gb308, 2, none⟩ (.slice A307_2 ((rd_T30 l0_0 x9_1).f2).length c307_2)).heap[gb305]? = some (.cells #[.slice none 0 0] 26 (0, 0))) := ⟨by (with_reducible repeat (first | refine blk_drewN ?_ _ | refine blk_drew ?_ | refine blk_alloc ?_ _)); refine blk_far ?_ NB305_308.out _; (with_reducible repeat (first | refine blk_drewN ?_ _ | refine blk_drew ?_ | refine blk_alloc ?_ _)); refine blk_far ?_ NB305_308.out _; (with_reducible repeat (first | refine blk_drewN ?_ _ | refine blk_drew ?_ | refine blk_alloc ?_ _)); refine blk_far ?_ NB305_308.out _; (with_reducible repeat (first | refine blk_drewN ?_ _ | refine blk_drew ?_ | refine blk_alloc ?_ _)); exact BK305.out⟩
              have n3_ : Aside0 ((((w13.setCell ⟨gb308, 0, none⟩ (.string ((rd_T30 l0_0 x9_1).f0))).setCell ⟨gb308, 1, none⟩ (.bool ((rd_T30 l0_0 x9_1).f1))).setCell ⟨gb308, 2, none⟩ (.slice A307_2 ((rd_T30 l0_0 x9_1).f2).length c307_2)).heap[gb306]? = some (.cells #[u307000] 26 (0, 0))) := ⟨by (with_reducible repeat (first | refine blk_drewN ?_ _ | refine blk_drew ?_ | refine blk_alloc ?_ _)); refine blk_far ?_ NB306_308.out _; (with_reducible repeat (first | refine blk_drewN ?_ _ | refine blk_drew ?_ | refine blk_alloc ?_ _)); refine blk_far ?_ NB306_308.out _; (with_reducible repeat (first | refine blk_drewN ?_ _ | refine blk_drew ?_ | refine blk_alloc ?_ _)); refine blk_far ?_ NB306_308.out _; (with_reducible repeat (first | refine blk_drewN ?_ _ | refine blk_drew ?_ | refine blk_alloc ?_ _)); exact BK306.out⟩
              have n4_ : Aside0 ((((w13.setCell ⟨gb308, 0, none⟩ (.string ((rd_T30 l0_0 x9_1).f0))).setCell ⟨gb308, 1, none⟩ (.bool ((rd_T30 l0_0 x9_1).f1))).setCell ⟨gb308, 2, none⟩ (.slice A307_2 ((rd_T30 l0_0 x9_1).f2).length c307_2)).heap[gb308]? = some (.cells #[.string ((rd_T30 l0_0 x9_1).f0), .bool ((rd_T30 l0_0 x9_1).f1), .slice A307_2 ((rd_T30 l0_0 x9_1).f2).length c307_2] 30 (0, 0))) := ⟨by (with_reducible repeat (first | refine blk_drewN ?_ _ | refine blk_drew ?_ | refine blk_alloc ?_ _)); refine blk_put (cs := #[.string ((rd_T30 l0_0 x9_1).f0), .bool ((rd_T30 l0_0 x9_1).f1), .slice none 0 0]) ?_ 2 _ rfl; (with_reducible repeat (first | refine blk_drewN ?_ _ | refine blk_drew ?_ | refine blk_alloc ?_ _)); refine blk_put (cs := #[.string ((rd_T30 l0_0 x9_1).f0), .bool false, .slice none 0 0]) ?_ 1 _ rfl; (with_reducible repeat (first | refine blk_drewN ?_ _ | refine blk_drew ?_ | refine blk_alloc ?_ _)); refine blk_put (cs := #[.string (⟨#[]⟩ : ByteArray), .bool false, .slice none 0 0]) ?_ 0 _ rfl; (with_reducible repeat (first | refine blk_drewN ?_ _ | refine blk_drew ?_ | refine blk_alloc ?_ _)); exact BK308.out⟩
              have n5_ : Aside0 (Below w.heap.size w (((w13.setCell ⟨gb308, 0, none⟩ (.string ((rd_T30 l0_0 x9_1).f0))).setCell ⟨gb308, 1, none⟩ (.bool ((rd_T30 l0_0 x9_1).f1))).setCell ⟨gb308, 2, none⟩ (.slice A307_2 ((rd_T30 l0_0 x9_1).f2).length c307_2))) := ⟨by repeat (first | (with_reducible first | exact HB.out | apply below_alloc | apply pw_below_drewN | apply below_drew1 | refine below_set ?_ GE304.out | refine below_set ?_ GE305.out | refine below_set ?_ GE306.out | refine below_set ?_ GE308.out) | exact HB.out)⟩
              (try clear HO_307000)
              (try clear BK304)
              (try clear BK305)
              (try clear BK306)
              (try clear BK308)
              (try clear HB)
              generalize (((w13.setCell ⟨gb308, 0, none⟩ (.string ((rd_T30 l0_0 x9_1).f0))).setCell ⟨gb308, 1, none⟩ (.bool ((rd_T30 l0_0 x9_1).f1))).setCell ⟨gb308, 2, none⟩ (.slice A307_2 ((rd_T30 l0_0 x9_1).f2).length c307_2)) = w18 at n0_ n1_ n2_ n3_ n4_ n5_ ⊢
              have HO_307000 := n0_
              have BK304 := n1_
              have BK305 := n2_
              have BK306 := n3_
              have BK308 := n4_
              have HB := n5_
              clear n0_ n1_ n2_ n3_ n4_ n5_
              have n0_ := Aside0.mk (Kd.S_drew HO_307000.out)
              have n1_ := Aside0.mk (blk_drew BK304.out)
              have n2_ := Aside0.mk (blk_drew BK305.out)
              have n3_ := Aside0.mk (blk_drew BK306.out)
              have n4_ := Aside0.mk (blk_drew BK308.out)
              have n5_ := Aside0.mk (below_drew1 HB.out)
              clear HO_307000
              clear BK304
              clear BK305
              clear BK306
              clear BK308
              clear HB
              have HO_307000 := n0_
              have BK304 := n1_
              have BK305 := n2_
              have BK306 := n3_
              have BK308 := n4_
              have HB := n5_
              clear n0_ n1_ n2_ n3_ n4_ n5_
              refine start_ (n := 8) (S := fun w' => w'.cell? ⟨gb306, 0, none⟩ = some (u307000) ∧ w'.cell? ⟨gb308, 0, none⟩ = some (.string ((rd_T30 l0_0 x9_1).f0)) ∧ w'.cell? ⟨gb308, 1, none⟩ = some (.bool ((rd_T30 l0_0 x9_1).f1)) ∧ w'.cell? ⟨gb308, 2, none⟩ = some (.slice A307_2 ((rd_T30 l0_0 x9_1).f2).length c307_2)) (ds := [7]) #[false, false, false, false, false, false, false, false] (by kernel_rfl) rfl rfl ⟨(blk_cell BK306.out 0).trans rfl, (blk_cell BK308.out 0).trans rfl, (blk_cell BK308.out 1).trans rfl, (blk_cell BK308.out 2).trans rfl⟩ (fun hHeld => ?_); refine with_tabW tree_copied.tab5 tree_copied.bits5 (fun HT_ HW_ => ?_)
              generalize w18.drew = w19 at HO_307000 BK304 BK305 BK306 BK308 HB hHeld ⊢
              refine pure_ (i := 0) (N := some 13) (v := ?_) (a' := ?_) #[true, false, false, false, false, false, false, false] rfl rfl (any_of HT_.out (by kernel_rfl)) (fun _ _ _ h => h) (Or.inl ⟨by rfl, ?_⟩) ?_ ?_
              rotate_left
              · intro w'
                go_simp
                with_reducible rfl
              rotate_left
              · simp only [Act.put, List.setIfInBounds_toArray, List.set_cons_zero, List.set_cons_succ, i64_w, i32_w]
                rfl
              refine take_ (i := 1) (N := some 14) (v := ?_) (a' := ?_) #[true, true, false, false, false, false, false, false] rfl rfl (take_ofW HT_.out HW_.out (by kernel_rfl)) (fun _ _ _ h => h) (Or.inl ⟨by rfl, ?_⟩) hHeld ?_ ?_
              rotate_left
              · rintro w' ⟨s0, s1, s2, s3⟩
                go_simp
                with_reducible rfl
              rotate_left
              · simp only [Act.put, List.setIfInBounds_toArray, List.set_cons_zero, List.set_cons_succ, i64_w, i32_w]
                rfl
              refine take_ (i := 2) (N := some 15) (v := ?_) (a' := ?_) #[true, true, true, false, false, false, false, false] rfl rfl (take_ofW HT_.out HW_.out (by kernel_rfl)) (fun _ _ _ h => h) (Or.inl ⟨by rfl, ?_⟩) hHeld ?_ ?_
              rotate_left
              · rintro w' ⟨s0, s1, s2, s3⟩
                go_simp
                with_reducible rfl
              rotate_left
              · simp only [Act.put, List.setIfInBounds_toArray, List.set_cons_zero, List.set_cons_succ, i64_w, i32_w]
                rfl
              refine one_ (i := 3) (N := some 16) #[true, true, true, true, false, false, false, false] rfl rfl (one_of HT_.out (by kernel_rfl)) (by decide) (fun K hK => ?_)
              refine goes_ Tryd.func65 (by kernel_rfl) rfl #[.agg #[.string ((rd_T30 l0_0 x9_1).f0), .bool ((rd_T30 l0_0 x9_1).f1), .slice A307_2 ((rd_T30 l0_0 x9_1).f2).length c307_2]] (by rfl) rfl rfl (by (try simp only [List.map_toArray, List.map_cons, List.map_nil]); first | done | rfl | (simp only [List.length_drop, List.length_take]; rfl)) ?_
              with_reducible refine (tree_Entry_own.calls ((rd_T30 l0_0 x9_1).f0) ((rd_T30 l0_0 x9_1).f1) _ _ ((rd_T30 l0_0 x9_1).f2) t309 t310 t311 _ ?side1 ?side2 A11.out).mono ?_
              (case side1 => repeat (first | exact (Kd.C_below HR307_2.out HB.out) | (with_reducible refine Kd.C_alloc ?_ _) | (with_reducible refine Kd.C_drewN ?_ _) | (with_reducible refine Kd.C_drew ?_)))
              (case side2 => exact HC307_2.out)
              rintro e w20 ⟨v312, rfl, ho0, hb⟩
              refine ⟨_, rfl, ?_⟩
              have n0_ := Aside0.mk (Kd.S_elder' (by (with_reducible repeat (first | apply Kd.S_alloc | apply Kd.S_drewN | apply Kd.S_drew)); exact HO_307000.out) (Kd.R_base ho0) hb)
              have n1_ := Aside0.mk (Kd.R_lower ho0 (below_size (by repeat (first | (with_reducible first | exact HB.out | apply below_alloc | apply pw_below_drewN | apply below_drew1 | refine below_set ?_ GE304.out | refine below_set ?_ GE305.out | refine below_set ?_ GE306.out | refine below_set ?_ GE308.out) | exact HB.out))))
              have n2_ := Aside0.mk (blk_below (g := gb304) (o := .cells #[.slice (some ad307) l0_0.length c0_0] 26 (0, 0)) (by (with_reducible repeat (first | refine blk_drewN ?_ _ | refine blk_drew ?_ | refine blk_alloc ?_ _)); exact BK304.out) hb)
              have n3_ := Aside0.mk (blk_below (g := gb305) (o := .cells #[.slice none 0 0] 26 (0, 0)) (by (with_reducible repeat (first | refine blk_drewN ?_ _ | refine blk_drew ?_ | refine blk_alloc ?_ _)); exact BK305.out) hb)
              have n4_ := Aside0.mk (blk_below (g := gb306) (o := .cells #[u307000] 26 (0, 0)) (by (with_reducible repeat (first | refine blk_drewN ?_ _ | refine blk_drew ?_ | refine blk_alloc ?_ _)); exact BK306.out) hb)
              have n5_ := Aside0.mk (blk_below (g := gb308) (o := .cells #[.string ((rd_T30 l0_0 x9_1).f0), .bool ((rd_T30 l0_0 x9_1).f1), .slice A307_2 ((rd_T30 l0_0 x9_1).f2).length c307_2] 30 (0, 0)) (by (with_reducible repeat (first | refine blk_drewN ?_ _ | refine blk_drew ?_ | refine blk_alloc ?_ _)); exact BK308.out) hb)
              have n6_ := Aside0.mk (below_step (by repeat (first | (with_reducible first | exact HB.out | apply below_alloc | apply pw_below_drewN | apply below_drew1 | refine below_set ?_ GE304.out | refine below_set ?_ GE305.out | refine below_set ?_ GE306.out | refine below_set ?_ GE308.out) | exact HB.out)) hb)
              clear HO_307000
              clear BK304
              clear BK305
              clear BK306
              clear BK308
              clear HB
              have HO_307000 := n0_
              have HO313 := n1_
              have BK304 := n2_
              have BK305 := n3_
              have BK306 := n4_
              have BK308 := n5_
              have HB := n6_
              clear n0_ n1_ n2_ n3_ n4_ n5_ n6_
              (try clear hb)
              (try clear hb2)
              (try clear hk)
              (try clear hi)
              (try clear ho0)
              obtain ⟨Ao22, co22, eo22⟩ := Kd.R_slice HO313.out
              (first | subst eo22 | (injection eo22 with f1_ f2_ f3_; have f4_ := f1_.symm; have f5_ := f3_.symm; clear f1_ f2_ f3_; subst f4_; subst f5_))
              refine hK.out _ _ ⟨(blk_cell BK306.out 0).trans rfl, (blk_cell BK308.out 0).trans rfl, (blk_cell BK308.out 1).trans rfl, (blk_cell BK308.out 2).trans rfl⟩ (fun hHeld => ?_)
              clear hK K
              refine norm_ (a' := ?_) ?_ ?_
              rotate_left
              · show Act.put _ (some 16) _ = _
                simp only [Act.put, List.setIfInBounds_toArray, List.set_cons_zero, List.set_cons_succ, i64_w, i32_w]
                rfl
              refine one_ (i := 4) (N := some 17) #[true, true, true, true, true, false, false, false] rfl rfl (one_of HT_.out (by kernel_rfl)) (by decide) (fun K hK => ?_)
              refine value_ (w1 := ?_) (v := ?_) (by rfl) rfl ?_ ?_
              rotate_left 2
              · go_simp
                constructor
                · rfl
                · rfl
              refine hK.out _ _ ⟨(blk_cell (blk_alloc BK306.out _) 0).trans rfl, (blk_cell (blk_alloc BK308.out _) 0).trans rfl, (blk_cell (blk_alloc BK308.out _) 1).trans rfl, (blk_cell (blk_alloc BK308.out _) 2).trans rfl⟩ (fun hHeld => ?_)
              clear hK K
              refine norm_ (a' := ?_) ?_ ?_
              rotate_left
              · show Act.put _ (some 17) _ = _
                simp only [Act.put, List.setIfInBounds_toArray, List.set_cons_zero, List.set_cons_succ, i64_w, i32_w]
                rfl
              refine one_ (i := 5) (N := some 18) #[true, true, true, true, true, true, false, false] rfl rfl (one_of HT_.out (by kernel_rfl)) (by decide) (fun K hK => ?_)
              refine Kd.S_append_step k30 (w0 := w) w.heap.size (by rfl) (.tmp 14) (.tmp 17) 22 30 (.agg #[(.string ⟨#[]⟩), (.bool false), (.slice none 0 0)]) 48 rfl Tryd.underlying22 info30 rfl (by decide) (by omega) u307000 x307000_1 (⟨t309, t310, t311⟩ : S30) [.string t309, .bool t310, .slice Ao22 t311.length co22] (fun k_ => k_ ≠ gb308) (fun k_ => some k_ = (.slice Ao22 t311.length co22 : Value).ownBlock) rfl rfl ?aP (fun k_ hk_ => ((Kd.R_mono (ok' := fun k_ => ((fun k_ => k_ ≠ gb308)) k_ ∧ some k_ ≠ (u307000 : Value).ownBlock) (Kd.R_types (Kd.R_apart' (HO313.out) (Kd.S_typed HO_307000.out) (by decide)) BK308.out (by decide)) (fun k_ hk => ⟨hk.2, hk.1.2⟩))).1 k_ hk_.symm) ?aF ?aO ?aB ?aS ?aL ?_
              (case aP => exact k30_mkM _ _ _ (⟨t309, t310, t311⟩ : S30) (Kd.R_mono (Kd.R_tight rfl (Kd.R_mono (ok' := fun k_ => ((fun k_ => k_ ≠ gb308)) k_ ∧ some k_ ≠ (u307000 : Value).ownBlock) (Kd.R_types (Kd.R_apart' (HO313.out) (Kd.S_typed HO_307000.out) (by decide)) BK308.out (by decide)) (fun k_ hk => ⟨hk.2, hk.1.2⟩))) (fun _ h_ => h_)))
              (case aB => exact (by repeat (first | (with_reducible first | exact HB.out | apply below_alloc | apply pw_below_drewN | apply below_drew1 | refine below_set ?_ GE304.out | refine below_set ?_ GE305.out | refine below_set ?_ GE306.out | refine below_set ?_ GE308.out) | exact HB.out)))
              (case aF => exact (fun k_ hk => Kd.freshB (g := gb308) (o := .cells #[.string ((rd_T30 l0_0 x9_1).f0), .bool ((rd_T30 l0_0 x9_1).f1), .slice A307_2 ((rd_T30 l0_0 x9_1).f2).length c307_2] 30 (0, 0)) (by (with_reducible repeat (first | refine blk_drewN ?_ _ | refine blk_drew ?_ | refine blk_alloc ?_ _)); exact BK308.out) k_ hk))
              (case aO => exact (by (with_reducible repeat (first | apply Kd.S_alloc | apply Kd.S_drewN | apply Kd.S_drew)); exact Kd.S_mono HO_307000.out (fun k_ hk => ⟨hk.1, fun e_ => hk.2 e_⟩)))
              (case aS => exact (below_size (by repeat (first | (with_reducible first | exact HB.out | apply below_alloc | apply pw_below_drewN | apply below_drew1 | refine below_set ?_ GE304.out | refine below_set ?_ GE305.out | refine below_set ?_ GE306.out | refine below_set ?_ GE308.out) | exact HB.out))))
              (case aL => have := LMc12.out; omega)
              intro v315 w21 ho hb hg hat
              rw [← Ny314.out] at ho
              have n0_ := Aside0.mk (blk_grown (g := gb304) (o := .cells #[.slice (some ad307) l0_0.length c0_0] 26 (0, 0)) (by (with_reducible repeat (first | refine blk_drewN ?_ _ | refine blk_drew ?_ | refine blk_alloc ?_ _)); exact BK304.out) hg (Kd.S_ne HO_307000.out BK304.out (by decide)))
              have n1_ := Aside0.mk (blk_grown (g := gb305) (o := .cells #[.slice none 0 0] 26 (0, 0)) (by (with_reducible repeat (first | refine blk_drewN ?_ _ | refine blk_drew ?_ | refine blk_alloc ?_ _)); exact BK305.out) hg (Kd.S_ne HO_307000.out BK305.out (by decide)))
              have n2_ := Aside0.mk (blk_grown (g := gb306) (o := .cells #[u307000] 26 (0, 0)) (by (with_reducible repeat (first | refine blk_drewN ?_ _ | refine blk_drew ?_ | refine blk_alloc ?_ _)); exact BK306.out) hg (Kd.S_ne HO_307000.out BK306.out (by decide)))
              have n3_ := Aside0.mk (blk_grown (g := gb308) (o := .cells #[.string ((rd_T30 l0_0 x9_1).f0), .bool ((rd_T30 l0_0 x9_1).f1), .slice A307_2 ((rd_T30 l0_0 x9_1).f2).length c307_2] 30 (0, 0)) (by (with_reducible repeat (first | refine blk_drewN ?_ _ | refine blk_drew ?_ | refine blk_alloc ?_ _)); exact BK308.out) hg (Kd.S_away HO_307000.out (fun _ hk => hk.1)))
              have n4_ := Aside0.mk (hb)
              have n5_ := Aside0.mk (ho)
              clear BK304
              clear BK305
              clear BK306
              clear BK308
              clear HB
              clear HO_307000
              clear HO313
              have BK304 := n0_
              have BK305 := n1_
              have BK306 := n2_
              have BK308 := n3_
              have HB := n4_
              have HO316 := n5_
              clear n0_ n1_ n2_ n3_ n4_ n5_
              clear ho hb hg hat
              obtain ⟨Ao23, co23, eo23⟩ := Kd.S_slice HO316.out
              (first | subst eo23 | (injection eo23 with f1_ f2_ f3_; have f4_ := f1_.symm; have f5_ := f3_.symm; clear f1_ f2_ f3_; subst f4_; subst f5_))
              refine hK.out _ _ ⟨(blk_cell BK306.out 0).trans rfl, (blk_cell BK308.out 0).trans rfl, (blk_cell BK308.out 1).trans rfl, (blk_cell BK308.out 2).trans rfl⟩ (fun hHeld => ?_)
              clear hK K
              refine norm_ (a' := ?_) ?_ ?_
              rotate_left
              · show Act.put _ (some 18) _ = _
                simp only [Act.put, List.setIfInBounds_toArray, List.set_cons_zero, List.set_cons_succ, i64_w, i32_w]
                rfl
              refine pure_ (i := 6) (N := some 19) (v := ?_) (a' := ?_) #[true, true, true, true, true, true, true, false] rfl rfl (any_of HT_.out (by kernel_rfl)) (fun _ _ _ h => h) (Or.inl ⟨by rfl, ?_⟩) ?_ ?_
              rotate_left
              · intro w'
                go_simp
                with_reducible rfl
              rotate_left
              · simp only [Act.put, List.setIfInBounds_toArray, List.set_cons_zero, List.set_cons_succ, i64_w, i32_w]
                rfl
              refine last_ (i := 7) (N := none) #[true, true, true, true, true, true, true, true] rfl rfl (one_of HT_.out (by kernel_rfl)) (by decide) (fun K hK => ?_)
              have hs24 : w21.cell? ⟨gb306, 0, none⟩ = some (u307000) := (blk_cell BK306.out 0).trans rfl
              have hfs24 := blk_frozen BK306.out 0
              have hns24_0 := NB304_306.out
              have hns24_1 := NB305_306.out
              have hns24_3 := NB308_306.out
              have hms24_0 := NB306_304.out
              have hms24_1 := NB306_305.out
              have hms24_3 := NB306_308.out
              refine skip_ (w1 := ?_) (by rfl) rfl ?_ ?_
              rotate_left
              · go_simp
                rfl
              refine hK.out _ _ ?_
              clear hK K
              refine done_ (done_of HT_.out (by kernel_rfl)) ?_
              try go_wp2
              go_roundg k1
              case measure => have := HK1.out; omega
              case rel => exact ⟨(wrap64 (x9_1 + 1)), (y314), (.slice Ao23 y314.length co23), (by first | rfl | (simp; done) | (simp [*]; done)), H', ⟨by have := HK1.out; omega⟩, ⟨by (with_reducible repeat (first | apply Kd.S_alloc | apply Kd.S_drewN | apply Kd.S_drew)); exact Kd.S_mono (Kd.S_far (p := ⟨gb306, 0, none⟩) (Kd.S_types HO316.out BK306.out (by decide)) (fun _ hk => hk.2) (.slice Ao23 y314.length co23)) (fun _ hk => trivial)⟩, ⟨by (with_reducible repeat (first | refine blk_drewN ?_ _ | refine blk_drew ?_ | refine blk_alloc ?_ _)); refine blk_far ?_ NB304_306.out _; (with_reducible repeat (first | refine blk_drewN ?_ _ | refine blk_drew ?_ | refine blk_alloc ?_ _)); exact BK304.out⟩, ⟨by (with_reducible repeat (first | refine blk_drewN ?_ _ | refine blk_drew ?_ | refine blk_alloc ?_ _)); refine blk_far ?_ NB305_306.out _; (with_reducible repeat (first | refine blk_drewN ?_ _ | refine blk_drew ?_ | refine blk_alloc ?_ _)); exact BK305.out⟩, ⟨by (with_reducible repeat (first | refine blk_drewN ?_ _ | refine blk_drew ?_ | refine blk_alloc ?_ _)); refine blk_put (cs := #[u307000]) ?_ 0 _ rfl; (with_reducible repeat (first | refine blk_drewN ?_ _ | refine blk_drew ?_ | refine blk_alloc ?_ _)); exact BK306.out⟩, ⟨by repeat (first | (with_reducible first | exact HB.out | apply below_alloc | apply pw_below_drewN | apply below_drew1 | refine below_set ?_ GE304.out | refine below_set ?_ GE305.out | refine below_set ?_ GE306.out | refine below_set ?_ GE308.out) | exact HB.out)⟩⟩
            · rw [if_neg c12] at H
              exact absurd H (by simp)
          · rw [if_neg c10] at H
            exact absurd H (by simp)
        · rw [if_neg c9] at H
          exact absurd H (by simp)
      · rw [if_neg c8] at H
        have c8b0 : decide (x9_1 < (l0_0.length : Int)) = false := decide_eq_false c8
        clear c8
        obtain rfl := Option.some.inj H
        have hnb25 := NB306_304.out
        have hnc25 := NB304_306.out
        have hnb26 := NB306_305.out
        have hnc26 := NB305_306.out
        have hcz27_0 : wr.cell? ⟨gb306, 0, none⟩ = some (u307000) := (blk_cell BK306.out 0).trans rfl
        have hfz27_0 := blk_frozen BK306.out 0
        obtain ⟨Ao28, co28, eo28⟩ := Kd.S_slice HO_307000.out
        subst eo28
        have hnb29 := NB305_304.out
        have hnc29 := NB304_305.out
        have hcz30_0 : wr.cell? ⟨gb305, 0, none⟩ = some (.slice none 0 0) := (blk_cell BK305.out 0).trans rfl
        have hfz30_0 := blk_frozen BK305.out 0
        go_wp2
        refine bodyPost_ret (results_cell_row rfl _ _ gb305 26 #[.slice Ao28 x307000_1.length co28] (0, 0) _ rfl (by (with_reducible repeat (first | refine blk_drewN ?_ _ | refine blk_drew ?_ | refine blk_alloc ?_ _)); refine blk_put (cs := #[.slice none 0 0]) ?_ 0 _ rfl; (with_reducible repeat (first | refine blk_drewN ?_ _ | refine blk_drew ?_ | refine blk_alloc ?_ _)); exact BK305.out) Tryd.underlying26 rfl (by kernel_rfl)) rfl ?_
        exact ⟨_, by first | rfl | (simp [errW_none, errW_some] <;> rfl) | (simp [*, errW_none, errW_some] <;> rfl), by (with_reducible repeat (first | apply Kd.S_alloc | apply Kd.S_drewN | apply Kd.S_drew)); exact Kd.S_mono (Kd.S_far (p := ⟨gb305, 0, none⟩) (Kd.S_types HO_307000.out BK305.out (by decide)) (fun _ hk => hk.2) (.slice Ao28 x307000_1.length co28)) (fun _ hk => trivial), by repeat (first | (with_reducible first | exact HB.out | apply below_alloc | apply pw_below_drewN | apply below_drew1 | refine below_set ?_ GE304.out | refine below_set ?_ GE305.out | refine below_set ?_ GE306.out) | exact HB.out)⟩




end Go.Proofs.YtidlldfghkaeeaaDoor.P
