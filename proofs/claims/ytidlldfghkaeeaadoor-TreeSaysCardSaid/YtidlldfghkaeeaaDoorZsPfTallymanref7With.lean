/- Put together by pack2.py: PfTallymanref7With -/
import Derived.Test.YtidlldfghkaeeaaDoorZsRefNamesEtc
import Derived.Test.YtidlldfghkaeeaaDoorZsW0
namespace Go.Proofs.YtidlldfghkaeeaaDoor.P
open Go.RowKit Go.Proofs.YtidlldfghkaeeaaDoorW.PrintWords Go.Proofs.YtidlldfghkaeeaaDoorW.PrintLast Go.Proofs.YtidlldfghkaeeaaDoorW.PrintMore
attribute [local go_sem] max2_int min2_int max_two min_two max_three min_three max_four min_four   -- for this text's walks alone
set_option linter.unusedVariables false
set_option linter.unusedSimpArgs false
/-! ### tallymanref7_with: function 74 -/
mutual
def tallymanref7_with.l0 : Nat → List (S94) → List (S94) → Bool → Int → ByteArray → Bool → List Int → Option ((List (S94)))
 | 0, _, _, _, _, _, _, _ => none
 | k + 1, x0, x5, x6, x7, x252000, x252001, x252002 => if x7 < (x0.length : Int) then (if x6 = true then (tallymanref7_with.j1 k x0 x5 x6 x7 false x252000 x252001 x252002) else (if 0 ≤ x7 then ((tallymanref7_Cmp.f ((rd_T94 x0 x7).f0) x252000).bind fun t256 => (tallymanref7_with.j1 k x0 x5 x6 x7 (decide (t256 ≥ 0)) x252000 x252001 x252002)) else (none))) else (if x6 = true then (some x5) else (if x5.length < 2932031007402 then (some (x5 ++ [(⟨x252000, x252001, x252002⟩ : S94)])) else (none)))
def tallymanref7_with.j1 : Nat → List (S94) → List (S94) → Bool → Int → Bool → ByteArray → Bool → List Int → Option ((List (S94)))
 | 0, _, _, _, _, _, _, _, _ => none
 | k + 1, x0, x5, x6, x7, x26, x252000, x252001, x252002 => if x26 = true then (if x5.length < 2932031007402 then ((some (x5 ++ [(⟨x252000, x252001, x252002⟩ : S94)] : List (S94))).bind fun y257 => (if 0 ≤ x7 then (if x7 < (x0.length : Int) then (if ((rd_T94 x0 x7).f0).toList = x252000.toList then (tallymanref7_with.l0 k x0 y257 true (wrap64 (x7 + 1)) x252000 x252001 x252002) else (if y257.length < 2932031007402 then (tallymanref7_with.l0 k x0 (y257 ++ [(⟨(rd_T94 x0 x7).f0, (rd_T94 x0 x7).f1, (rd_T94 x0 x7).f2⟩ : S94)]) true (wrap64 (x7 + 1)) x252000 x252001 x252002) else (none))) else (none)) else (none))) else (none)) else (if 0 ≤ x7 then (if x7 < (x0.length : Int) then (if ((rd_T94 x0 x7).f0).toList = x252000.toList then (tallymanref7_with.l0 k x0 x5 x6 (wrap64 (x7 + 1)) x252000 x252001 x252002) else (if x5.length < 2932031007402 then (tallymanref7_with.l0 k x0 (x5 ++ [(⟨(rd_T94 x0 x7).f0, (rd_T94 x0 x7).f1, (rd_T94 x0 x7).f2⟩ : S94)]) x6 (wrap64 (x7 + 1)) x252000 x252001 x252002) else (none))) else (none)) else (none))
end
def tallymanref7_with.f (k : Nat) (l0 : List (S94)) (a1_0 : ByteArray) (a1_1 : Bool) (l1_2 : List Int) : Option ((List (S94))) := tallymanref7_with.l0 k l0 ([] : List (S94)) false 0 a1_0 a1_1 l1_2
def tallymanref7_with.T6 : Bool × List (List Nat × List Nat) := (true, [([], []), ([0], [0]), ([1], [1]), ([2], [2]), ([2], [2]), ([3, 4, 2], [2, 3, 4]), ([5, 2], [2, 5]), ([6, 2], [2, 6]), ([2], [2]), ([8, 2], [2, 8]), ([7, 9, 2, 2], [2, 7, 9]), ([10, 2], [2, 10]), ([2, 11], [2, 11])])
def tallymanref7_with.B6 : List Nat := [0, 1, 3, 7, 7, 31, 63, 127, 7, 263, 1023, 2047, 4095]
theorem tallymanref7_with.tab6 : rtab .any (opsOf Tryd.f74 6) = tallymanref7_with.T6 := by kernel_rfl
theorem tallymanref7_with.bits6 : waitsOk tallymanref7_with.T6.2 tallymanref7_with.B6 = true := by kernel_rfl
def tallymanref7_with.T9 : Bool × List (List Nat × List Nat) := (true, [([], []), ([], []), ([0, 1], [0, 1]), ([2], [2]), ([3], [3]), ([], []), ([5], [5]), ([4, 6], [4, 6])])
def tallymanref7_with.B9 : List Nat := [0, 0, 3, 7, 15, 0, 32, 127]
theorem tallymanref7_with.tab9 : rtab .any (opsOf Tryd.f74 9) = tallymanref7_with.T9 := by kernel_rfl
theorem tallymanref7_with.bits9 : waitsOk tallymanref7_with.T9.2 tallymanref7_with.B9 = true := by kernel_rfl
set_option maxHeartbeats 8000000 in
set_option maxRecDepth 100000 in
theorem tallymanref7_with.calls (k : Nat) (P0_ : Nat → Prop) (A0 : Option Addr) (c0 : Nat) (l0 : List (S94)) (a1_0 : ByteArray) (a1_1 : Bool) (P1_2_ : Nat → Prop) (A1_2 : Option Addr) (c1_2 : Nat) (l1_2 : List Int) (r : List (S94)) (w : World) (hs0 : Kd.V k94 94 w w.heap.size (fun k_ => P0_ k_) (.slice A0 l0.length c0) l0) (hs1_2 : Kd.V (Kd.int .u8) 5 w w.heap.size (fun k_ => P1_2_ k_) (.slice A1_2 l1_2.length c1_2) l1_2) (h : tallymanref7_with.f k l0 a1_0 a1_1 l1_2 = some r) :
  Calls Tryd.prog 74 #[.slice A0 l0.length c0, .agg #[.string a1_0, .bool a1_1, .slice A1_2 l1_2.length c1_2]] w fun e w' => ∃ v0_ : Value, e = .returned (v0_) ∧ Kd.N k94 94 w' w.heap.size (fun k_ => ((P0_ k_ ∨ P1_2_ k_) ∨ w.heap.size ≤ k_)) v0_ r ∧ Below w.heap.size w w' := by
 have hu94 := Tryd.underlying94
 have HO0 := xa_ (show Kd.V k94 94 w w.heap.size (fun k_ => ((P0_ k_ ∨ P1_2_ k_) ∨ w.heap.size ≤ k_)) (.slice A0 l0.length c0) l0 from Kd.V_mono hs0 (fun k_ hk => .inl (.inl hk)))
 have HO1_2 := xa_ (show Kd.V (Kd.int .u8) 5 w w.heap.size (fun k_ => ((P0_ k_ ∨ P1_2_ k_) ∨ w.heap.size ≤ k_)) (.slice A1_2 l1_2.length c1_2) l1_2 from Kd.V_mono hs1_2 (fun k_ hk => .inl (.inr hk)))
 have HB := xa_ (Below.refl w.heap.size w)
 have H : (tallymanref7_with.l0 k l0 ([] : List (S94)) false 0 a1_0 a1_1 l1_2) = some r := h
 clear h
 have H' := Aside0.mk H
 clear H
 go_enter Tryd.func74, Tryd.ntmps74
 go_wp2_with (first | ((with_reducible refine gate_dst (N := 3) rfl ?_); refine box_event ?hg (N := 3) ?hd (cs := #[.string a1_0, .bool a1_1, .slice A1_2 l1_2.length c1_2]) (t := 94) ?hr ?_; (case hd => rfl); (case hg => rfl); (case hr => first | (go_simp; done) | (go_simp; rfl)); intro gb251 hg w3 hbox hb; have n0_ := xa_ (Kd.V_below (Kd.V_elderB (xV_ HO0.out) gb251 (Nat.le_of_eq hg.symm)) hb); have n1_ := xa_ (Kd.V_below (Kd.V_elderB (xV_ HO1_2.out) gb251 (Nat.le_of_eq hg.symm)) hb); have n2_ := xa_ (below_step (by repeat (first | (with_reducible first | exact HB.out | apply below_alloc | apply pw_below_drewN | apply below_drew1) | exact HB.out)) hb); have n3_ := xa_ (hbox); have n4_ := xa_ ((by rw [hg]; exact (below_size (by repeat (first | (with_reducible first | exact HB.out | apply below_alloc | apply pw_below_drewN | apply below_drew1) | exact HB.out))) : w.heap.size ≤ gb251)); have n5_ := xa_ ((by rw [hg]; exact (below_size (by repeat (first | (with_reducible first | exact HB.out | apply below_alloc | apply pw_below_drewN | apply below_drew1) | exact HB.out))) : w.heap.size ≤ gb251)); clear HO0; clear HO1_2; clear HB; have HO0 := n0_; have HO1_2 := n1_; have HB := n2_; have BK251 := n3_; have GW251 := n4_; have GE251 := n5_; clear n0_ n1_ n2_ n3_ n4_ n5_; clear hb hbox hg))
 go_loopg [5, 6, 7] k (fun kq v5 v6 v7 w' => ∃ (x5_1 : List (S94)) (x6_1 : Bool) (x7_1 : Int), v6 = .bool x6_1 ∧ v7 = .int .i64 x7_1 ∧ Aside0 (tallymanref7_with.l0 kq l0 x5_1 x6_1 x7_1 a1_0 a1_1 l1_2 = some r) ∧ Aside0 (kq ≤ k) ∧ Aside0 (Kd.V k94 94 w' w.heap.size (fun k_ => ((P0_ k_ ∨ P1_2_ k_) ∨ w.heap.size ≤ k_) ∧ some k_ ≠ (v5 : Value).ownBlock ∧ k_ ≠ gb251) (.slice A0 l0.length c0) l0) ∧ Aside0 (Kd.N k94 94 w' w.heap.size (fun k_ => ((P0_ k_ ∨ P1_2_ k_) ∨ w.heap.size ≤ k_) ∧ k_ ≠ gb251) v5 x5_1) ∧ Aside0 (Kd.V (Kd.int .u8) 5 w' w.heap.size (fun k_ => ((P0_ k_ ∨ P1_2_ k_) ∨ w.heap.size ≤ k_) ∧ some k_ ≠ (v5 : Value).ownBlock ∧ k_ ≠ gb251) (.slice A1_2 l1_2.length c1_2) l1_2) ∧ Aside0 (w'.heap[gb251]? = some (.cells #[.string a1_0, .bool a1_1, (.slice A1_2 l1_2.length c1_2)] 94 (0, 0))) ∧ Aside0 (Below w.heap.size w w'))
 case atStart => exact ⟨(([] : List (S94))), (false), (0), (by first | rfl | (simp; done) | (simp [*]; done)), (by first | rfl | (simp; done) | (simp [*]; done)), H', ⟨Nat.le_refl _⟩, ⟨by (with_reducible repeat (first | apply Kd.V_alloc | apply Kd.V_drewN | apply Kd.V_drew)); exact Kd.V_mono HO0.out (fun _ hk => ⟨hk.1, ⟨(by simp [Value.ownBlock]), hk.2⟩⟩)⟩, ⟨by first | exact Kd.S_nil _ _ _ _ _ | exact Kd.N_nil _ _ _ _ _ | exact Kd.V_nil _ _ _ _ _ | exact Kd.Q_nil _ _ _ _ _ | exact Kd.R_nil _ _ _ _ _⟩, ⟨by (with_reducible repeat (first | apply Kd.V_alloc | apply Kd.V_drewN | apply Kd.V_drew)); exact Kd.V_mono HO1_2.out (fun _ hk => ⟨hk.1, ⟨(by simp [Value.ownBlock]), hk.2⟩⟩)⟩, ⟨by (with_reducible repeat (first | refine blk_drewN ?_ _ | refine blk_drew ?_ | refine blk_alloc ?_ _)); exact BK251.out⟩, ⟨by repeat (first | (with_reducible first | exact HB.out | apply below_alloc | apply pw_below_drewN | apply below_drew1 | refine below_set ?_ GE251.out) | exact HB.out)⟩⟩
 case round =>
  clear H'
  try clear c1
  try clear p2
  obtain ⟨x5_1, x6_1, x7_1, rfl, rfl, HA, HK1, HO_0, HO_5, HO_252002, BK251, HB⟩ := hrel
  cases gk with
  | zero => exact absurd HA.out (by simp [tallymanref7_with.l0])
  | succ k1 =>
   have H := HA.out
   clear HA
   simp only [tallymanref7_with.l0] at H
   by_cases c4 : x7_1 < (l0.length : Int)
   ·rw [if_pos c4] at H
    have c4b0 : decide (x7_1 < (l0.length : Int)) = true := decide_eq_true c4
    clear c4
    have HC5 := Aside0.mk H
    clear H
    go_upto_region 6 with (fail)
    go_cut [26] (fun v26 wc => ∃ (kq : Nat) (x26_4 : Bool), v26 = .bool x26_4 ∧ Aside0 (tallymanref7_with.j1 kq l0 x5_1 x6_1 x7_1 x26_4 a1_0 a1_1 l1_2 = some r) ∧ Aside0 (kq ≤ k1) ∧ Aside0 (Kd.V k94 94 wc w.heap.size (fun k_ => ((P0_ k_ ∨ P1_2_ k_) ∨ w.heap.size ≤ k_) ∧ some k_ ≠ (u5 : Value).ownBlock ∧ k_ ≠ gb251) (.slice A0 l0.length c0) l0) ∧ Aside0 (Kd.N k94 94 wc w.heap.size (fun k_ => ((P0_ k_ ∨ P1_2_ k_) ∨ w.heap.size ≤ k_) ∧ k_ ≠ gb251) u5 x5_1) ∧ Aside0 (Kd.V (Kd.int .u8) 5 wc w.heap.size (fun k_ => ((P0_ k_ ∨ P1_2_ k_) ∨ w.heap.size ≤ k_) ∧ some k_ ≠ (u5 : Value).ownBlock ∧ k_ ≠ gb251) (.slice A1_2 l1_2.length c1_2) l1_2) ∧ Aside0 (wc.heap[gb251]? = some (.cells #[.string a1_0, .bool a1_1, (.slice A1_2 l1_2.length c1_2)] 94 (0, 0))) ∧ Aside0 (Below w.heap.size w wc))
    case first =>
     have H := HC5.out
     clear HC5
     by_cases c6 : x6_1 = true
     ·subst c6
      have H1 : (tallymanref7_with.j1 k1 l0 x5_1 true x7_1 false a1_0 a1_1 l1_2) = some r := by rw [if_pos rfl] at H; exact H
      clear H
      have H := H1
      clear H1
      have H' := Aside0.mk H
      clear H
      try go_wp2
      have n0_ := xa_ (Kd.V_drew HO_0.out)
      have n1_ := xa_ (Kd.N_drew HO_5.out)
      have n2_ := xa_ (Kd.V_drew HO_252002.out)
      have n3_ := xa_ (blk_drew BK251.out)
      have n4_ := xa_ (below_drew1 HB.out)
      clear HO_0
      clear HO_5
      clear HO_252002
      clear BK251
      clear HB
      have HO_0 := n0_
      have HO_5 := n1_
      have HO_252002 := n2_
      have BK251 := n3_
      have HB := n4_
      clear n0_ n1_ n2_ n3_ n4_
      refine start_ (n := 13) (S := fun w' => True) (ds := []) (bs_ 13 0x0) (by kernel_rfl) rfl rfl trivial (fun hHeld => ?_); refine with_tabW tallymanref7_with.tab6 tallymanref7_with.bits6 (fun HT_ HW_ => ?_)
      generalize wr.drew = w7 at HO_0 HO_5 HO_252002 BK251 HB hHeld ⊢
      refine pure_ (i := 0) (N := some 14) (v := ?_) (a' := ?_) (bs_ 13 0x1) rfl rfl (any_of HT_.out (by kernel_rfl)) (fun _ _ _ h => h) (Or.inl ⟨by rfl, ?_⟩) ?_ ?_; rotate_left; (intro w'; go_simp; with_reducible rfl); rotate_left; (simp only [nm_]; rfl)
      refine pure_ (i := 1) (N := some 15) (v := ?_) (a' := ?_) (bs_ 13 0x3) rfl rfl (any_of HT_.out (by kernel_rfl)) (fun _ _ _ h => h) (Or.inl ⟨by rfl, ?_⟩) ?_ ?_; rotate_left; (intro w'; go_simp; with_reducible rfl); rotate_left; (simp only [nm_]; rfl)
      refine pure_ (i := 2) (N := some 16) (v := ?_) (a' := ?_) (bs_ 13 0x7) rfl rfl (any_of HT_.out (by kernel_rfl)) (fun _ _ _ h => h) (Or.inl ⟨by rfl, ?_⟩) ?_ ?_; rotate_left; (intro w'; go_simp; with_reducible rfl); rotate_left; (simp only [nm_]; rfl)
      refine pure_ (i := 3) (N := some 17) (v := undef) (a' := ?_) (bs_ 13 0xf) rfl rfl (any_of HT_.out (by kernel_rfl)) (fun _ _ _ h => h) (Or.inr ⟨by rfl, rfl⟩) ?_ ?_
      rotate_left
      ·simp only [nm_]
       rfl
      refine pure_ (i := 4) (N := some 18) (v := undef) (a' := ?_) (bs_ 13 0x1f) rfl rfl (any_of HT_.out (by kernel_rfl)) (fun _ _ _ h => h) (Or.inr ⟨by rfl, rfl⟩) ?_ ?_
      rotate_left
      ·simp only [nm_]
       rfl
      refine pure_ (i := 5) (N := some 19) (v := undef) (a' := ?_) (bs_ 13 0x3f) rfl rfl (any_of HT_.out (by kernel_rfl)) (fun _ _ _ h => h) (Or.inr ⟨by rfl, rfl⟩) ?_ ?_
      rotate_left
      ·simp only [nm_]
       rfl
      refine pure_ (i := 6) (N := some 20) (v := undef) (a' := ?_) (bs_ 13 0x7f) rfl rfl (any_of HT_.out (by kernel_rfl)) (fun _ _ _ h => h) (Or.inr ⟨by rfl, rfl⟩) ?_ ?_
      rotate_left
      ·simp only [nm_]
       rfl
      refine pure_ (i := 7) (N := some 21) (v := undef) (a' := ?_) (bs_ 13 0xff) rfl rfl (any_of HT_.out (by kernel_rfl)) (fun _ _ _ h => h) (Or.inr ⟨by rfl, rfl⟩) ?_ ?_
      rotate_left
      ·simp only [nm_]
       rfl
      refine pure_ (i := 8) (N := some 22) (v := undef) (a' := ?_) (bs_ 13 0x1ff) rfl rfl (any_of HT_.out (by kernel_rfl)) (fun _ _ _ h => h) (Or.inr ⟨by rfl, rfl⟩) ?_ ?_
      rotate_left
      ·simp only [nm_]
       rfl
      refine pure_ (i := 9) (N := some 23) (v := undef) (a' := ?_) (bs_ 13 0x3ff) rfl rfl (any_of HT_.out (by kernel_rfl)) (fun _ _ _ h => h) (Or.inr ⟨by rfl, rfl⟩) ?_ ?_
      rotate_left
      ·simp only [nm_]
       rfl
      refine pure_ (i := 10) (N := some 24) (v := undef) (a' := ?_) (bs_ 13 0x7ff) rfl rfl (any_of HT_.out (by kernel_rfl)) (fun _ _ _ h => h) (Or.inr ⟨by rfl, rfl⟩) ?_ ?_
      rotate_left
      ·simp only [nm_]
       rfl
      refine pure_ (i := 11) (N := some 25) (v := undef) (a' := ?_) (bs_ 13 0xfff) rfl rfl (any_of HT_.out (by kernel_rfl)) (fun _ _ _ h => h) (Or.inr ⟨by rfl, rfl⟩) ?_ ?_
      rotate_left
      ·simp only [nm_]
       rfl
      refine pure_ (i := 12) (N := some 26) (v := ?_) (a' := ?_) (bs_ 13 0x1fff) rfl rfl (any_of HT_.out (by kernel_rfl)) (fun _ _ _ h => h) (Or.inl ⟨by rfl, ?_⟩) ?_ ?_; rotate_left; (intro w'; go_simp; with_reducible rfl); rotate_left; (simp only [nm_]; rfl)
      refine done_ (done_of HT_.out (by kernel_rfl)) ?_
      try go_wp2
      go_meet
      case rel => exact ⟨_, (false), (by first | rfl | (simp; done) | (simp [*]; done)), H', ⟨by have := HK1.out; first | omega | exact Nat.le_refl _⟩, ⟨by (with_reducible repeat (first | apply Kd.V_alloc | apply Kd.V_drewN | apply Kd.V_drew)); exact HO_0.out⟩, ⟨by (with_reducible repeat (first | apply Kd.N_alloc | apply Kd.N_drewN | apply Kd.N_drew)); exact HO_5.out⟩, ⟨by (with_reducible repeat (first | apply Kd.V_alloc | apply Kd.V_drewN | apply Kd.V_drew)); exact HO_252002.out⟩, ⟨by (with_reducible repeat (first | refine blk_drewN ?_ _ | refine blk_drew ?_ | refine blk_alloc ?_ _)); exact BK251.out⟩, ⟨by repeat (first | (with_reducible first | exact HB.out | apply below_alloc | apply pw_below_drewN | apply below_drew1 | refine below_set ?_ GE251.out) | exact HB.out)⟩⟩
     ·replace c6 := Bool.eq_false_iff.mpr c6
      subst c6
      have H1 : (if 0 ≤ x7_1 then ((tallymanref7_Cmp.f ((rd_T94 l0 x7_1).f0) a1_0).bind fun t256 => (tallymanref7_with.j1 k1 l0 x5_1 false x7_1 (decide (t256 ≥ 0)) a1_0 a1_1 l1_2)) else (none)) = some r := by rw [if_neg (show ¬ (false = true) by decide)] at H; exact H
      clear H
      have H := H1
      clear H1
      by_cases c8 : 0 ≤ x7_1
      ·rw [if_pos c8] at H
       have c8b0 : decide (0 ≤ x7_1) = true := decide_eq_true c8
       clear c8
       (first | rw [c8b0] | (simp only [i64_w, i32_w]; rw [c8b0]) | skip)
       replace H := Option.bind_eq_some_iff.mp H
       obtain ⟨t256, A90, H⟩ := H
       replace H : (tallymanref7_with.j1 k1 l0 x5_1 false x7_1 (decide (t256 ≥ 0)) a1_0 a1_1 l1_2) = some r := H
       have A9 := Aside0.mk A90
       clear A90
       have H' := Aside0.mk H
       clear H
       try go_wp2
       have n0_ := xa_ (Kd.V_drew HO_0.out)
       have n1_ := xa_ (Kd.N_drew HO_5.out)
       have n2_ := xa_ (Kd.V_drew HO_252002.out)
       have n3_ := xa_ (blk_drew BK251.out)
       have n4_ := xa_ (below_drew1 HB.out)
       clear HO_0
       clear HO_5
       clear HO_252002
       clear BK251
       clear HB
       have HO_0 := n0_
       have HO_5 := n1_
       have HO_252002 := n2_
       have BK251 := n3_
       have HB := n4_
       clear n0_ n1_ n2_ n3_ n4_
       have p255 : 0 ≤ (x7_1 : Int) := of_decide_eq_true (by first | (with_reducible assumption) | assumption)
       have q255 : x7_1 < (l0.length : Int) := of_decide_eq_true (by first | (with_reducible assumption) | assumption)
       obtain ⟨ad255, A255_2, c255_2, e255, hx255_0, hx255_1, hx255_2, hl255_2, hi255_2⟩ := at_T94 (Kd.V_reads' HO_0.out).2.2 x7_1 p255 q255
       cases e255
       obtain ⟨ce255, hce255, hMe255, hcc255⟩ := Kd.V_get HO_0.out z94 x7_1 p255 (by first | exact q255 | exact of_decide_eq_true (by first | (with_reducible assumption) | assumption) | (have e_ := (Kd.V_reads' HO_0.out).1; omega))
       obtain ⟨ua255_2, uc255_2, rfl, ul255_2, ge255_2⟩ := k94_openF hMe255
       have hv255_2 := hcc255 2 _ rfl
       rw [add_field _ _ 2 (by omega)] at hv255_2
       replace hv255_2 := Option.some.inj (hv255_2.symm.trans hx255_2)
       injection hv255_2 with hva_ hvn_ hvc_
       rw [hva_] at ge255_2
       rw [hvc_] at ul255_2
       have HL255_2 := xa_ (show Kd.V (Kd.int .u8) 5 _ w.heap.size _ _ ((rd_T94 l0 x7_1).f2) from Kd.V_mk ul255_2 ge255_2)
       clear hva_ hvn_ hvc_ ge255_2 ul255_2
       clear hcc255 hce255
       have HR255_2 := Aside0.mk hi255_2
       have HC255_2 := Aside0.mk hl255_2
       clear hi255_2 hl255_2
       replace p255 := eq_true p255
       replace q255 := eq_true q255
       refine start_ (n := 13) (S := fun w' => w'.cell? ⟨gb251, 0, none⟩ = some (.string a1_0) ∧ w'.cell? ⟨gb251, 1, none⟩ = some (.bool a1_1) ∧ w'.cell? ⟨gb251, 2, none⟩ = some (.slice A1_2 l1_2.length c1_2) ∧ w'.cell? (ad255.add ((x7_1).toNat * 3)) = some (.string ((rd_T94 l0 x7_1).f0)) ∧ w'.cell? ⟨(ad255.add ((x7_1).toNat * 3)).block, (ad255.add ((x7_1).toNat * 3)).off + 1, none⟩ = some (.bool ((rd_T94 l0 x7_1).f1)) ∧ w'.cell? ⟨(ad255.add ((x7_1).toNat * 3)).block, (ad255.add ((x7_1).toNat * 3)).off + 2, none⟩ = some (.slice A255_2 ((rd_T94 l0 x7_1).f2).length c255_2)) (ds := []) (bs_ 13 0x0) (by kernel_rfl) rfl rfl ⟨(blk_cell BK251.out 0).trans rfl, (blk_cell BK251.out 1).trans rfl, (blk_cell BK251.out 2).trans rfl, hx255_0, hx255_1, hx255_2⟩ (fun hHeld => ?_); refine with_tabW tallymanref7_with.tab6 tallymanref7_with.bits6 (fun HT_ HW_ => ?_)
       generalize wr.drew = w10 at HO_0 HO_5 HO_252002 BK251 HB HL255_2 HR255_2 hx255_0 hx255_1 hx255_2 hHeld ⊢
       refine pure_ (i := 0) (N := some 14) (v := ?_) (a' := ?_) (bs_ 13 0x1) rfl rfl (any_of HT_.out (by kernel_rfl)) (fun _ _ _ h => h) (Or.inl ⟨by rfl, ?_⟩) ?_ ?_; rotate_left; (intro w'; go_simp; with_reducible rfl); rotate_left; (simp only [nm_]; rfl)
       refine pure_ (i := 1) (N := some 15) (v := ?_) (a' := ?_) (bs_ 13 0x3) rfl rfl (any_of HT_.out (by kernel_rfl)) (fun _ _ _ h => h) (Or.inl ⟨by rfl, ?_⟩) ?_ ?_; rotate_left; (intro w'; go_simp; with_reducible rfl); rotate_left; (simp only [nm_]; rfl)
       refine pure_ (i := 2) (N := some 16) (v := ?_) (a' := ?_) (bs_ 13 0x7) rfl rfl (any_of HT_.out (by kernel_rfl)) (fun _ _ _ h => h) (Or.inl ⟨by rfl, ?_⟩) ?_ ?_; rotate_left; (intro w'; go_simp; with_reducible rfl); rotate_left; (simp only [nm_]; rfl)
       refine pure_ (i := 3) (N := some 17) (v := ?_) (a' := ?_) (bs_ 13 0xf) rfl rfl (any_of HT_.out (by kernel_rfl)) (fun _ _ _ h => h) (Or.inl ⟨by rfl, ?_⟩) ?_ ?_; rotate_left; (intro w'; go_simp; with_reducible rfl); rotate_left; (simp only [nm_]; rfl)
       refine pure_ (i := 4) (N := some 18) (v := ?_) (a' := ?_) (bs_ 13 0x1f) rfl rfl (any_of HT_.out (by kernel_rfl)) (fun _ _ _ h => h) (Or.inl ⟨by rfl, ?_⟩) ?_ ?_; rotate_left; (intro w'; go_simp; with_reducible rfl); rotate_left; (simp only [nm_]; rfl)
       refine pure_ (i := 5) (N := some 19) (v := ?_) (a' := ?_) (bs_ 13 0x3f) rfl rfl (any_of HT_.out (by kernel_rfl)) (fun _ _ _ h => h) (Or.inl ⟨by rfl, ?_⟩) ?_ ?_; rotate_left; (intro w'; go_simp; with_reducible rfl); rotate_left; (simp only [nm_]; rfl)
       refine pure_ (i := 6) (N := some 20) (v := ?_) (a' := ?_) (bs_ 13 0x7f) rfl rfl (any_of HT_.out (by kernel_rfl)) (fun _ _ _ h => h) (Or.inl ⟨by rfl, ?_⟩) ?_ ?_; rotate_left; (intro w'; go_simp; with_reducible rfl); rotate_left; (simp only [nm_]; rfl)
       refine pure_ (i := 8) (N := some 22) (v := ?_) (a' := ?_) (bs_ 13 0x17f) rfl rfl (any_of HT_.out (by kernel_rfl)) (fun _ _ _ h => h) (Or.inl ⟨by rfl, ?_⟩) ?_ ?_; rotate_left; (intro w'; go_simp; with_reducible rfl); rotate_left; (simp only [nm_]; rfl)
       refine take_ (i := 7) (N := some 21) (v := ?_) (a' := ?_) (bs_ 13 0x1ff) rfl rfl (take_ofW HT_.out HW_.out (by kernel_rfl)) (fun _ _ _ h => h) (Or.inl ⟨by rfl, ?_⟩) hHeld ?_ ?_; rotate_left; (rintro w' ⟨s0, s1, s2, s3, s4, s5⟩; go_simp; with_reducible rfl); rotate_left; (simp only [nm_]; rfl)
       refine take_ (i := 9) (N := some 23) (v := ?_) (a' := ?_) (bs_ 13 0x3ff) rfl rfl (take_ofW HT_.out HW_.out (by kernel_rfl)) (fun _ _ _ h => h) (Or.inl ⟨by rfl, ?_⟩) hHeld ?_ ?_; rotate_left; (rintro w' ⟨s0, s1, s2, s3, s4, s5⟩; go_simp; with_reducible rfl); rotate_left; (simp only [nm_]; rfl)
       refine one_ (i := 10) (N := some 24) (bs_ 13 0x7ff) rfl rfl (one_of HT_.out (by kernel_rfl)) (by decide) (fun K hK => ?_)
       refine goes_ Tryd.func52 (by kernel_rfl) rfl #[.string ((rd_T94 l0 x7_1).f0), .string a1_0] (by rfl) rfl rfl (by (try simp only [List.map_toArray, List.map_cons, List.map_nil]); first | done | rfl | (simp only [List.length_drop, List.length_take]; rfl)) ?_
       with_reducible refine (tallymanref7_Cmp.calls ((rd_T94 l0 x7_1).f0) a1_0 t256 _ A9.out).mono ?_
       rintro e w11 ⟨rfl, hb⟩
       have HS3_ := (hb.cell (World.block_lt_of_cell? _ _ (hHeld.2.2.2.1))).trans (hHeld.2.2.2.1)
       have HS4_ := (hb.cell (World.block_lt_of_cell? _ _ (hHeld.2.2.2.2.1))).trans (hHeld.2.2.2.2.1)
       have HS5_ := (hb.cell (World.block_lt_of_cell? _ _ (hHeld.2.2.2.2.2))).trans (hHeld.2.2.2.2.2)
       refine ⟨_, rfl, ?_⟩
       have n0_ := xa_ (Kd.V_below (xV_ HO_0.out) hb)
       have n1_ := xa_ (Kd.N_below (xN_ HO_5.out) hb)
       have n2_ := xa_ (Kd.V_below (xV_ HO_252002.out) hb)
       have n3_ := xa_ (Kd.V_below (xV_ HL255_2.out) hb)
       have n4_ := xa_ (blk_below (xb_ BK251.out) hb)
       have n5_ := xa_ (Kd.C_below (by repeat (first | (with_reducible exact HR255_2.out) | (with_reducible refine Kd.C_alloc ?_ _) | (with_reducible refine Kd.C_drewN ?_ _) | (with_reducible refine Kd.C_drew ?_) | exact HR255_2.out)) hb)
       have n6_ := xa_ (below_step (by repeat (first | (with_reducible first | exact HB.out | apply below_alloc | apply pw_below_drewN | apply below_drew1 | refine below_set ?_ GE251.out) | exact HB.out)) hb)
       clear HO_0
       clear HO_5
       clear HO_252002
       clear HL255_2
       clear BK251
       clear HR255_2
       clear HB
       have HO_0 := n0_
       have HO_5 := n1_
       have HO_252002 := n2_
       have HL255_2 := n3_
       have BK251 := n4_
       have HR255_2 := n5_
       have HB := n6_
       clear n0_ n1_ n2_ n3_ n4_ n5_ n6_
       (try clear hb)
       (try clear hb2)
       (try clear hk)
       (try clear hi)
       refine hK.out _ _ ⟨(blk_cell BK251.out 0).trans rfl, (blk_cell BK251.out 1).trans rfl, (blk_cell BK251.out 2).trans rfl, HS3_, HS4_, HS5_⟩ (fun hHeld => ?_)
       clear hK K
       refine norm_ (a' := ?_) ?_ ?_
       rotate_left
       ·show Act.put _ (some 24) _ = _
        simp only [nm_]
        rfl
       refine pure_ (i := 11) (N := some 25) (v := ?_) (a' := ?_) (bs_ 13 0xfff) rfl rfl (any_of HT_.out (by kernel_rfl)) (fun _ _ _ h => h) (Or.inl ⟨by rfl, ?_⟩) ?_ ?_; rotate_left; (intro w'; go_simp; with_reducible rfl); rotate_left; (simp only [nm_]; rfl)
       refine pure_ (i := 12) (N := some 26) (v := ?_) (a' := ?_) (bs_ 13 0x1fff) rfl rfl (any_of HT_.out (by kernel_rfl)) (fun _ _ _ h => h) (Or.inl ⟨by rfl, ?_⟩) ?_ ?_; rotate_left; (intro w'; go_simp; with_reducible rfl); rotate_left; (simp only [nm_]; rfl)
       refine done_ (done_of HT_.out (by kernel_rfl)) ?_
       try go_wp2
       go_meet
       case rel => exact ⟨_, (decide (t256 ≥ 0)), (by first | rfl | (simp; done) | (simp [*]; done)), H', ⟨by have := HK1.out; first | omega | exact Nat.le_refl _⟩, ⟨by (with_reducible repeat (first | apply Kd.V_alloc | apply Kd.V_drewN | apply Kd.V_drew)); exact HO_0.out⟩, ⟨by (with_reducible repeat (first | apply Kd.N_alloc | apply Kd.N_drewN | apply Kd.N_drew)); exact HO_5.out⟩, ⟨by (with_reducible repeat (first | apply Kd.V_alloc | apply Kd.V_drewN | apply Kd.V_drew)); exact HO_252002.out⟩, ⟨by (with_reducible repeat (first | refine blk_drewN ?_ _ | refine blk_drew ?_ | refine blk_alloc ?_ _)); exact BK251.out⟩, ⟨by repeat (first | (with_reducible first | exact HB.out | apply below_alloc | apply pw_below_drewN | apply below_drew1 | refine below_set ?_ GE251.out) | exact HB.out)⟩⟩
      ·rw [if_neg c8] at H
       exact absurd H (by simp)
    case rest =>
     clear HC5
     try clear c1
     try clear c2
     try clear p2
     try clear q2
     try clear hx2
     try clear c4
     try clear c4b0
     try clear c5
     try clear c6
     try clear c7
     try clear c8
     try clear c8b0
     try clear hx255_0
     try clear hx255_1
     try clear hx255_2
     try clear p2
     try clear p255
     try clear q255
     obtain ⟨kq, x26_4, rfl, HA, HJ4, HO_0, HO_5, HO_252002, BK251, HB⟩ := hcut
     cases kq with
     | zero => exact absurd HA.out (by simp [tallymanref7_with.j1])
     | succ kj4 =>
      have H := HA.out
      clear HA
      simp only [tallymanref7_with.j1] at H
      by_cases c12 : x26_4 = true
      ·subst c12
       have H1 : (if x5_1.length < 2932031007402 then ((some (x5_1 ++ [(⟨a1_0, a1_1, l1_2⟩ : S94)] : List (S94))).bind fun y257 => (if 0 ≤ x7_1 then (if x7_1 < (l0.length : Int) then (if ((rd_T94 l0 x7_1).f0).toList = a1_0.toList then (tallymanref7_with.l0 kj4 l0 y257 true (wrap64 (x7_1 + 1)) a1_0 a1_1 l1_2) else (if y257.length < 2932031007402 then (tallymanref7_with.l0 kj4 l0 (y257 ++ [(⟨(rd_T94 l0 x7_1).f0, (rd_T94 l0 x7_1).f1, (rd_T94 l0 x7_1).f2⟩ : S94)]) true (wrap64 (x7_1 + 1)) a1_0 a1_1 l1_2) else (none))) else (none)) else (none))) else (none)) = some r := by rw [if_pos rfl] at H; exact H
       clear H
       have H := H1
       clear H1
       by_cases c13 : x5_1.length < 2932031007402
       ·rw [if_pos c13] at H
        have LMc13 := Aside0.mk c13
        clear c13
        obtain ⟨y257, hy257⟩ : ∃ y_ : List (S94), y_ = (x5_1 ++ [(⟨a1_0, a1_1, l1_2⟩ : S94)]) := ⟨_, rfl⟩
        replace H : (if 0 ≤ x7_1 then (if x7_1 < (l0.length : Int) then (if ((rd_T94 l0 x7_1).f0).toList = a1_0.toList then (tallymanref7_with.l0 kj4 l0 y257 true (wrap64 (x7_1 + 1)) a1_0 a1_1 l1_2) else (if y257.length < 2932031007402 then (tallymanref7_with.l0 kj4 l0 (y257 ++ [(⟨(rd_T94 l0 x7_1).f0, (rd_T94 l0 x7_1).f1, (rd_T94 l0 x7_1).f2⟩ : S94)]) true (wrap64 (x7_1 + 1)) a1_0 a1_1 l1_2) else (none))) else (none)) else (none)) = some r := by first | (rw [hy257]; with_reducible exact H) | (have H2_ := (Option.bind_some _ _).symm.trans H; rw [hy257]; with_reducible exact H2_) | (have H2_ := (Option.bind_some _ _).symm.trans H; with_reducible exact H2_) | with_reducible exact H | (rw [hy257]; exact H) | exact H
        have Ny257 := Aside0.mk hy257
        clear hy257
        by_cases c14 : 0 ≤ x7_1
        ·rw [if_pos c14] at H
         have c14b0 : decide (0 ≤ x7_1) = true := decide_eq_true c14
         clear c14
         by_cases c15 : x7_1 < (l0.length : Int)
         ·rw [if_pos c15] at H
          have c15b0 : decide (x7_1 < (l0.length : Int)) = true := decide_eq_true c15
          clear c15
          by_cases c16 : ((rd_T94 l0 x7_1).f0).toList = a1_0.toList
          ·rw [if_pos c16] at H
           have c16b0 : (((rd_T94 l0 x7_1).f0).toList == a1_0.toList) = true := beq_iff_eq.mpr c16
           have c16b1 : (((rd_T94 l0 x7_1).f0).toList != a1_0.toList) = false := bne_eq_false_iff_eq.mpr c16
           clear c16
           have H' := Aside0.mk H
           clear H
           have hcz17_0 : wc.cell? ⟨gb251, 0, none⟩ = some (.string a1_0) := (blk_cell BK251.out 0).trans rfl
           have hcz17_1 : wc.cell? ⟨gb251, 1, none⟩ = some (.bool a1_1) := (blk_cell BK251.out 1).trans rfl
           have hcz17_2 : wc.cell? ⟨gb251, 2, none⟩ = some (.slice A1_2 l1_2.length c1_2) := (blk_cell BK251.out 2).trans rfl
           have hfz17_0 := blk_frozen BK251.out 0
           have hfz17_1 := blk_frozen BK251.out 1
           have hfz17_2 := blk_frozen BK251.out 2
           try go_wp2_with (first | ((with_reducible refine gate_builtin (b := .append) (xs := #[.tmp 27, .tmp 29]) rfl ?_); at_builtin; refine Kd.N_append k94 (w0 := w) w.heap.size rfl (.tmp 27) (.tmp 29) 42 94 (.agg #[(.string ⟨#[]⟩), (.bool false), (.slice none 0 0)]) 48 rfl Tryd.underlying42 info94 rfl (by decide) (by omega) u5 x5_1 (⟨a1_0, a1_1, l1_2⟩ : S94) [.string a1_0, .bool a1_1, .slice A1_2 l1_2.length c1_2] (fun k_ => ((P0_ k_ ∨ P1_2_ k_) ∨ w.heap.size ≤ k_) ∧ k_ ≠ gb251) (fun k_ => ((fun k_ => ((P0_ k_ ∨ P1_2_ k_) ∨ w.heap.size ≤ k_) ∧ k_ ≠ gb251)) k_ ∧ some k_ ≠ (u5 : Value).ownBlock) rfl rfl ?aP (fun _ hk => hk) ?aF ?aO ?aB ?aS ?aL ?_; (case aP => exact (k94_mkF _ _ (⟨a1_0, a1_1, l1_2⟩ : S94) (Kd.V_reads' (Kd.V_mono (ok' := (fun k_ => ((fun k_ => ((P0_ k_ ∨ P1_2_ k_) ∨ w.heap.size ≤ k_) ∧ k_ ≠ gb251)) k_ ∧ some k_ ≠ (u5 : Value).ownBlock)) (HO_252002.out) (fun k_ hk => ⟨⟨hk.1, hk.2.2⟩, hk.2.1⟩))).2.1 (Kd.V_F (Kd.V_mono (ok' := (fun k_ => ((fun k_ => ((P0_ k_ ∨ P1_2_ k_) ∨ w.heap.size ≤ k_) ∧ k_ ≠ gb251)) k_ ∧ some k_ ≠ (u5 : Value).ownBlock)) (HO_252002.out) (fun k_ hk => ⟨⟨hk.1, hk.2.2⟩, hk.2.1⟩))))); (case aB => exact (by repeat (first | (with_reducible first | exact HB.out | apply below_alloc | apply pw_below_drewN | apply below_drew1 | refine below_set ?_ GE251.out) | exact HB.out))); (case aF => exact (fun k_ hk => ⟨(.inr (Nat.le_trans (below_size (by repeat (first | (with_reducible first | exact HB.out | apply below_alloc | apply pw_below_drewN | apply below_drew1 | refine below_set ?_ GE251.out) | exact HB.out))) hk)), Kd.freshB (xb_ BK251.out) k_ hk⟩)); (case aO => exact (xN_ HO_5.out)); (case aS => exact (below_size (by repeat (first | (with_reducible first | exact HB.out | apply below_alloc | apply pw_below_drewN | apply below_drew1 | refine below_set ?_ GE251.out) | exact HB.out)))); (case aL => have := LMc13.out; omega); intro v258 w18 ho hb hg hat; rw [← Ny257.out] at ho; replace HO_0 := xa_ (Kd.V_afterv (ok := (fun k_ => ((P0_ k_ ∨ P1_2_ k_) ∨ w.heap.size ≤ k_) ∧ k_ ≠ gb251)) (by (with_reducible repeat (first | apply Kd.V_alloc | apply Kd.V_drewN | apply Kd.V_drew)); exact Kd.V_mono HO_0.out (fun _ hk => ⟨⟨hk.1, hk.2.2⟩, hk.2.1⟩)) hg hat); replace HO_252002 := xa_ (Kd.V_afterv (ok := (fun k_ => ((P0_ k_ ∨ P1_2_ k_) ∨ w.heap.size ≤ k_) ∧ k_ ≠ gb251)) (by (with_reducible repeat (first | apply Kd.V_alloc | apply Kd.V_drewN | apply Kd.V_drew)); exact Kd.V_mono HO_252002.out (fun _ hk => ⟨⟨hk.1, hk.2.2⟩, hk.2.1⟩)) hg hat); replace BK251 := xa_ (blk_grown (xb_ BK251.out) hg (Kd.N_away HO_5.out (fun _ hk => hk.2))); replace HB := xa_ (hb); replace HO259 := xa_ (ho); clear ho hb hg hat))
           have n0_ := xa_ (Kd.V_drew HO_0.out)
           have n1_ := xa_ (Kd.V_drew HO_252002.out)
           have n2_ := xa_ (Kd.N_drew HO259.out)
           have n3_ := xa_ (blk_drew BK251.out)
           have n4_ := xa_ (below_drew1 HB.out)
           clear HO_0
           clear HO_252002
           clear HO259
           clear BK251
           clear HB
           have HO_0 := n0_
           have HO_252002 := n1_
           have HO259 := n2_
           have BK251 := n3_
           have HB := n4_
           clear n0_ n1_ n2_ n3_ n4_
           have p260 : 0 ≤ (x7_1 : Int) := of_decide_eq_true (by first | (with_reducible assumption) | assumption)
           have q260 : x7_1 < (l0.length : Int) := of_decide_eq_true (by first | (with_reducible assumption) | assumption)
           obtain ⟨ad260, A260_2, c260_2, e260, hx260_0, hx260_1, hx260_2, hl260_2, hi260_2⟩ := at_T94 (Kd.V_reads' HO_0.out).2.2 x7_1 p260 q260
           cases e260
           obtain ⟨ce260, hce260, hMe260, hcc260⟩ := Kd.V_get HO_0.out z94 x7_1 p260 (by first | exact q260 | exact of_decide_eq_true (by first | (with_reducible assumption) | assumption) | (have e_ := (Kd.V_reads' HO_0.out).1; omega))
           obtain ⟨ua260_2, uc260_2, rfl, ul260_2, ge260_2⟩ := k94_openF hMe260
           have hv260_2 := hcc260 2 _ rfl
           rw [add_field _ _ 2 (by omega)] at hv260_2
           replace hv260_2 := Option.some.inj (hv260_2.symm.trans hx260_2)
           injection hv260_2 with hva_ hvn_ hvc_
           rw [hva_] at ge260_2
           rw [hvc_] at ul260_2
           have HL260_2 := xa_ (show Kd.V (Kd.int .u8) 5 _ w.heap.size _ _ ((rd_T94 l0 x7_1).f2) from Kd.V_mk ul260_2 ge260_2)
           clear hva_ hvn_ hvc_ ge260_2 ul260_2
           clear hcc260 hce260
           have HR260_2 := Aside0.mk hi260_2
           have HC260_2 := Aside0.mk hl260_2
           clear hi260_2 hl260_2
           replace p260 := eq_true p260
           replace q260 := eq_true q260
           refine start_ (n := 8) (S := fun w' => w'.cell? ⟨gb251, 0, none⟩ = some (.string a1_0) ∧ w'.cell? ⟨gb251, 1, none⟩ = some (.bool a1_1) ∧ w'.cell? ⟨gb251, 2, none⟩ = some (.slice A1_2 l1_2.length c1_2) ∧ w'.cell? (ad260.add ((x7_1).toNat * 3)) = some (.string ((rd_T94 l0 x7_1).f0)) ∧ w'.cell? ⟨(ad260.add ((x7_1).toNat * 3)).block, (ad260.add ((x7_1).toNat * 3)).off + 1, none⟩ = some (.bool ((rd_T94 l0 x7_1).f1)) ∧ w'.cell? ⟨(ad260.add ((x7_1).toNat * 3)).block, (ad260.add ((x7_1).toNat * 3)).off + 2, none⟩ = some (.slice A260_2 ((rd_T94 l0 x7_1).f2).length c260_2)) (ds := []) (bs_ 8 0x0) (by kernel_rfl) rfl rfl ⟨(blk_cell BK251.out 0).trans rfl, (blk_cell BK251.out 1).trans rfl, (blk_cell BK251.out 2).trans rfl, hx260_0, hx260_1, hx260_2⟩ (fun hHeld => ?_); refine with_tabW tallymanref7_with.tab9 tallymanref7_with.bits9 (fun HT_ HW_ => ?_)
           generalize w18.drew = w19 at HO_0 HO_252002 HO259 BK251 HB HL260_2 HR260_2 hx260_0 hx260_1 hx260_2 hHeld ⊢
           refine pure_ (i := 0) (N := some 31) (v := ?_) (a' := ?_) (bs_ 8 0x1) rfl rfl (any_of HT_.out (by kernel_rfl)) (fun _ _ _ h => h) (Or.inl ⟨by rfl, ?_⟩) ?_ ?_; rotate_left; (intro w'; go_simp; with_reducible rfl); rotate_left; (simp only [nm_]; rfl)
           refine pure_ (i := 1) (N := some 32) (v := ?_) (a' := ?_) (bs_ 8 0x3) rfl rfl (any_of HT_.out (by kernel_rfl)) (fun _ _ _ h => h) (Or.inl ⟨by rfl, ?_⟩) ?_ ?_; rotate_left; (intro w'; go_simp; with_reducible rfl); rotate_left; (simp only [nm_]; rfl)
           refine pure_ (i := 2) (N := some 33) (v := ?_) (a' := ?_) (bs_ 8 0x7) rfl rfl (any_of HT_.out (by kernel_rfl)) (fun _ _ _ h => h) (Or.inl ⟨by rfl, ?_⟩) ?_ ?_; rotate_left; (intro w'; go_simp; with_reducible rfl); rotate_left; (simp only [nm_]; rfl)
           refine pure_ (i := 3) (N := some 34) (v := ?_) (a' := ?_) (bs_ 8 0xf) rfl rfl (any_of HT_.out (by kernel_rfl)) (fun _ _ _ h => h) (Or.inl ⟨by rfl, ?_⟩) ?_ ?_; rotate_left; (intro w'; go_simp; with_reducible rfl); rotate_left; (simp only [nm_]; rfl)
           refine pure_ (i := 5) (N := some 36) (v := ?_) (a' := ?_) (bs_ 8 0x2f) rfl rfl (any_of HT_.out (by kernel_rfl)) (fun _ _ _ h => h) (Or.inl ⟨by rfl, ?_⟩) ?_ ?_; rotate_left; (intro w'; go_simp; with_reducible rfl); rotate_left; (simp only [nm_]; rfl)
           refine take_ (i := 4) (N := some 35) (v := ?_) (a' := ?_) (bs_ 8 0x3f) rfl rfl (take_ofW HT_.out HW_.out (by kernel_rfl)) (fun _ _ _ h => h) (Or.inl ⟨by rfl, ?_⟩) hHeld ?_ ?_; rotate_left; (rintro w' ⟨s0, s1, s2, s3, s4, s5⟩; go_simp; with_reducible rfl); rotate_left; (simp only [nm_]; rfl)
           refine take_ (i := 6) (N := some 37) (v := ?_) (a' := ?_) (bs_ 8 0x7f) rfl rfl (take_ofW HT_.out HW_.out (by kernel_rfl)) (fun _ _ _ h => h) (Or.inl ⟨by rfl, ?_⟩) hHeld ?_ ?_; rotate_left; (rintro w' ⟨s0, s1, s2, s3, s4, s5⟩; go_simp; with_reducible rfl); rotate_left; (simp only [nm_]; rfl)
           refine pure_ (i := 7) (N := some 38) (v := ?_) (a' := ?_) (bs_ 8 0xff) rfl rfl (any_of HT_.out (by kernel_rfl)) (fun _ _ _ h => h) (Or.inl ⟨by rfl, ?_⟩) ?_ ?_; rotate_left; (intro w'; go_simp; with_reducible rfl); rotate_left; (simp only [nm_]; rfl)
           refine done_ (done_of HT_.out (by kernel_rfl)) ?_
           try go_wp2
           go_roundg kj4
           case measure => have := HK1.out; have := HJ4.out; omega
           case rel => exact ⟨(y257), (true), (wrap64 (x7_1 + 1)), (by first | rfl | (simp; done) | (simp [*]; done)), (by first | rfl | (simp; done) | (simp [*]; done)), H', ⟨by have := HK1.out; have := HJ4.out; omega⟩, ⟨by (with_reducible repeat (first | apply Kd.V_alloc | apply Kd.V_drewN | apply Kd.V_drew)); exact Kd.V_mono HO_0.out (fun _ hk => ⟨hk.1.1, ⟨hk.2, hk.1.2⟩⟩)⟩, ⟨by (with_reducible repeat (first | apply Kd.N_alloc | apply Kd.N_drewN | apply Kd.N_drew)); exact HO259.out⟩, ⟨by (with_reducible repeat (first | apply Kd.V_alloc | apply Kd.V_drewN | apply Kd.V_drew)); exact Kd.V_mono HO_252002.out (fun _ hk => ⟨hk.1.1, ⟨hk.2, hk.1.2⟩⟩)⟩, ⟨by (with_reducible repeat (first | refine blk_drewN ?_ _ | refine blk_drew ?_ | refine blk_alloc ?_ _)); exact BK251.out⟩, ⟨by repeat (first | (with_reducible first | exact HB.out | apply below_alloc | apply pw_below_drewN | apply below_drew1 | refine below_set ?_ GE251.out) | exact HB.out)⟩⟩
          ·rw [if_neg c16] at H
           have c16b0 : (((rd_T94 l0 x7_1).f0).toList == a1_0.toList) = false := beq_eq_false_iff_ne.mpr c16
           have c16b1 : (((rd_T94 l0 x7_1).f0).toList != a1_0.toList) = true := bne_iff_ne.mpr c16
           by_cases c20 : y257.length < 2932031007402
           ·rw [if_pos c20] at H
            have LMc20 := Aside0.mk c20
            clear c20
            obtain ⟨y262, hy262⟩ : ∃ y_ : List (S94), y_ = (y257 ++ [(⟨(rd_T94 l0 x7_1).f0, (rd_T94 l0 x7_1).f1, (rd_T94 l0 x7_1).f2⟩ : S94)]) := ⟨_, rfl⟩
            replace H : (tallymanref7_with.l0 kj4 l0 y262 true (wrap64 (x7_1 + 1)) a1_0 a1_1 l1_2) = some r := by first | (rw [hy262]; with_reducible exact H) | (have H2_ := (Option.bind_some _ _).symm.trans H; rw [hy262]; with_reducible exact H2_) | (have H2_ := (Option.bind_some _ _).symm.trans H; with_reducible exact H2_) | with_reducible exact H | (rw [hy262]; exact H) | exact H
            have Ny262 := Aside0.mk hy262
            clear hy262
            have H' := Aside0.mk H
            clear H
            have hcz21_0 : wc.cell? ⟨gb251, 0, none⟩ = some (.string a1_0) := (blk_cell BK251.out 0).trans rfl
            have hcz21_1 : wc.cell? ⟨gb251, 1, none⟩ = some (.bool a1_1) := (blk_cell BK251.out 1).trans rfl
            have hcz21_2 : wc.cell? ⟨gb251, 2, none⟩ = some (.slice A1_2 l1_2.length c1_2) := (blk_cell BK251.out 2).trans rfl
            have hfz21_0 := blk_frozen BK251.out 0
            have hfz21_1 := blk_frozen BK251.out 1
            have hfz21_2 := blk_frozen BK251.out 2
            try go_wp2_with (first | ((with_reducible refine gate_builtin (b := .append) (xs := #[.tmp 27, .tmp 29]) rfl ?_); at_builtin; refine Kd.N_append k94 (w0 := w) w.heap.size rfl (.tmp 27) (.tmp 29) 42 94 (.agg #[(.string ⟨#[]⟩), (.bool false), (.slice none 0 0)]) 48 rfl Tryd.underlying42 info94 rfl (by decide) (by omega) u5 x5_1 (⟨a1_0, a1_1, l1_2⟩ : S94) [.string a1_0, .bool a1_1, .slice A1_2 l1_2.length c1_2] (fun k_ => ((P0_ k_ ∨ P1_2_ k_) ∨ w.heap.size ≤ k_) ∧ k_ ≠ gb251) (fun k_ => ((fun k_ => ((P0_ k_ ∨ P1_2_ k_) ∨ w.heap.size ≤ k_) ∧ k_ ≠ gb251)) k_ ∧ some k_ ≠ (u5 : Value).ownBlock) rfl rfl ?aP (fun _ hk => hk) ?aF ?aO ?aB ?aS ?aL ?_; (case aP => exact (k94_mkF _ _ (⟨a1_0, a1_1, l1_2⟩ : S94) (Kd.V_reads' (Kd.V_mono (ok' := (fun k_ => ((fun k_ => ((P0_ k_ ∨ P1_2_ k_) ∨ w.heap.size ≤ k_) ∧ k_ ≠ gb251)) k_ ∧ some k_ ≠ (u5 : Value).ownBlock)) (HO_252002.out) (fun k_ hk => ⟨⟨hk.1, hk.2.2⟩, hk.2.1⟩))).2.1 (Kd.V_F (Kd.V_mono (ok' := (fun k_ => ((fun k_ => ((P0_ k_ ∨ P1_2_ k_) ∨ w.heap.size ≤ k_) ∧ k_ ≠ gb251)) k_ ∧ some k_ ≠ (u5 : Value).ownBlock)) (HO_252002.out) (fun k_ hk => ⟨⟨hk.1, hk.2.2⟩, hk.2.1⟩))))); (case aB => exact (by repeat (first | (with_reducible first | exact HB.out | apply below_alloc | apply pw_below_drewN | apply below_drew1 | refine below_set ?_ GE251.out) | exact HB.out))); (case aF => exact (fun k_ hk => ⟨(.inr (Nat.le_trans (below_size (by repeat (first | (with_reducible first | exact HB.out | apply below_alloc | apply pw_below_drewN | apply below_drew1 | refine below_set ?_ GE251.out) | exact HB.out))) hk)), Kd.freshB (xb_ BK251.out) k_ hk⟩)); (case aO => exact (xN_ HO_5.out)); (case aS => exact (below_size (by repeat (first | (with_reducible first | exact HB.out | apply below_alloc | apply pw_below_drewN | apply below_drew1 | refine below_set ?_ GE251.out) | exact HB.out)))); (case aL => have := LMc13.out; omega); intro v258 w22 ho hb hg hat; rw [← Ny257.out] at ho; replace HO_0 := xa_ (Kd.V_afterv (ok := (fun k_ => ((P0_ k_ ∨ P1_2_ k_) ∨ w.heap.size ≤ k_) ∧ k_ ≠ gb251)) (by (with_reducible repeat (first | apply Kd.V_alloc | apply Kd.V_drewN | apply Kd.V_drew)); exact Kd.V_mono HO_0.out (fun _ hk => ⟨⟨hk.1, hk.2.2⟩, hk.2.1⟩)) hg hat); replace HO_252002 := xa_ (Kd.V_afterv (ok := (fun k_ => ((P0_ k_ ∨ P1_2_ k_) ∨ w.heap.size ≤ k_) ∧ k_ ≠ gb251)) (by (with_reducible repeat (first | apply Kd.V_alloc | apply Kd.V_drewN | apply Kd.V_drew)); exact Kd.V_mono HO_252002.out (fun _ hk => ⟨⟨hk.1, hk.2.2⟩, hk.2.1⟩)) hg hat); replace BK251 := xa_ (blk_grown (xb_ BK251.out) hg (Kd.N_away HO_5.out (fun _ hk => hk.2))); replace HB := xa_ (hb); replace HO259 := xa_ (ho); clear ho hb hg hat))
            have n0_ := xa_ (Kd.V_drew HO_0.out)
            have n1_ := xa_ (Kd.V_drew HO_252002.out)
            have n2_ := xa_ (Kd.N_drew HO259.out)
            have n3_ := xa_ (blk_drew BK251.out)
            have n4_ := xa_ (below_drew1 HB.out)
            clear HO_0
            clear HO_252002
            clear HO259
            clear BK251
            clear HB
            have HO_0 := n0_
            have HO_252002 := n1_
            have HO259 := n2_
            have BK251 := n3_
            have HB := n4_
            clear n0_ n1_ n2_ n3_ n4_
            have p260 : 0 ≤ (x7_1 : Int) := of_decide_eq_true (by first | (with_reducible assumption) | assumption)
            have q260 : x7_1 < (l0.length : Int) := of_decide_eq_true (by first | (with_reducible assumption) | assumption)
            obtain ⟨ad260, A260_2, c260_2, e260, hx260_0, hx260_1, hx260_2, hl260_2, hi260_2⟩ := at_T94 (Kd.V_reads' HO_0.out).2.2 x7_1 p260 q260
            cases e260
            obtain ⟨ce260, hce260, hMe260, hcc260⟩ := Kd.V_get HO_0.out z94 x7_1 p260 (by first | exact q260 | exact of_decide_eq_true (by first | (with_reducible assumption) | assumption) | (have e_ := (Kd.V_reads' HO_0.out).1; omega))
            obtain ⟨ua260_2, uc260_2, rfl, ul260_2, ge260_2⟩ := k94_openF hMe260
            have hv260_2 := hcc260 2 _ rfl
            rw [add_field _ _ 2 (by omega)] at hv260_2
            replace hv260_2 := Option.some.inj (hv260_2.symm.trans hx260_2)
            injection hv260_2 with hva_ hvn_ hvc_
            rw [hva_] at ge260_2
            rw [hvc_] at ul260_2
            have HL260_2 := xa_ (show Kd.V (Kd.int .u8) 5 _ w.heap.size _ _ ((rd_T94 l0 x7_1).f2) from Kd.V_mk ul260_2 ge260_2)
            clear hva_ hvn_ hvc_ ge260_2 ul260_2
            clear hcc260 hce260
            have HR260_2 := Aside0.mk hi260_2
            have HC260_2 := Aside0.mk hl260_2
            clear hi260_2 hl260_2
            replace p260 := eq_true p260
            replace q260 := eq_true q260
            refine start_ (n := 8) (S := fun w' => w'.cell? ⟨gb251, 0, none⟩ = some (.string a1_0) ∧ w'.cell? ⟨gb251, 1, none⟩ = some (.bool a1_1) ∧ w'.cell? ⟨gb251, 2, none⟩ = some (.slice A1_2 l1_2.length c1_2) ∧ w'.cell? (ad260.add ((x7_1).toNat * 3)) = some (.string ((rd_T94 l0 x7_1).f0)) ∧ w'.cell? ⟨(ad260.add ((x7_1).toNat * 3)).block, (ad260.add ((x7_1).toNat * 3)).off + 1, none⟩ = some (.bool ((rd_T94 l0 x7_1).f1)) ∧ w'.cell? ⟨(ad260.add ((x7_1).toNat * 3)).block, (ad260.add ((x7_1).toNat * 3)).off + 2, none⟩ = some (.slice A260_2 ((rd_T94 l0 x7_1).f2).length c260_2)) (ds := []) (bs_ 8 0x0) (by kernel_rfl) rfl rfl ⟨(blk_cell BK251.out 0).trans rfl, (blk_cell BK251.out 1).trans rfl, (blk_cell BK251.out 2).trans rfl, hx260_0, hx260_1, hx260_2⟩ (fun hHeld => ?_); refine with_tabW tallymanref7_with.tab9 tallymanref7_with.bits9 (fun HT_ HW_ => ?_)
            generalize w22.drew = w23 at HO_0 HO_252002 HO259 BK251 HB HL260_2 HR260_2 hx260_0 hx260_1 hx260_2 hHeld ⊢
            refine pure_ (i := 0) (N := some 31) (v := ?_) (a' := ?_) (bs_ 8 0x1) rfl rfl (any_of HT_.out (by kernel_rfl)) (fun _ _ _ h => h) (Or.inl ⟨by rfl, ?_⟩) ?_ ?_; rotate_left; (intro w'; go_simp; with_reducible rfl); rotate_left; (simp only [nm_]; rfl)
            refine pure_ (i := 1) (N := some 32) (v := ?_) (a' := ?_) (bs_ 8 0x3) rfl rfl (any_of HT_.out (by kernel_rfl)) (fun _ _ _ h => h) (Or.inl ⟨by rfl, ?_⟩) ?_ ?_; rotate_left; (intro w'; go_simp; with_reducible rfl); rotate_left; (simp only [nm_]; rfl)
            refine pure_ (i := 2) (N := some 33) (v := ?_) (a' := ?_) (bs_ 8 0x7) rfl rfl (any_of HT_.out (by kernel_rfl)) (fun _ _ _ h => h) (Or.inl ⟨by rfl, ?_⟩) ?_ ?_; rotate_left; (intro w'; go_simp; with_reducible rfl); rotate_left; (simp only [nm_]; rfl)
            refine pure_ (i := 3) (N := some 34) (v := ?_) (a' := ?_) (bs_ 8 0xf) rfl rfl (any_of HT_.out (by kernel_rfl)) (fun _ _ _ h => h) (Or.inl ⟨by rfl, ?_⟩) ?_ ?_; rotate_left; (intro w'; go_simp; with_reducible rfl); rotate_left; (simp only [nm_]; rfl)
            refine pure_ (i := 5) (N := some 36) (v := ?_) (a' := ?_) (bs_ 8 0x2f) rfl rfl (any_of HT_.out (by kernel_rfl)) (fun _ _ _ h => h) (Or.inl ⟨by rfl, ?_⟩) ?_ ?_; rotate_left; (intro w'; go_simp; with_reducible rfl); rotate_left; (simp only [nm_]; rfl)
            refine take_ (i := 4) (N := some 35) (v := ?_) (a' := ?_) (bs_ 8 0x3f) rfl rfl (take_ofW HT_.out HW_.out (by kernel_rfl)) (fun _ _ _ h => h) (Or.inl ⟨by rfl, ?_⟩) hHeld ?_ ?_; rotate_left; (rintro w' ⟨s0, s1, s2, s3, s4, s5⟩; go_simp; with_reducible rfl); rotate_left; (simp only [nm_]; rfl)
            refine take_ (i := 6) (N := some 37) (v := ?_) (a' := ?_) (bs_ 8 0x7f) rfl rfl (take_ofW HT_.out HW_.out (by kernel_rfl)) (fun _ _ _ h => h) (Or.inl ⟨by rfl, ?_⟩) hHeld ?_ ?_; rotate_left; (rintro w' ⟨s0, s1, s2, s3, s4, s5⟩; go_simp; with_reducible rfl); rotate_left; (simp only [nm_]; rfl)
            refine pure_ (i := 7) (N := some 38) (v := ?_) (a' := ?_) (bs_ 8 0xff) rfl rfl (any_of HT_.out (by kernel_rfl)) (fun _ _ _ h => h) (Or.inl ⟨by rfl, ?_⟩) ?_ ?_; rotate_left; (intro w'; go_simp; with_reducible rfl); rotate_left; (simp only [nm_]; rfl)
            refine done_ (done_of HT_.out (by kernel_rfl)) ?_
            have p261 : 0 ≤ (x7_1 : Int) := of_decide_eq_true (by first | (with_reducible assumption) | assumption)
            have q261 : x7_1 < (l0.length : Int) := of_decide_eq_true (by first | (with_reducible assumption) | assumption)
            obtain ⟨ad261, A261_2, c261_2, e261, hx261_0, hx261_1, hx261_2, hl261_2, hi261_2⟩ := at_T94 (Kd.V_reads' HO_0.out).2.2 x7_1 p261 q261
            obtain rfl : ad260 = ad261 := (by injection e261)
            obtain ⟨ce261, hce261, hMe261, hcc261⟩ := Kd.V_get HO_0.out z94 x7_1 p261 (by first | exact q261 | exact of_decide_eq_true (by first | (with_reducible assumption) | assumption) | (have e_ := (Kd.V_reads' HO_0.out).1; omega))
            obtain ⟨ua261_2, uc261_2, rfl, ul261_2, ge261_2⟩ := k94_openF hMe261
            have hv261_2 := hcc261 2 _ rfl
            rw [add_field _ _ 2 (by omega)] at hv261_2
            replace hv261_2 := Option.some.inj (hv261_2.symm.trans hx261_2)
            injection hv261_2 with hva_ hvn_ hvc_
            rw [hva_] at ge261_2
            rw [hvc_] at ul261_2
            have HL261_2 := xa_ (show Kd.V (Kd.int .u8) 5 _ w.heap.size _ _ ((rd_T94 l0 x7_1).f2) from Kd.V_mk ul261_2 ge261_2)
            clear hva_ hvn_ hvc_ ge261_2 ul261_2
            clear hcc261 hce261
            have HR261_2 := Aside0.mk hi261_2
            have HC261_2 := Aside0.mk hl261_2
            clear hi261_2 hl261_2
            replace p261 := eq_true p261
            replace q261 := eq_true q261
            have ea_ := Option.some.inj (hx260_2.symm.trans hx261_2)
            injection ea_ with ea_ en_ ec_
            subst ea_
            subst ec_
            clear en_
            try go_wp2_with (first | ((with_reducible refine gate_builtin (b := .append) (xs := #[.tmp 39, .tmp 44]) rfl ?_); at_builtin; refine Kd.N_append k94 (w0 := w) w.heap.size rfl (.tmp 39) (.tmp 44) 42 94 (.agg #[(.string ⟨#[]⟩), (.bool false), (.slice none 0 0)]) 48 rfl Tryd.underlying42 info94 rfl (by decide) (by omega) v258 y257 (⟨(rd_T94 l0 x7_1).f0, (rd_T94 l0 x7_1).f1, (rd_T94 l0 x7_1).f2⟩ : S94) [.string ((rd_T94 l0 x7_1).f0), .bool ((rd_T94 l0 x7_1).f1), .slice A260_2 ((rd_T94 l0 x7_1).f2).length c260_2] (fun k_ => ((P0_ k_ ∨ P1_2_ k_) ∨ w.heap.size ≤ k_) ∧ k_ ≠ gb251) (fun k_ => ((fun k_ => ((P0_ k_ ∨ P1_2_ k_) ∨ w.heap.size ≤ k_) ∧ k_ ≠ gb251)) k_ ∧ some k_ ≠ (v258 : Value).ownBlock) rfl rfl ?aP (fun _ hk => hk) ?aF ?aO ?aB ?aS ?aL ?_; (case aP => exact (k94_mkF _ _ (⟨(rd_T94 l0 x7_1).f0, (rd_T94 l0 x7_1).f1, (rd_T94 l0 x7_1).f2⟩ : S94) (Kd.V_reads' (Kd.V_mono (ok' := (fun k_ => ((fun k_ => ((P0_ k_ ∨ P1_2_ k_) ∨ w.heap.size ≤ k_) ∧ k_ ≠ gb251)) k_ ∧ some k_ ≠ (v258 : Value).ownBlock)) (HL261_2.out) (fun k_ hk => ⟨⟨hk.1.1, hk.1.2⟩, hk.2⟩))).2.1 (Kd.V_F (Kd.V_mono (ok' := (fun k_ => ((fun k_ => ((P0_ k_ ∨ P1_2_ k_) ∨ w.heap.size ≤ k_) ∧ k_ ≠ gb251)) k_ ∧ some k_ ≠ (v258 : Value).ownBlock)) (HL261_2.out) (fun k_ hk => ⟨⟨hk.1.1, hk.1.2⟩, hk.2⟩))))); (case aB => exact (by repeat (first | (with_reducible first | exact HB.out | apply below_alloc | apply pw_below_drewN | apply below_drew1 | refine below_set ?_ GE251.out) | exact HB.out))); (case aF => exact (fun k_ hk => ⟨(.inr (Nat.le_trans (below_size (by repeat (first | (with_reducible first | exact HB.out | apply below_alloc | apply pw_below_drewN | apply below_drew1 | refine below_set ?_ GE251.out) | exact HB.out))) hk)), Kd.freshB (xb_ BK251.out) k_ hk⟩)); (case aO => exact (xN_ HO259.out)); (case aS => exact (below_size (by repeat (first | (with_reducible first | exact HB.out | apply below_alloc | apply pw_below_drewN | apply below_drew1 | refine below_set ?_ GE251.out) | exact HB.out)))); (case aL => have := LMc20.out; omega); intro v263 w24 ho hb hg hat; rw [← Ny262.out] at ho; replace HO_0 := xa_ (Kd.V_afterv (ok := (fun k_ => ((P0_ k_ ∨ P1_2_ k_) ∨ w.heap.size ≤ k_) ∧ k_ ≠ gb251)) (xV_ HO_0.out) hg hat); replace HO_252002 := xa_ (Kd.V_afterv (ok := (fun k_ => ((P0_ k_ ∨ P1_2_ k_) ∨ w.heap.size ≤ k_) ∧ k_ ≠ gb251)) (xV_ HO_252002.out) hg hat); replace BK251 := xa_ (blk_grown (xb_ BK251.out) hg (Kd.N_away HO259.out (fun _ hk => hk.2))); replace HL260_2 := xa_ (Kd.V_afterv (ok := (fun k_ => ((P0_ k_ ∨ P1_2_ k_) ∨ w.heap.size ≤ k_) ∧ k_ ≠ gb251)) (xV_ HL260_2.out) hg hat); replace HL261_2 := xa_ (Kd.V_afterv (ok := (fun k_ => ((P0_ k_ ∨ P1_2_ k_) ∨ w.heap.size ≤ k_) ∧ k_ ≠ gb251)) (xV_ HL261_2.out) hg hat); replace HB := xa_ (hb); replace HO264 := xa_ (ho); clear ho hb hg hat))
            go_roundg kj4
            case measure => have := HK1.out; have := HJ4.out; omega
            case rel => exact ⟨(y262), (true), (wrap64 (x7_1 + 1)), (by first | rfl | (simp; done) | (simp [*]; done)), (by first | rfl | (simp; done) | (simp [*]; done)), H', ⟨by have := HK1.out; have := HJ4.out; omega⟩, ⟨by (with_reducible repeat (first | apply Kd.V_alloc | apply Kd.V_drewN | apply Kd.V_drew)); exact Kd.V_mono HO_0.out (fun _ hk => ⟨hk.1.1, ⟨hk.2, hk.1.2⟩⟩)⟩, ⟨by (with_reducible repeat (first | apply Kd.N_alloc | apply Kd.N_drewN | apply Kd.N_drew)); exact HO264.out⟩, ⟨by (with_reducible repeat (first | apply Kd.V_alloc | apply Kd.V_drewN | apply Kd.V_drew)); exact Kd.V_mono HO_252002.out (fun _ hk => ⟨hk.1.1, ⟨hk.2, hk.1.2⟩⟩)⟩, ⟨by (with_reducible repeat (first | refine blk_drewN ?_ _ | refine blk_drew ?_ | refine blk_alloc ?_ _)); exact BK251.out⟩, ⟨by repeat (first | (with_reducible first | exact HB.out | apply below_alloc | apply pw_below_drewN | apply below_drew1 | refine below_set ?_ GE251.out) | exact HB.out)⟩⟩
           ·rw [if_neg c20] at H
            exact absurd H (by simp)
         ·rw [if_neg c15] at H
          exact absurd H (by simp)
        ·rw [if_neg c14] at H
         exact absurd H (by simp)
       ·rw [if_neg c13] at H
        exact absurd H (by simp)
      ·replace c12 := Bool.eq_false_iff.mpr c12
       subst c12
       have H1 : (if 0 ≤ x7_1 then (if x7_1 < (l0.length : Int) then (if ((rd_T94 l0 x7_1).f0).toList = a1_0.toList then (tallymanref7_with.l0 kj4 l0 x5_1 x6_1 (wrap64 (x7_1 + 1)) a1_0 a1_1 l1_2) else (if x5_1.length < 2932031007402 then (tallymanref7_with.l0 kj4 l0 (x5_1 ++ [(⟨(rd_T94 l0 x7_1).f0, (rd_T94 l0 x7_1).f1, (rd_T94 l0 x7_1).f2⟩ : S94)]) x6_1 (wrap64 (x7_1 + 1)) a1_0 a1_1 l1_2) else (none))) else (none)) else (none)) = some r := by rw [if_neg (show ¬ (false = true) by decide)] at H; exact H
       clear H
       have H := H1
       clear H1
       by_cases c25 : 0 ≤ x7_1
       ·rw [if_pos c25] at H
        have c25b0 : decide (0 ≤ x7_1) = true := decide_eq_true c25
        clear c25
        by_cases c26 : x7_1 < (l0.length : Int)
        ·rw [if_pos c26] at H
         have c26b0 : decide (x7_1 < (l0.length : Int)) = true := decide_eq_true c26
         clear c26
         by_cases c27 : ((rd_T94 l0 x7_1).f0).toList = a1_0.toList
         ·rw [if_pos c27] at H
          have c27b0 : (((rd_T94 l0 x7_1).f0).toList == a1_0.toList) = true := beq_iff_eq.mpr c27
          have c27b1 : (((rd_T94 l0 x7_1).f0).toList != a1_0.toList) = false := bne_eq_false_iff_eq.mpr c27
          clear c27
          have H' := Aside0.mk H
          clear H
          try go_wp2
          have n0_ := xa_ (Kd.V_drew HO_0.out)
          have n1_ := xa_ (Kd.N_drew HO_5.out)
          have n2_ := xa_ (Kd.V_drew HO_252002.out)
          have n3_ := xa_ (blk_drew BK251.out)
          have n4_ := xa_ (below_drew1 HB.out)
          clear HO_0
          clear HO_5
          clear HO_252002
          clear BK251
          clear HB
          have HO_0 := n0_
          have HO_5 := n1_
          have HO_252002 := n2_
          have BK251 := n3_
          have HB := n4_
          clear n0_ n1_ n2_ n3_ n4_
          have p265 : 0 ≤ (x7_1 : Int) := of_decide_eq_true (by first | (with_reducible assumption) | assumption)
          have q265 : x7_1 < (l0.length : Int) := of_decide_eq_true (by first | (with_reducible assumption) | assumption)
          obtain ⟨ad265, A265_2, c265_2, e265, hx265_0, hx265_1, hx265_2, hl265_2, hi265_2⟩ := at_T94 (Kd.V_reads' HO_0.out).2.2 x7_1 p265 q265
          cases e265
          obtain ⟨ce265, hce265, hMe265, hcc265⟩ := Kd.V_get HO_0.out z94 x7_1 p265 (by first | exact q265 | exact of_decide_eq_true (by first | (with_reducible assumption) | assumption) | (have e_ := (Kd.V_reads' HO_0.out).1; omega))
          obtain ⟨ua265_2, uc265_2, rfl, ul265_2, ge265_2⟩ := k94_openF hMe265
          have hv265_2 := hcc265 2 _ rfl
          rw [add_field _ _ 2 (by omega)] at hv265_2
          replace hv265_2 := Option.some.inj (hv265_2.symm.trans hx265_2)
          injection hv265_2 with hva_ hvn_ hvc_
          rw [hva_] at ge265_2
          rw [hvc_] at ul265_2
          have HL265_2 := xa_ (show Kd.V (Kd.int .u8) 5 _ w.heap.size _ _ ((rd_T94 l0 x7_1).f2) from Kd.V_mk ul265_2 ge265_2)
          clear hva_ hvn_ hvc_ ge265_2 ul265_2
          clear hcc265 hce265
          have HR265_2 := Aside0.mk hi265_2
          have HC265_2 := Aside0.mk hl265_2
          clear hi265_2 hl265_2
          replace p265 := eq_true p265
          replace q265 := eq_true q265
          refine start_ (n := 8) (S := fun w' => w'.cell? ⟨gb251, 0, none⟩ = some (.string a1_0) ∧ w'.cell? ⟨gb251, 1, none⟩ = some (.bool a1_1) ∧ w'.cell? ⟨gb251, 2, none⟩ = some (.slice A1_2 l1_2.length c1_2) ∧ w'.cell? (ad265.add ((x7_1).toNat * 3)) = some (.string ((rd_T94 l0 x7_1).f0)) ∧ w'.cell? ⟨(ad265.add ((x7_1).toNat * 3)).block, (ad265.add ((x7_1).toNat * 3)).off + 1, none⟩ = some (.bool ((rd_T94 l0 x7_1).f1)) ∧ w'.cell? ⟨(ad265.add ((x7_1).toNat * 3)).block, (ad265.add ((x7_1).toNat * 3)).off + 2, none⟩ = some (.slice A265_2 ((rd_T94 l0 x7_1).f2).length c265_2)) (ds := []) (bs_ 8 0x0) (by kernel_rfl) rfl rfl ⟨(blk_cell BK251.out 0).trans rfl, (blk_cell BK251.out 1).trans rfl, (blk_cell BK251.out 2).trans rfl, hx265_0, hx265_1, hx265_2⟩ (fun hHeld => ?_); refine with_tabW tallymanref7_with.tab9 tallymanref7_with.bits9 (fun HT_ HW_ => ?_)
          generalize wc.drew = w28 at HO_0 HO_5 HO_252002 BK251 HB HL265_2 HR265_2 hx265_0 hx265_1 hx265_2 hHeld ⊢
          refine pure_ (i := 0) (N := some 31) (v := ?_) (a' := ?_) (bs_ 8 0x1) rfl rfl (any_of HT_.out (by kernel_rfl)) (fun _ _ _ h => h) (Or.inl ⟨by rfl, ?_⟩) ?_ ?_; rotate_left; (intro w'; go_simp; with_reducible rfl); rotate_left; (simp only [nm_]; rfl)
          refine pure_ (i := 1) (N := some 32) (v := ?_) (a' := ?_) (bs_ 8 0x3) rfl rfl (any_of HT_.out (by kernel_rfl)) (fun _ _ _ h => h) (Or.inl ⟨by rfl, ?_⟩) ?_ ?_; rotate_left; (intro w'; go_simp; with_reducible rfl); rotate_left; (simp only [nm_]; rfl)
          refine pure_ (i := 2) (N := some 33) (v := ?_) (a' := ?_) (bs_ 8 0x7) rfl rfl (any_of HT_.out (by kernel_rfl)) (fun _ _ _ h => h) (Or.inl ⟨by rfl, ?_⟩) ?_ ?_; rotate_left; (intro w'; go_simp; with_reducible rfl); rotate_left; (simp only [nm_]; rfl)
          refine pure_ (i := 3) (N := some 34) (v := ?_) (a' := ?_) (bs_ 8 0xf) rfl rfl (any_of HT_.out (by kernel_rfl)) (fun _ _ _ h => h) (Or.inl ⟨by rfl, ?_⟩) ?_ ?_; rotate_left; (intro w'; go_simp; with_reducible rfl); rotate_left; (simp only [nm_]; rfl)
          refine pure_ (i := 5) (N := some 36) (v := ?_) (a' := ?_) (bs_ 8 0x2f) rfl rfl (any_of HT_.out (by kernel_rfl)) (fun _ _ _ h => h) (Or.inl ⟨by rfl, ?_⟩) ?_ ?_; rotate_left; (intro w'; go_simp; with_reducible rfl); rotate_left; (simp only [nm_]; rfl)
          refine take_ (i := 4) (N := some 35) (v := ?_) (a' := ?_) (bs_ 8 0x3f) rfl rfl (take_ofW HT_.out HW_.out (by kernel_rfl)) (fun _ _ _ h => h) (Or.inl ⟨by rfl, ?_⟩) hHeld ?_ ?_; rotate_left; (rintro w' ⟨s0, s1, s2, s3, s4, s5⟩; go_simp; with_reducible rfl); rotate_left; (simp only [nm_]; rfl)
          refine take_ (i := 6) (N := some 37) (v := ?_) (a' := ?_) (bs_ 8 0x7f) rfl rfl (take_ofW HT_.out HW_.out (by kernel_rfl)) (fun _ _ _ h => h) (Or.inl ⟨by rfl, ?_⟩) hHeld ?_ ?_; rotate_left; (rintro w' ⟨s0, s1, s2, s3, s4, s5⟩; go_simp; with_reducible rfl); rotate_left; (simp only [nm_]; rfl)
          refine pure_ (i := 7) (N := some 38) (v := ?_) (a' := ?_) (bs_ 8 0xff) rfl rfl (any_of HT_.out (by kernel_rfl)) (fun _ _ _ h => h) (Or.inl ⟨by rfl, ?_⟩) ?_ ?_; rotate_left; (intro w'; go_simp; with_reducible rfl); rotate_left; (simp only [nm_]; rfl)
          refine done_ (done_of HT_.out (by kernel_rfl)) ?_
          try go_wp2
          go_roundg kj4
          case measure => have := HK1.out; have := HJ4.out; omega
          case rel => exact ⟨(x5_1), (x6_1), (wrap64 (x7_1 + 1)), (by first | rfl | (simp; done) | (simp [*]; done)), (by first | rfl | (simp; done) | (simp [*]; done)), H', ⟨by have := HK1.out; have := HJ4.out; omega⟩, ⟨by (with_reducible repeat (first | apply Kd.V_alloc | apply Kd.V_drewN | apply Kd.V_drew)); exact HO_0.out⟩, ⟨by (with_reducible repeat (first | apply Kd.N_alloc | apply Kd.N_drewN | apply Kd.N_drew)); exact HO_5.out⟩, ⟨by (with_reducible repeat (first | apply Kd.V_alloc | apply Kd.V_drewN | apply Kd.V_drew)); exact HO_252002.out⟩, ⟨by (with_reducible repeat (first | refine blk_drewN ?_ _ | refine blk_drew ?_ | refine blk_alloc ?_ _)); exact BK251.out⟩, ⟨by repeat (first | (with_reducible first | exact HB.out | apply below_alloc | apply pw_below_drewN | apply below_drew1 | refine below_set ?_ GE251.out) | exact HB.out)⟩⟩
         ·rw [if_neg c27] at H
          have c27b0 : (((rd_T94 l0 x7_1).f0).toList == a1_0.toList) = false := beq_eq_false_iff_ne.mpr c27
          have c27b1 : (((rd_T94 l0 x7_1).f0).toList != a1_0.toList) = true := bne_iff_ne.mpr c27
          by_cases c29 : x5_1.length < 2932031007402
          ·rw [if_pos c29] at H
           have LMc29 := Aside0.mk c29
           clear c29
           obtain ⟨y267, hy267⟩ : ∃ y_ : List (S94), y_ = (x5_1 ++ [(⟨(rd_T94 l0 x7_1).f0, (rd_T94 l0 x7_1).f1, (rd_T94 l0 x7_1).f2⟩ : S94)]) := ⟨_, rfl⟩
           replace H : (tallymanref7_with.l0 kj4 l0 y267 x6_1 (wrap64 (x7_1 + 1)) a1_0 a1_1 l1_2) = some r := by first | (rw [hy267]; with_reducible exact H) | (have H2_ := (Option.bind_some _ _).symm.trans H; rw [hy267]; with_reducible exact H2_) | (have H2_ := (Option.bind_some _ _).symm.trans H; with_reducible exact H2_) | with_reducible exact H | (rw [hy267]; exact H) | exact H
           have Ny267 := Aside0.mk hy267
           clear hy267
           have H' := Aside0.mk H
           clear H
           try go_wp2
           have n0_ := xa_ (Kd.V_drew HO_0.out)
           have n1_ := xa_ (Kd.N_drew HO_5.out)
           have n2_ := xa_ (Kd.V_drew HO_252002.out)
           have n3_ := xa_ (blk_drew BK251.out)
           have n4_ := xa_ (below_drew1 HB.out)
           clear HO_0
           clear HO_5
           clear HO_252002
           clear BK251
           clear HB
           have HO_0 := n0_
           have HO_5 := n1_
           have HO_252002 := n2_
           have BK251 := n3_
           have HB := n4_
           clear n0_ n1_ n2_ n3_ n4_
           have p265 : 0 ≤ (x7_1 : Int) := of_decide_eq_true (by first | (with_reducible assumption) | assumption)
           have q265 : x7_1 < (l0.length : Int) := of_decide_eq_true (by first | (with_reducible assumption) | assumption)
           obtain ⟨ad265, A265_2, c265_2, e265, hx265_0, hx265_1, hx265_2, hl265_2, hi265_2⟩ := at_T94 (Kd.V_reads' HO_0.out).2.2 x7_1 p265 q265
           cases e265
           obtain ⟨ce265, hce265, hMe265, hcc265⟩ := Kd.V_get HO_0.out z94 x7_1 p265 (by first | exact q265 | exact of_decide_eq_true (by first | (with_reducible assumption) | assumption) | (have e_ := (Kd.V_reads' HO_0.out).1; omega))
           obtain ⟨ua265_2, uc265_2, rfl, ul265_2, ge265_2⟩ := k94_openF hMe265
           have hv265_2 := hcc265 2 _ rfl
           rw [add_field _ _ 2 (by omega)] at hv265_2
           replace hv265_2 := Option.some.inj (hv265_2.symm.trans hx265_2)
           injection hv265_2 with hva_ hvn_ hvc_
           rw [hva_] at ge265_2
           rw [hvc_] at ul265_2
           have HL265_2 := xa_ (show Kd.V (Kd.int .u8) 5 _ w.heap.size _ _ ((rd_T94 l0 x7_1).f2) from Kd.V_mk ul265_2 ge265_2)
           clear hva_ hvn_ hvc_ ge265_2 ul265_2
           clear hcc265 hce265
           have HR265_2 := Aside0.mk hi265_2
           have HC265_2 := Aside0.mk hl265_2
           clear hi265_2 hl265_2
           replace p265 := eq_true p265
           replace q265 := eq_true q265
           refine start_ (n := 8) (S := fun w' => w'.cell? ⟨gb251, 0, none⟩ = some (.string a1_0) ∧ w'.cell? ⟨gb251, 1, none⟩ = some (.bool a1_1) ∧ w'.cell? ⟨gb251, 2, none⟩ = some (.slice A1_2 l1_2.length c1_2) ∧ w'.cell? (ad265.add ((x7_1).toNat * 3)) = some (.string ((rd_T94 l0 x7_1).f0)) ∧ w'.cell? ⟨(ad265.add ((x7_1).toNat * 3)).block, (ad265.add ((x7_1).toNat * 3)).off + 1, none⟩ = some (.bool ((rd_T94 l0 x7_1).f1)) ∧ w'.cell? ⟨(ad265.add ((x7_1).toNat * 3)).block, (ad265.add ((x7_1).toNat * 3)).off + 2, none⟩ = some (.slice A265_2 ((rd_T94 l0 x7_1).f2).length c265_2)) (ds := []) (bs_ 8 0x0) (by kernel_rfl) rfl rfl ⟨(blk_cell BK251.out 0).trans rfl, (blk_cell BK251.out 1).trans rfl, (blk_cell BK251.out 2).trans rfl, hx265_0, hx265_1, hx265_2⟩ (fun hHeld => ?_); refine with_tabW tallymanref7_with.tab9 tallymanref7_with.bits9 (fun HT_ HW_ => ?_)
           generalize wc.drew = w30 at HO_0 HO_5 HO_252002 BK251 HB HL265_2 HR265_2 hx265_0 hx265_1 hx265_2 hHeld ⊢
           refine pure_ (i := 0) (N := some 31) (v := ?_) (a' := ?_) (bs_ 8 0x1) rfl rfl (any_of HT_.out (by kernel_rfl)) (fun _ _ _ h => h) (Or.inl ⟨by rfl, ?_⟩) ?_ ?_; rotate_left; (intro w'; go_simp; with_reducible rfl); rotate_left; (simp only [nm_]; rfl)
           refine pure_ (i := 1) (N := some 32) (v := ?_) (a' := ?_) (bs_ 8 0x3) rfl rfl (any_of HT_.out (by kernel_rfl)) (fun _ _ _ h => h) (Or.inl ⟨by rfl, ?_⟩) ?_ ?_; rotate_left; (intro w'; go_simp; with_reducible rfl); rotate_left; (simp only [nm_]; rfl)
           refine pure_ (i := 2) (N := some 33) (v := ?_) (a' := ?_) (bs_ 8 0x7) rfl rfl (any_of HT_.out (by kernel_rfl)) (fun _ _ _ h => h) (Or.inl ⟨by rfl, ?_⟩) ?_ ?_; rotate_left; (intro w'; go_simp; with_reducible rfl); rotate_left; (simp only [nm_]; rfl)
           refine pure_ (i := 3) (N := some 34) (v := ?_) (a' := ?_) (bs_ 8 0xf) rfl rfl (any_of HT_.out (by kernel_rfl)) (fun _ _ _ h => h) (Or.inl ⟨by rfl, ?_⟩) ?_ ?_; rotate_left; (intro w'; go_simp; with_reducible rfl); rotate_left; (simp only [nm_]; rfl)
           refine pure_ (i := 5) (N := some 36) (v := ?_) (a' := ?_) (bs_ 8 0x2f) rfl rfl (any_of HT_.out (by kernel_rfl)) (fun _ _ _ h => h) (Or.inl ⟨by rfl, ?_⟩) ?_ ?_; rotate_left; (intro w'; go_simp; with_reducible rfl); rotate_left; (simp only [nm_]; rfl)
           refine take_ (i := 4) (N := some 35) (v := ?_) (a' := ?_) (bs_ 8 0x3f) rfl rfl (take_ofW HT_.out HW_.out (by kernel_rfl)) (fun _ _ _ h => h) (Or.inl ⟨by rfl, ?_⟩) hHeld ?_ ?_; rotate_left; (rintro w' ⟨s0, s1, s2, s3, s4, s5⟩; go_simp; with_reducible rfl); rotate_left; (simp only [nm_]; rfl)
           refine take_ (i := 6) (N := some 37) (v := ?_) (a' := ?_) (bs_ 8 0x7f) rfl rfl (take_ofW HT_.out HW_.out (by kernel_rfl)) (fun _ _ _ h => h) (Or.inl ⟨by rfl, ?_⟩) hHeld ?_ ?_; rotate_left; (rintro w' ⟨s0, s1, s2, s3, s4, s5⟩; go_simp; with_reducible rfl); rotate_left; (simp only [nm_]; rfl)
           refine pure_ (i := 7) (N := some 38) (v := ?_) (a' := ?_) (bs_ 8 0xff) rfl rfl (any_of HT_.out (by kernel_rfl)) (fun _ _ _ h => h) (Or.inl ⟨by rfl, ?_⟩) ?_ ?_; rotate_left; (intro w'; go_simp; with_reducible rfl); rotate_left; (simp only [nm_]; rfl)
           refine done_ (done_of HT_.out (by kernel_rfl)) ?_
           have p266 : 0 ≤ (x7_1 : Int) := of_decide_eq_true (by first | (with_reducible assumption) | assumption)
           have q266 : x7_1 < (l0.length : Int) := of_decide_eq_true (by first | (with_reducible assumption) | assumption)
           obtain ⟨ad266, A266_2, c266_2, e266, hx266_0, hx266_1, hx266_2, hl266_2, hi266_2⟩ := at_T94 (Kd.V_reads' HO_0.out).2.2 x7_1 p266 q266
           obtain rfl : ad265 = ad266 := (by injection e266)
           obtain ⟨ce266, hce266, hMe266, hcc266⟩ := Kd.V_get HO_0.out z94 x7_1 p266 (by first | exact q266 | exact of_decide_eq_true (by first | (with_reducible assumption) | assumption) | (have e_ := (Kd.V_reads' HO_0.out).1; omega))
           obtain ⟨ua266_2, uc266_2, rfl, ul266_2, ge266_2⟩ := k94_openF hMe266
           have hv266_2 := hcc266 2 _ rfl
           rw [add_field _ _ 2 (by omega)] at hv266_2
           replace hv266_2 := Option.some.inj (hv266_2.symm.trans hx266_2)
           injection hv266_2 with hva_ hvn_ hvc_
           rw [hva_] at ge266_2
           rw [hvc_] at ul266_2
           have HL266_2 := xa_ (show Kd.V (Kd.int .u8) 5 _ w.heap.size _ _ ((rd_T94 l0 x7_1).f2) from Kd.V_mk ul266_2 ge266_2)
           clear hva_ hvn_ hvc_ ge266_2 ul266_2
           clear hcc266 hce266
           have HR266_2 := Aside0.mk hi266_2
           have HC266_2 := Aside0.mk hl266_2
           clear hi266_2 hl266_2
           replace p266 := eq_true p266
           replace q266 := eq_true q266
           have ea_ := Option.some.inj (hx265_2.symm.trans hx266_2)
           injection ea_ with ea_ en_ ec_
           subst ea_
           subst ec_
           clear en_
           try go_wp2_with (first | ((with_reducible refine gate_builtin (b := .append) (xs := #[.tmp 39, .tmp 44]) rfl ?_); at_builtin; refine Kd.N_append k94 (w0 := w) w.heap.size rfl (.tmp 39) (.tmp 44) 42 94 (.agg #[(.string ⟨#[]⟩), (.bool false), (.slice none 0 0)]) 48 rfl Tryd.underlying42 info94 rfl (by decide) (by omega) u5 x5_1 (⟨(rd_T94 l0 x7_1).f0, (rd_T94 l0 x7_1).f1, (rd_T94 l0 x7_1).f2⟩ : S94) [.string ((rd_T94 l0 x7_1).f0), .bool ((rd_T94 l0 x7_1).f1), .slice A265_2 ((rd_T94 l0 x7_1).f2).length c265_2] (fun k_ => ((P0_ k_ ∨ P1_2_ k_) ∨ w.heap.size ≤ k_) ∧ k_ ≠ gb251) (fun k_ => ((fun k_ => ((P0_ k_ ∨ P1_2_ k_) ∨ w.heap.size ≤ k_) ∧ k_ ≠ gb251)) k_ ∧ some k_ ≠ (u5 : Value).ownBlock) rfl rfl ?aP (fun _ hk => hk) ?aF ?aO ?aB ?aS ?aL ?_; (case aP => exact (k94_mkF _ _ (⟨(rd_T94 l0 x7_1).f0, (rd_T94 l0 x7_1).f1, (rd_T94 l0 x7_1).f2⟩ : S94) (Kd.V_reads' (Kd.V_mono (ok' := (fun k_ => ((fun k_ => ((P0_ k_ ∨ P1_2_ k_) ∨ w.heap.size ≤ k_) ∧ k_ ≠ gb251)) k_ ∧ some k_ ≠ (u5 : Value).ownBlock)) (HL266_2.out) (fun k_ hk => ⟨⟨hk.1, hk.2.2⟩, hk.2.1⟩))).2.1 (Kd.V_F (Kd.V_mono (ok' := (fun k_ => ((fun k_ => ((P0_ k_ ∨ P1_2_ k_) ∨ w.heap.size ≤ k_) ∧ k_ ≠ gb251)) k_ ∧ some k_ ≠ (u5 : Value).ownBlock)) (HL266_2.out) (fun k_ hk => ⟨⟨hk.1, hk.2.2⟩, hk.2.1⟩))))); (case aB => exact (by repeat (first | (with_reducible first | exact HB.out | apply below_alloc | apply pw_below_drewN | apply below_drew1 | refine below_set ?_ GE251.out) | exact HB.out))); (case aF => exact (fun k_ hk => ⟨(.inr (Nat.le_trans (below_size (by repeat (first | (with_reducible first | exact HB.out | apply below_alloc | apply pw_below_drewN | apply below_drew1 | refine below_set ?_ GE251.out) | exact HB.out))) hk)), Kd.freshB (xb_ BK251.out) k_ hk⟩)); (case aO => exact (xN_ HO_5.out)); (case aS => exact (below_size (by repeat (first | (with_reducible first | exact HB.out | apply below_alloc | apply pw_below_drewN | apply below_drew1 | refine below_set ?_ GE251.out) | exact HB.out)))); (case aL => have := LMc29.out; omega); intro v268 w31 ho hb hg hat; rw [← Ny267.out] at ho; replace HO_0 := xa_ (Kd.V_afterv (ok := (fun k_ => ((P0_ k_ ∨ P1_2_ k_) ∨ w.heap.size ≤ k_) ∧ k_ ≠ gb251)) (by (with_reducible repeat (first | apply Kd.V_alloc | apply Kd.V_drewN | apply Kd.V_drew)); exact Kd.V_mono HO_0.out (fun _ hk => ⟨⟨hk.1, hk.2.2⟩, hk.2.1⟩)) hg hat); replace HO_252002 := xa_ (Kd.V_afterv (ok := (fun k_ => ((P0_ k_ ∨ P1_2_ k_) ∨ w.heap.size ≤ k_) ∧ k_ ≠ gb251)) (by (with_reducible repeat (first | apply Kd.V_alloc | apply Kd.V_drewN | apply Kd.V_drew)); exact Kd.V_mono HO_252002.out (fun _ hk => ⟨⟨hk.1, hk.2.2⟩, hk.2.1⟩)) hg hat); replace BK251 := xa_ (blk_grown (xb_ BK251.out) hg (Kd.N_away HO_5.out (fun _ hk => hk.2))); replace HL265_2 := xa_ (Kd.V_afterv (ok := (fun k_ => ((P0_ k_ ∨ P1_2_ k_) ∨ w.heap.size ≤ k_) ∧ k_ ≠ gb251)) (by (with_reducible repeat (first | apply Kd.V_alloc | apply Kd.V_drewN | apply Kd.V_drew)); exact Kd.V_mono HL265_2.out (fun _ hk => ⟨⟨hk.1, hk.2.2⟩, hk.2.1⟩)) hg hat); replace HL266_2 := xa_ (Kd.V_afterv (ok := (fun k_ => ((P0_ k_ ∨ P1_2_ k_) ∨ w.heap.size ≤ k_) ∧ k_ ≠ gb251)) (by (with_reducible repeat (first | apply Kd.V_alloc | apply Kd.V_drewN | apply Kd.V_drew)); exact Kd.V_mono HL266_2.out (fun _ hk => ⟨⟨hk.1, hk.2.2⟩, hk.2.1⟩)) hg hat); replace HB := xa_ (hb); replace HO269 := xa_ (ho); clear ho hb hg hat))
           go_roundg kj4
           case measure => have := HK1.out; have := HJ4.out; omega
           case rel => exact ⟨(y267), (x6_1), (wrap64 (x7_1 + 1)), (by first | rfl | (simp; done) | (simp [*]; done)), (by first | rfl | (simp; done) | (simp [*]; done)), H', ⟨by have := HK1.out; have := HJ4.out; omega⟩, ⟨by (with_reducible repeat (first | apply Kd.V_alloc | apply Kd.V_drewN | apply Kd.V_drew)); exact Kd.V_mono HO_0.out (fun _ hk => ⟨hk.1.1, ⟨hk.2, hk.1.2⟩⟩)⟩, ⟨by (with_reducible repeat (first | apply Kd.N_alloc | apply Kd.N_drewN | apply Kd.N_drew)); exact HO269.out⟩, ⟨by (with_reducible repeat (first | apply Kd.V_alloc | apply Kd.V_drewN | apply Kd.V_drew)); exact Kd.V_mono HO_252002.out (fun _ hk => ⟨hk.1.1, ⟨hk.2, hk.1.2⟩⟩)⟩, ⟨by (with_reducible repeat (first | refine blk_drewN ?_ _ | refine blk_drew ?_ | refine blk_alloc ?_ _)); exact BK251.out⟩, ⟨by repeat (first | (with_reducible first | exact HB.out | apply below_alloc | apply pw_below_drewN | apply below_drew1 | refine below_set ?_ GE251.out) | exact HB.out)⟩⟩
          ·rw [if_neg c29] at H
           exact absurd H (by simp)
        ·rw [if_neg c26] at H
         exact absurd H (by simp)
       ·rw [if_neg c25] at H
        exact absurd H (by simp)
   ·rw [if_neg c4] at H
    have c4b0 : decide (x7_1 < (l0.length : Int)) = false := decide_eq_false c4
    clear c4
    by_cases c32 : x6_1 = true
    ·subst c32
     have H1 : (some x5_1) = some r := by rw [if_pos rfl] at H; exact H
     clear H
     have H := H1
     clear H1
     obtain rfl := Option.some.inj H
     go_wp2
     go_ret
     exact ⟨_, by first | rfl | (simp [errW_none, errW_some] <;> rfl) | (simp [*, errW_none, errW_some] <;> rfl), by (with_reducible repeat (first | apply Kd.N_alloc | apply Kd.N_drewN | apply Kd.N_drew)); exact Kd.N_mono HO_5.out (fun _ hk => hk.1), by repeat (first | (with_reducible first | exact HB.out | apply below_alloc | apply pw_below_drewN | apply below_drew1 | refine below_set ?_ GE251.out) | exact HB.out)⟩
    ·replace c32 := Bool.eq_false_iff.mpr c32
     subst c32
     have H1 : (if x5_1.length < 2932031007402 then (some (x5_1 ++ [(⟨a1_0, a1_1, l1_2⟩ : S94)])) else (none)) = some r := by rw [if_neg (show ¬ (false = true) by decide)] at H; exact H
     clear H
     have H := H1
     clear H1
     by_cases c33 : x5_1.length < 2932031007402
     ·rw [if_pos c33] at H
      have LMc33 := Aside0.mk c33
      clear c33
      obtain ⟨y252, hy252⟩ : ∃ y_ : List (S94), y_ = (x5_1 ++ [(⟨a1_0, a1_1, l1_2⟩ : S94)]) := ⟨_, rfl⟩
      replace H : (some y252) = some r := by first | (rw [hy252]; with_reducible exact H) | (have H2_ := (Option.bind_some _ _).symm.trans H; rw [hy252]; with_reducible exact H2_) | (have H2_ := (Option.bind_some _ _).symm.trans H; with_reducible exact H2_) | with_reducible exact H | (rw [hy252]; exact H) | exact H
      have Ny252 := Aside0.mk hy252
      clear hy252
      obtain rfl := Option.some.inj H
      have hcz34_0 : wr.cell? ⟨gb251, 0, none⟩ = some (.string a1_0) := (blk_cell BK251.out 0).trans rfl
      have hcz34_1 : wr.cell? ⟨gb251, 1, none⟩ = some (.bool a1_1) := (blk_cell BK251.out 1).trans rfl
      have hcz34_2 : wr.cell? ⟨gb251, 2, none⟩ = some (.slice A1_2 l1_2.length c1_2) := (blk_cell BK251.out 2).trans rfl
      have hfz34_0 := blk_frozen BK251.out 0
      have hfz34_1 := blk_frozen BK251.out 1
      have hfz34_2 := blk_frozen BK251.out 2
      go_wp2_with (first | ((with_reducible refine gate_builtin (b := .append) (xs := #[.tmp 48, .tmp 50]) rfl ?_); at_builtin; refine Kd.N_append k94 (w0 := w) w.heap.size rfl (.tmp 48) (.tmp 50) 42 94 (.agg #[(.string ⟨#[]⟩), (.bool false), (.slice none 0 0)]) 48 rfl Tryd.underlying42 info94 rfl (by decide) (by omega) u5 x5_1 (⟨a1_0, a1_1, l1_2⟩ : S94) [.string a1_0, .bool a1_1, .slice A1_2 l1_2.length c1_2] (fun k_ => ((P0_ k_ ∨ P1_2_ k_) ∨ w.heap.size ≤ k_) ∧ k_ ≠ gb251) (fun k_ => ((fun k_ => ((P0_ k_ ∨ P1_2_ k_) ∨ w.heap.size ≤ k_) ∧ k_ ≠ gb251)) k_ ∧ some k_ ≠ (u5 : Value).ownBlock) rfl rfl ?aP (fun _ hk => hk) ?aF ?aO ?aB ?aS ?aL ?_; (case aP => exact (k94_mkF _ _ (⟨a1_0, a1_1, l1_2⟩ : S94) (Kd.V_reads' (Kd.V_mono (ok' := (fun k_ => ((fun k_ => ((P0_ k_ ∨ P1_2_ k_) ∨ w.heap.size ≤ k_) ∧ k_ ≠ gb251)) k_ ∧ some k_ ≠ (u5 : Value).ownBlock)) (HO_252002.out) (fun k_ hk => ⟨⟨hk.1, hk.2.2⟩, hk.2.1⟩))).2.1 (Kd.V_F (Kd.V_mono (ok' := (fun k_ => ((fun k_ => ((P0_ k_ ∨ P1_2_ k_) ∨ w.heap.size ≤ k_) ∧ k_ ≠ gb251)) k_ ∧ some k_ ≠ (u5 : Value).ownBlock)) (HO_252002.out) (fun k_ hk => ⟨⟨hk.1, hk.2.2⟩, hk.2.1⟩))))); (case aB => exact (by repeat (first | (with_reducible first | exact HB.out | apply below_alloc | apply pw_below_drewN | apply below_drew1 | refine below_set ?_ GE251.out) | exact HB.out))); (case aF => exact (fun k_ hk => ⟨(.inr (Nat.le_trans (below_size (by repeat (first | (with_reducible first | exact HB.out | apply below_alloc | apply pw_below_drewN | apply below_drew1 | refine below_set ?_ GE251.out) | exact HB.out))) hk)), Kd.freshB (xb_ BK251.out) k_ hk⟩)); (case aO => exact (xN_ HO_5.out)); (case aS => exact (below_size (by repeat (first | (with_reducible first | exact HB.out | apply below_alloc | apply pw_below_drewN | apply below_drew1 | refine below_set ?_ GE251.out) | exact HB.out)))); (case aL => have := LMc33.out; omega); intro v253 w35 ho hb hg hat; rw [← Ny252.out] at ho; replace HO_0 := xa_ (Kd.V_afterv (ok := (fun k_ => ((P0_ k_ ∨ P1_2_ k_) ∨ w.heap.size ≤ k_) ∧ k_ ≠ gb251)) (by (with_reducible repeat (first | apply Kd.V_alloc | apply Kd.V_drewN | apply Kd.V_drew)); exact Kd.V_mono HO_0.out (fun _ hk => ⟨⟨hk.1, hk.2.2⟩, hk.2.1⟩)) hg hat); replace HO_252002 := xa_ (Kd.V_afterv (ok := (fun k_ => ((P0_ k_ ∨ P1_2_ k_) ∨ w.heap.size ≤ k_) ∧ k_ ≠ gb251)) (by (with_reducible repeat (first | apply Kd.V_alloc | apply Kd.V_drewN | apply Kd.V_drew)); exact Kd.V_mono HO_252002.out (fun _ hk => ⟨⟨hk.1, hk.2.2⟩, hk.2.1⟩)) hg hat); replace BK251 := xa_ (blk_grown (xb_ BK251.out) hg (Kd.N_away HO_5.out (fun _ hk => hk.2))); replace HB := xa_ (hb); replace HO254 := xa_ (ho); clear ho hb hg hat))
      go_ret
      exact ⟨_, by first | rfl | (simp [errW_none, errW_some] <;> rfl) | (simp [*, errW_none, errW_some] <;> rfl), by (with_reducible repeat (first | apply Kd.N_alloc | apply Kd.N_drewN | apply Kd.N_drew)); exact Kd.N_mono HO254.out (fun _ hk => hk.1), by repeat (first | (with_reducible first | exact HB.out | apply below_alloc | apply pw_below_drewN | apply below_drew1 | refine below_set ?_ GE251.out) | exact HB.out)⟩
     ·rw [if_neg c33] at H
      exact absurd H (by simp)

end Go.Proofs.YtidlldfghkaeeaaDoor.P
