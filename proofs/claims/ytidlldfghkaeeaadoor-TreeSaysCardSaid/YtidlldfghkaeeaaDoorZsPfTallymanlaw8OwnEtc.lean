/- Put together by pack2.py: PfTallymanlaw8Own, PfTallymanref7Alike, PfTallymanref7Bytes, PfTallymanref7At -/
import Derived.Test.YtidlldfghkaeeaaDoorZsRefNamesEtc
import Derived.Test.YtidlldfghkaeeaaDoorZsW0
section
namespace Go.Proofs.YtidlldfghkaeeaaDoor.P
open Go.RowKit Go.Proofs.YtidlldfghkaeeaaDoorW.PrintWords Go.Proofs.YtidlldfghkaeeaaDoorW.PrintLast Go.Proofs.YtidlldfghkaeeaaDoorW.PrintMore
attribute [local go_sem] max2_int min2_int max_two min_two max_three min_three max_four min_four   -- for this text's walks alone
set_option linter.unusedVariables false
set_option linter.unusedSimpArgs false
/-! ### tallymanlaw8_own: function 22 -/
def tallymanlaw8_own.l0 : Nat → List (S94) → Int → List (S30) → Option ((List (S94)))
 | 0, _, _, _ => none
 | k + 1, x3, x4, x233000 => if x4 < (x233000.length : Int) then (if 0 ≤ x4 then (if x3.length < 2932031007402 then (tallymanlaw8_own.l0 k (x3 ++ [(⟨(rd_T30 x233000 x4).f0, (rd_T30 x233000 x4).f1, (rd_T30 x233000 x4).f2⟩ : S94)]) (wrap64 (x4 + 1)) x233000) else (none)) else (none)) else (some x3)
def tallymanlaw8_own.f (k : Nat) (l0_0 : List (S30)) : Option ((List (S94))) := tallymanlaw8_own.l0 k ([] : List (S94)) 0 l0_0
def tallymanlaw8_own.T5 : Bool × List (List Nat × List Nat) := (true, [([], []), ([], []), ([1], [1]), ([], []), ([2, 3], [2, 3]), ([4], [4]), ([5], [5]), ([], []), ([7], [7]), ([], []), ([8, 9], [8, 9]), ([10], [10]), ([11], [11]), ([], []), ([13], [13]), ([], []), ([14, 15], [14, 15]), ([16], [16]), ([17], [17]), ([6, 12, 18], [6, 12, 18]), ([19], [19]), ([0, 20], [0, 20]), ([21, 21, 0, 1, 2, 3, 4, 5, 6, 7, 8, 9, 10, 11, 12, 13, 14, 15, 16, 17, 18, 19, 20, 21], [0, 21])])
def tallymanlaw8_own.B5 : List Nat := [0, 0, 2, 0, 14, 30, 62, 0, 128, 0, 896, 1920, 3968, 0, 8192, 0, 57344, 122880, 253952, 524286, 1048574, 2097151, 4194303]
theorem tallymanlaw8_own.tab5 : rtab .any (opsOf Tryd.f22 5) = tallymanlaw8_own.T5 := by kernel_rfl
theorem tallymanlaw8_own.bits5 : waitsOk tallymanlaw8_own.T5.2 tallymanlaw8_own.B5 = true := by kernel_rfl
set_option maxHeartbeats 8000000 in
set_option maxRecDepth 100000 in
theorem tallymanlaw8_own.calls (k : Nat) (P0_0_ : Nat → Prop) (A0_0 : Option Addr) (c0_0 : Nat) (l0_0 : List (S30)) (r : List (S94)) (w : World) (hs0_0 : Kd.V k30 30 w w.heap.size (fun k_ => P0_0_ k_) (.slice A0_0 l0_0.length c0_0) l0_0) (h : tallymanlaw8_own.f k l0_0 = some r) :
  Calls Tryd.prog 22 #[.agg #[.slice A0_0 l0_0.length c0_0]] w fun e w' => ∃ v0_ : Value, e = .returned (v0_) ∧ Kd.N k94 94 w' w.heap.size (fun k_ => (P0_0_ k_ ∨ w.heap.size ≤ k_)) v0_ r ∧ Below w.heap.size w w' := by
 have hu26 := Tryd.underlying26
 have hu94 := Tryd.underlying94
 have HO0_0 := xa_ (show Kd.V k30 30 w w.heap.size (fun k_ => (P0_0_ k_ ∨ w.heap.size ≤ k_)) (.slice A0_0 l0_0.length c0_0) l0_0 from Kd.V_mono hs0_0 (fun k_ hk => .inl hk))
 have HB := xa_ (Below.refl w.heap.size w)
 have H : (tallymanlaw8_own.l0 k ([] : List (S94)) 0 l0_0) = some r := h
 clear h
 have H' := Aside0.mk H
 clear H
 go_enter Tryd.func22, Tryd.ntmps22
 go_wp2_with (first | ((with_reducible refine gate_dst (N := 1) rfl ?_); refine box_event ?hg (N := 1) ?hd (cs := #[.slice A0_0 l0_0.length c0_0]) (t := 26) ?hr ?_; (case hd => rfl); (case hg => rfl); (case hr => first | (go_simp; done) | (go_simp; rfl)); intro gb232 hg w2 hbox hb; have n0_ := xa_ (Kd.V_below (Kd.V_elderB (xV_ HO0_0.out) gb232 (Nat.le_of_eq hg.symm)) hb); have n1_ := xa_ (below_step (by repeat (first | (with_reducible first | exact HB.out | apply below_alloc | apply pw_below_drewN | apply below_drew1) | exact HB.out)) hb); have n2_ := xa_ (hbox); have n3_ := xa_ ((by rw [hg]; exact (below_size (by repeat (first | (with_reducible first | exact HB.out | apply below_alloc | apply pw_below_drewN | apply below_drew1) | exact HB.out))) : w.heap.size ≤ gb232)); have n4_ := xa_ ((by rw [hg]; exact (below_size (by repeat (first | (with_reducible first | exact HB.out | apply below_alloc | apply pw_below_drewN | apply below_drew1) | exact HB.out))) : w.heap.size ≤ gb232)); clear HO0_0; clear HB; have HO0_0 := n0_; have HB := n1_; have BK232 := n2_; have GW232 := n3_; have GE232 := n4_; clear n0_ n1_ n2_ n3_ n4_; clear hb hbox hg))
 go_loopg [3, 4] k (fun kq v3 v4 w' => ∃ (x3_1 : List (S94)) (x4_1 : Int), v4 = .int .i64 x4_1 ∧ Aside0 (tallymanlaw8_own.l0 kq x3_1 x4_1 l0_0 = some r) ∧ Aside0 (kq ≤ k) ∧ Aside0 (Kd.N k94 94 w' w.heap.size (fun k_ => (P0_0_ k_ ∨ w.heap.size ≤ k_) ∧ k_ ≠ gb232) v3 x3_1) ∧ Aside0 (Kd.V k30 30 w' w.heap.size (fun k_ => (P0_0_ k_ ∨ w.heap.size ≤ k_) ∧ some k_ ≠ (v3 : Value).ownBlock ∧ k_ ≠ gb232) (.slice A0_0 l0_0.length c0_0) l0_0) ∧ Aside0 (w'.heap[gb232]? = some (.cells #[(.slice A0_0 l0_0.length c0_0)] 26 (0, 0))) ∧ Aside0 (Below w.heap.size w w'))
 case atStart => exact ⟨(([] : List (S94))), (0), (by first | rfl | (simp; done) | (simp [*]; done)), H', ⟨Nat.le_refl _⟩, ⟨by first | exact Kd.S_nil _ _ _ _ _ | exact Kd.N_nil _ _ _ _ _ | exact Kd.V_nil _ _ _ _ _ | exact Kd.Q_nil _ _ _ _ _ | exact Kd.R_nil _ _ _ _ _⟩, ⟨by (with_reducible repeat (first | apply Kd.V_alloc | apply Kd.V_drewN | apply Kd.V_drew)); exact Kd.V_mono HO0_0.out (fun _ hk => ⟨hk.1, ⟨(by simp [Value.ownBlock]), hk.2⟩⟩)⟩, ⟨by (with_reducible repeat (first | refine blk_drewN ?_ _ | refine blk_drew ?_ | refine blk_alloc ?_ _)); exact BK232.out⟩, ⟨by repeat (first | (with_reducible first | exact HB.out | apply below_alloc | apply pw_below_drewN | apply below_drew1 | refine below_set ?_ GE232.out) | exact HB.out)⟩⟩
 case round =>
  clear H'
  try clear c2
  try clear p2
  obtain ⟨x3_1, x4_1, rfl, HA, HK1, HO_3, HO_233000, BK232, HB⟩ := hrel
  cases gk with
  | zero => exact absurd HA.out (by simp [tallymanlaw8_own.l0])
  | succ k1 =>
   have H := HA.out
   clear HA
   simp only [tallymanlaw8_own.l0] at H
   by_cases c3 : x4_1 < (l0_0.length : Int)
   ·rw [if_pos c3] at H
    have c3b0 : decide (x4_1 < (l0_0.length : Int)) = true := decide_eq_true c3
    clear c3
    by_cases c4 : 0 ≤ x4_1
    ·rw [if_pos c4] at H
     have c4b0 : decide (0 ≤ x4_1) = true := decide_eq_true c4
     clear c4
     by_cases c5 : x3_1.length < 2932031007402
     ·rw [if_pos c5] at H
      have LMc5 := Aside0.mk c5
      clear c5
      obtain ⟨y236, hy236⟩ : ∃ y_ : List (S94), y_ = (x3_1 ++ [(⟨(rd_T30 l0_0 x4_1).f0, (rd_T30 l0_0 x4_1).f1, (rd_T30 l0_0 x4_1).f2⟩ : S94)]) := ⟨_, rfl⟩
      replace H : (tallymanlaw8_own.l0 k1 y236 (wrap64 (x4_1 + 1)) l0_0) = some r := by first | (rw [hy236]; with_reducible exact H) | (have H2_ := (Option.bind_some _ _).symm.trans H; rw [hy236]; with_reducible exact H2_) | (have H2_ := (Option.bind_some _ _).symm.trans H; with_reducible exact H2_) | with_reducible exact H | (rw [hy236]; exact H) | exact H
      have Ny236 := Aside0.mk hy236
      clear hy236
      have H' := Aside0.mk H
      clear H
      have hcz6_0 : wr.cell? ⟨gb232, 0, none⟩ = some (.slice A0_0 l0_0.length c0_0) := (blk_cell BK232.out 0).trans rfl
      have hfz6_0 := blk_frozen BK232.out 0
      try go_wp2
      have n0_ := xa_ (Kd.N_drew HO_3.out)
      have n1_ := xa_ (Kd.V_drew HO_233000.out)
      have n2_ := xa_ (blk_drew BK232.out)
      have n3_ := xa_ (below_drew1 HB.out)
      clear HO_3
      clear HO_233000
      clear BK232
      clear HB
      have HO_3 := n0_
      have HO_233000 := n1_
      have BK232 := n2_
      have HB := n3_
      clear n0_ n1_ n2_ n3_
      have p233 : 0 ≤ (x4_1 : Int) := of_decide_eq_true (by first | (with_reducible assumption) | assumption)
      have q233 : x4_1 < (l0_0.length : Int) := of_decide_eq_true (by first | (with_reducible assumption) | assumption)
      obtain ⟨ad233, A233_2, c233_2, e233, hx233_0, hx233_1, hx233_2, hl233_2, hi233_2⟩ := at_T30 (Kd.V_reads' HO_233000.out).2.2 x4_1 p233 q233
      cases e233
      obtain ⟨ce233, hce233, hMe233, hcc233⟩ := Kd.V_get HO_233000.out z30 x4_1 p233 (by first | exact q233 | exact of_decide_eq_true (by first | (with_reducible assumption) | assumption) | (have e_ := (Kd.V_reads' HO_233000.out).1; omega))
      obtain ⟨ua233_2, uc233_2, rfl, ul233_2, ge233_2⟩ := k30_openF hMe233
      have hv233_2 := hcc233 2 _ rfl
      rw [add_field _ _ 2 (by omega)] at hv233_2
      replace hv233_2 := Option.some.inj (hv233_2.symm.trans hx233_2)
      injection hv233_2 with hva_ hvn_ hvc_
      rw [hva_] at ge233_2
      rw [hvc_] at ul233_2
      have HL233_2 := xa_ (show Kd.V (Kd.int .u8) 5 _ w.heap.size _ _ ((rd_T30 l0_0 x4_1).f2) from Kd.V_mk ul233_2 ge233_2)
      clear hva_ hvn_ hvc_ ge233_2 ul233_2
      clear hcc233 hce233
      have HR233_2 := Aside0.mk hi233_2
      have HC233_2 := Aside0.mk hl233_2
      clear hi233_2 hl233_2
      replace p233 := eq_true p233
      replace q233 := eq_true q233
      have p234 : 0 ≤ (x4_1 : Int) := of_decide_eq_true (by first | (with_reducible assumption) | assumption)
      have q234 : x4_1 < (l0_0.length : Int) := of_decide_eq_true (by first | (with_reducible assumption) | assumption)
      obtain ⟨ad234, A234_2, c234_2, e234, hx234_0, hx234_1, hx234_2, hl234_2, hi234_2⟩ := at_T30 (Kd.V_reads' HO_233000.out).2.2 x4_1 p234 q234
      obtain rfl : ad233 = ad234 := (by injection e234)
      obtain ⟨ce234, hce234, hMe234, hcc234⟩ := Kd.V_get HO_233000.out z30 x4_1 p234 (by first | exact q234 | exact of_decide_eq_true (by first | (with_reducible assumption) | assumption) | (have e_ := (Kd.V_reads' HO_233000.out).1; omega))
      obtain ⟨ua234_2, uc234_2, rfl, ul234_2, ge234_2⟩ := k30_openF hMe234
      have hv234_2 := hcc234 2 _ rfl
      rw [add_field _ _ 2 (by omega)] at hv234_2
      replace hv234_2 := Option.some.inj (hv234_2.symm.trans hx234_2)
      injection hv234_2 with hva_ hvn_ hvc_
      rw [hva_] at ge234_2
      rw [hvc_] at ul234_2
      have HL234_2 := xa_ (show Kd.V (Kd.int .u8) 5 _ w.heap.size _ _ ((rd_T30 l0_0 x4_1).f2) from Kd.V_mk ul234_2 ge234_2)
      clear hva_ hvn_ hvc_ ge234_2 ul234_2
      clear hcc234 hce234
      have HR234_2 := Aside0.mk hi234_2
      have HC234_2 := Aside0.mk hl234_2
      clear hi234_2 hl234_2
      replace p234 := eq_true p234
      replace q234 := eq_true q234
      have ea_ := Option.some.inj (hx233_2.symm.trans hx234_2)
      injection ea_ with ea_ en_ ec_
      subst ea_
      subst ec_
      clear en_
      have p235 : 0 ≤ (x4_1 : Int) := of_decide_eq_true (by first | (with_reducible assumption) | assumption)
      have q235 : x4_1 < (l0_0.length : Int) := of_decide_eq_true (by first | (with_reducible assumption) | assumption)
      obtain ⟨ad235, A235_2, c235_2, e235, hx235_0, hx235_1, hx235_2, hl235_2, hi235_2⟩ := at_T30 (Kd.V_reads' HO_233000.out).2.2 x4_1 p235 q235
      obtain rfl : ad233 = ad235 := (by injection e235)
      obtain ⟨ce235, hce235, hMe235, hcc235⟩ := Kd.V_get HO_233000.out z30 x4_1 p235 (by first | exact q235 | exact of_decide_eq_true (by first | (with_reducible assumption) | assumption) | (have e_ := (Kd.V_reads' HO_233000.out).1; omega))
      obtain ⟨ua235_2, uc235_2, rfl, ul235_2, ge235_2⟩ := k30_openF hMe235
      have hv235_2 := hcc235 2 _ rfl
      rw [add_field _ _ 2 (by omega)] at hv235_2
      replace hv235_2 := Option.some.inj (hv235_2.symm.trans hx235_2)
      injection hv235_2 with hva_ hvn_ hvc_
      rw [hva_] at ge235_2
      rw [hvc_] at ul235_2
      have HL235_2 := xa_ (show Kd.V (Kd.int .u8) 5 _ w.heap.size _ _ ((rd_T30 l0_0 x4_1).f2) from Kd.V_mk ul235_2 ge235_2)
      clear hva_ hvn_ hvc_ ge235_2 ul235_2
      clear hcc235 hce235
      have HR235_2 := Aside0.mk hi235_2
      have HC235_2 := Aside0.mk hl235_2
      clear hi235_2 hl235_2
      replace p235 := eq_true p235
      replace q235 := eq_true q235
      have ea_ := Option.some.inj (hx233_2.symm.trans hx235_2)
      injection ea_ with ea_ en_ ec_
      subst ea_
      subst ec_
      clear en_
      refine start_ (n := 23) (S := fun w' => w'.cell? ⟨gb232, 0, none⟩ = some (.slice (some ad233) l0_0.length c0_0) ∧ w'.cell? (ad233.add ((x4_1).toNat * 3)) = some (.string ((rd_T30 l0_0 x4_1).f0)) ∧ w'.cell? ⟨(ad233.add ((x4_1).toNat * 3)).block, (ad233.add ((x4_1).toNat * 3)).off + 1, none⟩ = some (.bool ((rd_T30 l0_0 x4_1).f1)) ∧ w'.cell? ⟨(ad233.add ((x4_1).toNat * 3)).block, (ad233.add ((x4_1).toNat * 3)).off + 2, none⟩ = some (.slice A233_2 ((rd_T30 l0_0 x4_1).f2).length c233_2) ∧ w'.cell? (ad233.add ((x4_1).toNat * 3)) = some (.string ((rd_T30 l0_0 x4_1).f0)) ∧ w'.cell? ⟨(ad233.add ((x4_1).toNat * 3)).block, (ad233.add ((x4_1).toNat * 3)).off + 1, none⟩ = some (.bool ((rd_T30 l0_0 x4_1).f1)) ∧ w'.cell? ⟨(ad233.add ((x4_1).toNat * 3)).block, (ad233.add ((x4_1).toNat * 3)).off + 2, none⟩ = some (.slice A233_2 ((rd_T30 l0_0 x4_1).f2).length c233_2) ∧ w'.cell? (ad233.add ((x4_1).toNat * 3)) = some (.string ((rd_T30 l0_0 x4_1).f0)) ∧ w'.cell? ⟨(ad233.add ((x4_1).toNat * 3)).block, (ad233.add ((x4_1).toNat * 3)).off + 1, none⟩ = some (.bool ((rd_T30 l0_0 x4_1).f1)) ∧ w'.cell? ⟨(ad233.add ((x4_1).toNat * 3)).block, (ad233.add ((x4_1).toNat * 3)).off + 2, none⟩ = some (.slice A233_2 ((rd_T30 l0_0 x4_1).f2).length c233_2)) (ds := [20, 21]) (bs_ 23 0x0) (by kernel_rfl) rfl rfl ⟨(blk_cell BK232.out 0).trans rfl, hx233_0, hx233_1, hx233_2, hx234_0, hx234_1, hx234_2, hx235_0, hx235_1, hx235_2⟩ (fun hHeld => ?_); refine with_tabW tallymanlaw8_own.tab5 tallymanlaw8_own.bits5 (fun HT_ HW_ => ?_)
      generalize wr.drew = w7 at HO_3 HO_233000 BK232 HB HL233_2 HL234_2 HL235_2 HR233_2 HR234_2 HR235_2 hx233_0 hx233_1 hx233_2 hx234_0 hx234_1 hx234_2 hx235_0 hx235_1 hx235_2 hHeld ⊢
      refine pure_ (i := 0) (N := some 12) (v := ?_) (a' := ?_) (bs_ 23 0x1) rfl rfl (any_of HT_.out (by kernel_rfl)) (fun _ _ _ h => h) (Or.inl ⟨by rfl, ?_⟩) ?_ ?_; rotate_left; (intro w'; go_simp; with_reducible rfl); rotate_left; (simp only [nm_]; rfl)
      refine pure_ (i := 1) (N := some 13) (v := ?_) (a' := ?_) (bs_ 23 0x3) rfl rfl (any_of HT_.out (by kernel_rfl)) (fun _ _ _ h => h) (Or.inl ⟨by rfl, ?_⟩) ?_ ?_; rotate_left; (intro w'; go_simp; with_reducible rfl); rotate_left; (simp only [nm_]; rfl)
      refine pure_ (i := 3) (N := some 15) (v := ?_) (a' := ?_) (bs_ 23 0xb) rfl rfl (any_of HT_.out (by kernel_rfl)) (fun _ _ _ h => h) (Or.inl ⟨by rfl, ?_⟩) ?_ ?_; rotate_left; (intro w'; go_simp; with_reducible rfl); rotate_left; (simp only [nm_]; rfl)
      refine pure_ (i := 7) (N := some 19) (v := ?_) (a' := ?_) (bs_ 23 0x8b) rfl rfl (any_of HT_.out (by kernel_rfl)) (fun _ _ _ h => h) (Or.inl ⟨by rfl, ?_⟩) ?_ ?_; rotate_left; (intro w'; go_simp; with_reducible rfl); rotate_left; (simp only [nm_]; rfl)
      refine pure_ (i := 9) (N := some 21) (v := ?_) (a' := ?_) (bs_ 23 0x28b) rfl rfl (any_of HT_.out (by kernel_rfl)) (fun _ _ _ h => h) (Or.inl ⟨by rfl, ?_⟩) ?_ ?_; rotate_left; (intro w'; go_simp; with_reducible rfl); rotate_left; (simp only [nm_]; rfl)
      refine pure_ (i := 13) (N := some 25) (v := ?_) (a' := ?_) (bs_ 23 0x228b) rfl rfl (any_of HT_.out (by kernel_rfl)) (fun _ _ _ h => h) (Or.inl ⟨by rfl, ?_⟩) ?_ ?_; rotate_left; (intro w'; go_simp; with_reducible rfl); rotate_left; (simp only [nm_]; rfl)
      refine pure_ (i := 15) (N := some 27) (v := ?_) (a' := ?_) (bs_ 23 0xa28b) rfl rfl (any_of HT_.out (by kernel_rfl)) (fun _ _ _ h => h) (Or.inl ⟨by rfl, ?_⟩) ?_ ?_; rotate_left; (intro w'; go_simp; with_reducible rfl); rotate_left; (simp only [nm_]; rfl)
      refine take_ (i := 2) (N := some 14) (v := ?_) (a' := ?_) (bs_ 23 0xa28f) rfl rfl (take_ofW HT_.out HW_.out (by kernel_rfl)) (fun _ _ _ h => h) (Or.inl ⟨by rfl, ?_⟩) hHeld ?_ ?_; rotate_left; (rintro w' ⟨s0, s1, s2, s3, s4, s5, s6, s7, s8, s9⟩; go_simp; with_reducible rfl); rotate_left; (simp only [nm_]; rfl)
      refine pure_ (i := 4) (N := some 16) (v := ?_) (a' := ?_) (bs_ 23 0xa29f) rfl rfl (any_of HT_.out (by kernel_rfl)) (fun _ _ _ h => h) (Or.inl ⟨by rfl, ?_⟩) ?_ ?_; rotate_left; (intro w'; go_simp; with_reducible rfl); rotate_left; (simp only [nm_]; rfl)
      refine pure_ (i := 5) (N := some 17) (v := ?_) (a' := ?_) (bs_ 23 0xa2bf) rfl rfl (any_of HT_.out (by kernel_rfl)) (fun _ _ _ h => h) (Or.inl ⟨by rfl, ?_⟩) ?_ ?_; rotate_left; (intro w'; go_simp; with_reducible rfl); rotate_left; (simp only [nm_]; rfl)
      refine take_ (i := 6) (N := some 18) (v := ?_) (a' := ?_) (bs_ 23 0xa2ff) rfl rfl (take_ofW HT_.out HW_.out (by kernel_rfl)) (fun _ _ _ h => h) (Or.inl ⟨by rfl, ?_⟩) hHeld ?_ ?_; rotate_left; (rintro w' ⟨s0, s1, s2, s3, s4, s5, s6, s7, s8, s9⟩; go_simp; with_reducible rfl); rotate_left; (simp only [nm_]; rfl)
      refine take_ (i := 8) (N := some 20) (v := ?_) (a' := ?_) (bs_ 23 0xa3ff) rfl rfl (take_ofW HT_.out HW_.out (by kernel_rfl)) (fun _ _ _ h => h) (Or.inl ⟨by rfl, ?_⟩) hHeld ?_ ?_; rotate_left; (rintro w' ⟨s0, s1, s2, s3, s4, s5, s6, s7, s8, s9⟩; go_simp; with_reducible rfl); rotate_left; (simp only [nm_]; rfl)
      refine pure_ (i := 10) (N := some 22) (v := ?_) (a' := ?_) (bs_ 23 0xa7ff) rfl rfl (any_of HT_.out (by kernel_rfl)) (fun _ _ _ h => h) (Or.inl ⟨by rfl, ?_⟩) ?_ ?_; rotate_left; (intro w'; go_simp; with_reducible rfl); rotate_left; (simp only [nm_]; rfl)
      refine pure_ (i := 11) (N := some 23) (v := ?_) (a' := ?_) (bs_ 23 0xafff) rfl rfl (any_of HT_.out (by kernel_rfl)) (fun _ _ _ h => h) (Or.inl ⟨by rfl, ?_⟩) ?_ ?_; rotate_left; (intro w'; go_simp; with_reducible rfl); rotate_left; (simp only [nm_]; rfl)
      refine take_ (i := 12) (N := some 24) (v := ?_) (a' := ?_) (bs_ 23 0xbfff) rfl rfl (take_ofW HT_.out HW_.out (by kernel_rfl)) (fun _ _ _ h => h) (Or.inl ⟨by rfl, ?_⟩) hHeld ?_ ?_; rotate_left; (rintro w' ⟨s0, s1, s2, s3, s4, s5, s6, s7, s8, s9⟩; go_simp; with_reducible rfl); rotate_left; (simp only [nm_]; rfl)
      refine take_ (i := 14) (N := some 26) (v := ?_) (a' := ?_) (bs_ 23 0xffff) rfl rfl (take_ofW HT_.out HW_.out (by kernel_rfl)) (fun _ _ _ h => h) (Or.inl ⟨by rfl, ?_⟩) hHeld ?_ ?_; rotate_left; (rintro w' ⟨s0, s1, s2, s3, s4, s5, s6, s7, s8, s9⟩; go_simp; with_reducible rfl); rotate_left; (simp only [nm_]; rfl)
      refine pure_ (i := 16) (N := some 28) (v := ?_) (a' := ?_) (bs_ 23 0x1ffff) rfl rfl (any_of HT_.out (by kernel_rfl)) (fun _ _ _ h => h) (Or.inl ⟨by rfl, ?_⟩) ?_ ?_; rotate_left; (intro w'; go_simp; with_reducible rfl); rotate_left; (simp only [nm_]; rfl)
      refine pure_ (i := 17) (N := some 29) (v := ?_) (a' := ?_) (bs_ 23 0x3ffff) rfl rfl (any_of HT_.out (by kernel_rfl)) (fun _ _ _ h => h) (Or.inl ⟨by rfl, ?_⟩) ?_ ?_; rotate_left; (intro w'; go_simp; with_reducible rfl); rotate_left; (simp only [nm_]; rfl)
      refine take_ (i := 18) (N := some 30) (v := ?_) (a' := ?_) (bs_ 23 0x7ffff) rfl rfl (take_ofW HT_.out HW_.out (by kernel_rfl)) (fun _ _ _ h => h) (Or.inl ⟨by rfl, ?_⟩) hHeld ?_ ?_; rotate_left; (rintro w' ⟨s0, s1, s2, s3, s4, s5, s6, s7, s8, s9⟩; go_simp; with_reducible rfl); rotate_left; (simp only [nm_]; rfl)
      refine pure_ (i := 19) (N := some 31) (v := ?_) (a' := ?_) (bs_ 23 0xfffff) rfl rfl (any_of HT_.out (by kernel_rfl)) (fun _ _ _ h => h) (Or.inl ⟨by rfl, ?_⟩) ?_ ?_; rotate_left; (intro w'; go_simp; with_reducible rfl); rotate_left; (simp only [nm_]; rfl)
      refine last_ (i := 20) (N := some 32) (bs_ 23 0x1fffff) rfl rfl (one_of HT_.out (by kernel_rfl)) (by decide) (fun K hK => ?_)
      refine value_ (w1 := ?_) (v := ?_) (by rfl) rfl ?_ ?_
      rotate_left 2
      ·go_simp
       constructor
       ·rfl
       ·rfl
      refine hK.out _ _ ?_
      clear hK K
      refine norm_ (a' := ?_) ?_ ?_
      rotate_left
      ·show Act.put _ (some 32) _ = _
       simp only [nm_]
       rfl
      refine last_ (i := 21) (N := some 33) (bs_ 23 0x3fffff) rfl rfl (one_of HT_.out (by kernel_rfl)) (by decide) (fun K hK => ?_)
      refine Kd.N_append_step k94 (w0 := w) w.heap.size (by rfl) (.tmp 12) (.tmp 32) 42 94 (.agg #[(.string ⟨#[]⟩), (.bool false), (.slice none 0 0)]) 48 rfl Tryd.underlying42 info94 rfl (by decide) (by omega) u3 x3_1 (⟨(rd_T30 l0_0 x4_1).f0, (rd_T30 l0_0 x4_1).f1, (rd_T30 l0_0 x4_1).f2⟩ : S94) [.string ((rd_T30 l0_0 x4_1).f0), .bool ((rd_T30 l0_0 x4_1).f1), .slice A233_2 ((rd_T30 l0_0 x4_1).f2).length c233_2] (fun k_ => (P0_0_ k_ ∨ w.heap.size ≤ k_) ∧ k_ ≠ gb232) (fun k_ => ((fun k_ => (P0_0_ k_ ∨ w.heap.size ≤ k_) ∧ k_ ≠ gb232)) k_ ∧ some k_ ≠ (u3 : Value).ownBlock) rfl rfl ?aP (fun _ hk => hk) ?aF ?aO ?aB ?aS ?aL ?_
      (case aP => exact (k94_mkF _ _ (⟨(rd_T30 l0_0 x4_1).f0, (rd_T30 l0_0 x4_1).f1, (rd_T30 l0_0 x4_1).f2⟩ : S94) (Kd.V_reads' (Kd.V_mono (ok' := (fun k_ => ((fun k_ => (P0_0_ k_ ∨ w.heap.size ≤ k_) ∧ k_ ≠ gb232)) k_ ∧ some k_ ≠ (u3 : Value).ownBlock)) (HL235_2.out) (fun k_ hk => ⟨⟨hk.1, hk.2.2⟩, hk.2.1⟩))).2.1 (Kd.V_F (Kd.V_mono (ok' := (fun k_ => ((fun k_ => (P0_0_ k_ ∨ w.heap.size ≤ k_) ∧ k_ ≠ gb232)) k_ ∧ some k_ ≠ (u3 : Value).ownBlock)) (HL235_2.out) (fun k_ hk => ⟨⟨hk.1, hk.2.2⟩, hk.2.1⟩)))))
      (case aB => exact (by repeat (first | (with_reducible first | exact HB.out | apply below_alloc | apply pw_below_drewN | apply below_drew1 | refine below_set ?_ GE232.out) | exact HB.out)))
      (case aF => exact (fun k_ hk => ⟨(.inr (Nat.le_trans (below_size (by repeat (first | (with_reducible first | exact HB.out | apply below_alloc | apply pw_below_drewN | apply below_drew1 | refine below_set ?_ GE232.out) | exact HB.out))) hk)), Kd.freshB (xb_ BK232.out) k_ hk⟩))
      (case aO => exact (xN_ HO_3.out))
      (case aS => exact (below_size (by repeat (first | (with_reducible first | exact HB.out | apply below_alloc | apply pw_below_drewN | apply below_drew1 | refine below_set ?_ GE232.out) | exact HB.out))))
      (case aL => have := LMc5.out; omega)
      intro v237 w8 ho hb hg hat
      rw [← Ny236.out] at ho
      have n0_ := xa_ (Kd.V_afterv (ok := (fun k_ => (P0_0_ k_ ∨ w.heap.size ≤ k_) ∧ k_ ≠ gb232)) (by (with_reducible repeat (first | apply Kd.V_alloc | apply Kd.V_drewN | apply Kd.V_drew)); exact Kd.V_mono HO_233000.out (fun _ hk => ⟨⟨hk.1, hk.2.2⟩, hk.2.1⟩)) hg hat)
      have n1_ := xa_ (blk_grown (xb_ BK232.out) hg (Kd.N_ne HO_3.out BK232.out (by decide)))
      have n2_ := xa_ (Kd.V_afterv (ok := (fun k_ => (P0_0_ k_ ∨ w.heap.size ≤ k_) ∧ k_ ≠ gb232)) (by (with_reducible repeat (first | apply Kd.V_alloc | apply Kd.V_drewN | apply Kd.V_drew)); exact Kd.V_mono HL233_2.out (fun _ hk => ⟨⟨hk.1, hk.2.2⟩, hk.2.1⟩)) hg hat)
      have n3_ := xa_ (Kd.V_afterv (ok := (fun k_ => (P0_0_ k_ ∨ w.heap.size ≤ k_) ∧ k_ ≠ gb232)) (by (with_reducible repeat (first | apply Kd.V_alloc | apply Kd.V_drewN | apply Kd.V_drew)); exact Kd.V_mono HL234_2.out (fun _ hk => ⟨⟨hk.1, hk.2.2⟩, hk.2.1⟩)) hg hat)
      have n4_ := xa_ (Kd.V_afterv (ok := (fun k_ => (P0_0_ k_ ∨ w.heap.size ≤ k_) ∧ k_ ≠ gb232)) (by (with_reducible repeat (first | apply Kd.V_alloc | apply Kd.V_drewN | apply Kd.V_drew)); exact Kd.V_mono HL235_2.out (fun _ hk => ⟨⟨hk.1, hk.2.2⟩, hk.2.1⟩)) hg hat)
      have n5_ := xa_ (hb)
      have n6_ := xa_ (ho)
      clear HO_233000
      clear BK232
      clear HL233_2
      clear HL234_2
      clear HL235_2
      clear HB
      clear HO_3
      have HO_233000 := n0_
      have BK232 := n1_
      have HL233_2 := n2_
      have HL234_2 := n3_
      have HL235_2 := n4_
      have HB := n5_
      have HO238 := n6_
      clear n0_ n1_ n2_ n3_ n4_ n5_ n6_
      clear ho hb hg hat
      refine hK.out _ _ ?_
      clear hK K
      refine norm_ (a' := ?_) ?_ ?_
      rotate_left
      ·show Act.put _ (some 33) _ = _
       simp only [nm_]
       rfl
      refine pure_ (i := 22) (N := some 3) (v := ?_) (a' := ?_) (bs_ 23 0x7fffff) rfl rfl (any_of HT_.out (by kernel_rfl)) (fun _ _ _ h => h) (Or.inl ⟨by rfl, ?_⟩) ?_ ?_; rotate_left; (intro w'; go_simp; with_reducible rfl); rotate_left; (simp only [nm_]; rfl)
      refine done_ (done_of HT_.out (by kernel_rfl)) ?_
      try go_wp2
      go_roundg k1
      case measure => have := HK1.out; omega
      case rel => exact ⟨(y236), (wrap64 (x4_1 + 1)), (by first | rfl | (simp; done) | (simp [*]; done)), H', ⟨by have := HK1.out; omega⟩, ⟨by (with_reducible repeat (first | apply Kd.N_alloc | apply Kd.N_drewN | apply Kd.N_drew)); exact HO238.out⟩, ⟨by (with_reducible repeat (first | apply Kd.V_alloc | apply Kd.V_drewN | apply Kd.V_drew)); exact Kd.V_mono HO_233000.out (fun _ hk => ⟨hk.1.1, ⟨hk.2, hk.1.2⟩⟩)⟩, ⟨by (with_reducible repeat (first | refine blk_drewN ?_ _ | refine blk_drew ?_ | refine blk_alloc ?_ _)); exact BK232.out⟩, ⟨by repeat (first | (with_reducible first | exact HB.out | apply below_alloc | apply pw_below_drewN | apply below_drew1 | refine below_set ?_ GE232.out) | exact HB.out)⟩⟩
     ·rw [if_neg c5] at H
      exact absurd H (by simp)
    ·rw [if_neg c4] at H
     exact absurd H (by simp)
   ·rw [if_neg c3] at H
    have c3b0 : decide (x4_1 < (l0_0.length : Int)) = false := decide_eq_false c3
    clear c3
    obtain rfl := Option.some.inj H
    have hcz9_0 : wr.cell? ⟨gb232, 0, none⟩ = some (.slice A0_0 l0_0.length c0_0) := (blk_cell BK232.out 0).trans rfl
    have hfz9_0 := blk_frozen BK232.out 0
    go_wp2
    go_ret
    exact ⟨_, by first | rfl | (simp [errW_none, errW_some] <;> rfl) | (simp [*, errW_none, errW_some] <;> rfl), by (with_reducible repeat (first | apply Kd.N_alloc | apply Kd.N_drewN | apply Kd.N_drew)); exact Kd.N_mono HO_3.out (fun _ hk => hk.1), by repeat (first | (with_reducible first | exact HB.out | apply below_alloc | apply pw_below_drewN | apply below_drew1 | refine below_set ?_ GE232.out) | exact HB.out)⟩

end Go.Proofs.YtidlldfghkaeeaaDoor.P
end
section
namespace Go.Proofs.YtidlldfghkaeeaaDoor.P
open Go.RowKit Go.Proofs.YtidlldfghkaeeaaDoorW.PrintWords Go.Proofs.YtidlldfghkaeeaaDoorW.PrintLast Go.Proofs.YtidlldfghkaeeaaDoorW.PrintMore
attribute [local go_sem] max2_int min2_int max_two min_two max_three min_three max_four min_four   -- for this text's walks alone
set_option linter.unusedVariables false
set_option linter.unusedSimpArgs false
/-! ### tallymanref7_Alike: function 26 -/
def tallymanref7_Alike.l0 : Nat → List (S94) → List (S94) → Int → Option (Bool)
 | 0, _, _, _ => none
 | k + 1, x0, x1, x5 => if x5 < (x0.length : Int) then (if 0 ≤ x5 then (if x5 < (x1.length : Int) then (if ((rd_T94 x0 x5).f0).toList = ((rd_T94 x1 x5).f0).toList then (if (((rd_T94 x0 x5).f1) != ((rd_T94 x1 x5).f1)) = true then (some false) else (if (strOfNums ((rd_T94 x0 x5).f2)).toList = (strOfNums ((rd_T94 x1 x5).f2)).toList then (tallymanref7_Alike.l0 k x0 x1 (wrap64 (x5 + 1))) else (some false))) else (some false)) else (none)) else (none)) else (some true)
def tallymanref7_Alike.f (k : Nat) (l0 : List (S94)) (l1 : List (S94)) : Option (Bool) := if (l0.length : Int) = (l1.length : Int) then (tallymanref7_Alike.l0 k l0 l1 0) else (some false)
set_option maxHeartbeats 8000000 in
set_option maxRecDepth 100000 in
theorem tallymanref7_Alike.calls (k : Nat) (A0 : Option Addr) (c0 : Nat) (l0 : List (S94)) (A1 : Option Addr) (c1 : Nat) (l1 : List (S94)) (r : Bool) (w : World) (hr0 : Kd.C k94 w A0 l0.length l0) (hc0 : l0.length ≤ c0) (hr1 : Kd.C k94 w A1 l1.length l1) (hc1 : l1.length ≤ c1) (h : tallymanref7_Alike.f k l0 l1 = some r) :
  Calls Tryd.prog 26 #[.slice A0 l0.length c0, .slice A1 l1.length c1] w fun e w' => e = .returned (.bool r) ∧ Drawn0 w w' := by
 have HR0 := Aside0.mk hr0
 have HC0 := Aside0.mk hc0
 clear hr0 hc0
 have HR1 := Aside0.mk hr1
 have HC1 := Aside0.mk hc1
 clear hr1 hc1
 have H : (if (l0.length : Int) = (l1.length : Int) then (tallymanref7_Alike.l0 k l0 l1 0) else (some false)) = some r := h
 clear h
 by_cases c3 : (l0.length : Int) = (l1.length : Int)
 ·rw [if_pos c3] at H
  have c3b0 : ((l0.length : Int) == (l1.length : Int)) = true := beq_iff_eq.mpr c3
  have c3b1 : ((l0.length : Int) != (l1.length : Int)) = false := bne_eq_false_iff_eq.mpr c3
  have c3b2 : (l0.length == l1.length) = true := by first | simpa using c3 | (simp at c3 ⊢; omega)
  clear c3
  have H' := Aside0.mk H
  clear H
  go_enter Tryd.func26, Tryd.ntmps26
  go_wp2
  repeat (go_quiet (fail); try go_wp2)
  go_loopg [5] k (fun kq v5 w' => ∃ (x5_1 : Int), v5 = .int .i64 x5_1 ∧ Aside0 (tallymanref7_Alike.l0 kq l0 l1 x5_1 = some r) ∧ Aside0 (kq ≤ k) ∧ Drawn0 w w')
  case atStart => exact ⟨(0), (by first | rfl | (simp; done) | (simp [*]; done)), H', ⟨Nat.le_refl _⟩, by repeat (first | exact Drawn0.refl _ | apply Drawn0.step)⟩
  case round =>
   clear H'
   try clear c1
   try clear c2
   try clear p2
   try clear c3
   try clear c3b0
   try clear c3b1
   try clear c3b2
   obtain ⟨x5_1, rfl, HA, HK1, ⟨m1, rfl⟩⟩ := hrel
   cases gk with
   | zero => exact absurd HA.out (by simp [tallymanref7_Alike.l0])
   | succ k1 =>
    have H := HA.out
    clear HA
    simp only [tallymanref7_Alike.l0] at H
    by_cases c4 : x5_1 < (l0.length : Int)
    ·rw [if_pos c4] at H
     have c4b0 : decide (x5_1 < (l0.length : Int)) = true := decide_eq_true c4
     clear c4
     by_cases c5 : 0 ≤ x5_1
     ·rw [if_pos c5] at H
      have c5b0 : decide (0 ≤ x5_1) = true := decide_eq_true c5
      clear c5
      by_cases c6 : x5_1 < (l1.length : Int)
      ·rw [if_pos c6] at H
       have c6b0 : decide (x5_1 < (l1.length : Int)) = true := decide_eq_true c6
       clear c6
       by_cases c7 : ((rd_T94 l0 x5_1).f0).toList = ((rd_T94 l1 x5_1).f0).toList
       ·rw [if_pos c7] at H
        have c7b0 : (((rd_T94 l0 x5_1).f0).toList == ((rd_T94 l1 x5_1).f0).toList) = true := beq_iff_eq.mpr c7
        have c7b1 : (((rd_T94 l0 x5_1).f0).toList != ((rd_T94 l1 x5_1).f0).toList) = false := bne_eq_false_iff_eq.mpr c7
        clear c7
        by_cases c8 : (((rd_T94 l0 x5_1).f1) != ((rd_T94 l1 x5_1).f1)) = true
        ·rw [if_pos c8] at H
         have c8b0 : (((rd_T94 l0 x5_1).f1) != ((rd_T94 l1 x5_1).f1)) = true := c8
         (try (have c8b1 : decide (((rd_T94 l0 x5_1).f1) = ((rd_T94 l1 x5_1).f1)) = false := by simpa using c8))
         (try (have c8b2 : (((rd_T94 l0 x5_1).f1) == ((rd_T94 l1 x5_1).f1)) = false := by simpa using c8))
         (try (have c8b3 : ¬ (((rd_T94 l0 x5_1).f1) = ((rd_T94 l1 x5_1).f1)) := by simpa using c8))
         clear c8
         obtain rfl := Option.some.inj H
         have p216 : 0 ≤ (x5_1 : Int) := of_decide_eq_true (by first | (with_reducible assumption) | assumption)
         have q216 : x5_1 < (l0.length : Int) := of_decide_eq_true (by first | (with_reducible assumption) | assumption)
         obtain ⟨ad216, A216_2, c216_2, e216, hx216_0, hx216_1, hx216_2, hl216_2, hi216_2⟩ := at_T94 HR0.out x5_1 p216 q216
         cases e216
         have HR216_2 := Aside0.mk hi216_2
         have HC216_2 := Aside0.mk hl216_2
         clear hi216_2 hl216_2
         replace p216 := eq_true p216
         replace q216 := eq_true q216
         have p217 : 0 ≤ (x5_1 : Int) := of_decide_eq_true (by first | (with_reducible assumption) | assumption)
         have q217 : x5_1 < (l1.length : Int) := of_decide_eq_true (by first | (with_reducible assumption) | assumption)
         obtain ⟨ad217, A217_2, c217_2, e217, hx217_0, hx217_1, hx217_2, hl217_2, hi217_2⟩ := at_T94 HR1.out x5_1 p217 q217
         cases e217
         have HR217_2 := Aside0.mk hi217_2
         have HC217_2 := Aside0.mk hl217_2
         clear hi217_2 hl217_2
         replace p217 := eq_true p217
         replace q217 := eq_true q217
         have p218 : 0 ≤ (x5_1 : Int) := of_decide_eq_true (by first | (with_reducible assumption) | assumption)
         have q218 : x5_1 < (l0.length : Int) := of_decide_eq_true (by first | (with_reducible assumption) | assumption)
         obtain ⟨ad218, A218_2, c218_2, e218, hx218_0, hx218_1, hx218_2, hl218_2, hi218_2⟩ := at_T94 HR0.out x5_1 p218 q218
         obtain rfl : ad216 = ad218 := (by injection e218)
         have HR218_2 := Aside0.mk hi218_2
         have HC218_2 := Aside0.mk hl218_2
         clear hi218_2 hl218_2
         replace p218 := eq_true p218
         replace q218 := eq_true q218
         have ea_ := Option.some.inj (hx216_2.symm.trans hx218_2)
         injection ea_ with ea_ en_ ec_
         subst ea_
         subst ec_
         clear en_
         have p219 : 0 ≤ (x5_1 : Int) := of_decide_eq_true (by first | (with_reducible assumption) | assumption)
         have q219 : x5_1 < (l1.length : Int) := of_decide_eq_true (by first | (with_reducible assumption) | assumption)
         obtain ⟨ad219, A219_2, c219_2, e219, hx219_0, hx219_1, hx219_2, hl219_2, hi219_2⟩ := at_T94 HR1.out x5_1 p219 q219
         obtain rfl : ad217 = ad219 := (by injection e219)
         have HR219_2 := Aside0.mk hi219_2
         have HC219_2 := Aside0.mk hl219_2
         clear hi219_2 hl219_2
         replace p219 := eq_true p219
         replace q219 := eq_true q219
         have ea_ := Option.some.inj (hx217_2.symm.trans hx219_2)
         injection ea_ with ea_ en_ ec_
         subst ea_
         subst ec_
         clear en_
         go_wp2
         repeat (go_quiet (fail); try go_wp2)
         go_ret
         exact ⟨by first | rfl | (simp; done) | (simp [*]; done), by repeat (first | exact Drawn0.refl _ | apply Drawn0.step)⟩
        ·rw [if_neg c8] at H
         have c8b0 : (((rd_T94 l0 x5_1).f1) != ((rd_T94 l1 x5_1).f1)) = false := by simpa using c8
         (try (have c8b1 : decide (((rd_T94 l0 x5_1).f1) = ((rd_T94 l1 x5_1).f1)) = true := by simpa using c8))
         (try (have c8b2 : (((rd_T94 l0 x5_1).f1) == ((rd_T94 l1 x5_1).f1)) = true := by simpa using c8))
         clear c8
         by_cases c9 : (strOfNums ((rd_T94 l0 x5_1).f2)).toList = (strOfNums ((rd_T94 l1 x5_1).f2)).toList
         ·rw [if_pos c9] at H
          have c9b0 : ((strOfNums ((rd_T94 l0 x5_1).f2)).toList == (strOfNums ((rd_T94 l1 x5_1).f2)).toList) = true := beq_iff_eq.mpr c9
          have c9b1 : ((strOfNums ((rd_T94 l0 x5_1).f2)).toList != (strOfNums ((rd_T94 l1 x5_1).f2)).toList) = false := bne_eq_false_iff_eq.mpr c9
          clear c9
          have H' := Aside0.mk H
          clear H
          have p216 : 0 ≤ (x5_1 : Int) := of_decide_eq_true (by first | (with_reducible assumption) | assumption)
          have q216 : x5_1 < (l0.length : Int) := of_decide_eq_true (by first | (with_reducible assumption) | assumption)
          obtain ⟨ad216, A216_2, c216_2, e216, hx216_0, hx216_1, hx216_2, hl216_2, hi216_2⟩ := at_T94 HR0.out x5_1 p216 q216
          cases e216
          have HR216_2 := Aside0.mk hi216_2
          have HC216_2 := Aside0.mk hl216_2
          clear hi216_2 hl216_2
          replace p216 := eq_true p216
          replace q216 := eq_true q216
          have p217 : 0 ≤ (x5_1 : Int) := of_decide_eq_true (by first | (with_reducible assumption) | assumption)
          have q217 : x5_1 < (l1.length : Int) := of_decide_eq_true (by first | (with_reducible assumption) | assumption)
          obtain ⟨ad217, A217_2, c217_2, e217, hx217_0, hx217_1, hx217_2, hl217_2, hi217_2⟩ := at_T94 HR1.out x5_1 p217 q217
          cases e217
          have HR217_2 := Aside0.mk hi217_2
          have HC217_2 := Aside0.mk hl217_2
          clear hi217_2 hl217_2
          replace p217 := eq_true p217
          replace q217 := eq_true q217
          have p218 : 0 ≤ (x5_1 : Int) := of_decide_eq_true (by first | (with_reducible assumption) | assumption)
          have q218 : x5_1 < (l0.length : Int) := of_decide_eq_true (by first | (with_reducible assumption) | assumption)
          obtain ⟨ad218, A218_2, c218_2, e218, hx218_0, hx218_1, hx218_2, hl218_2, hi218_2⟩ := at_T94 HR0.out x5_1 p218 q218
          obtain rfl : ad216 = ad218 := (by injection e218)
          have HR218_2 := Aside0.mk hi218_2
          have HC218_2 := Aside0.mk hl218_2
          clear hi218_2 hl218_2
          replace p218 := eq_true p218
          replace q218 := eq_true q218
          have ea_ := Option.some.inj (hx216_2.symm.trans hx218_2)
          injection ea_ with ea_ en_ ec_
          subst ea_
          subst ec_
          clear en_
          have p219 : 0 ≤ (x5_1 : Int) := of_decide_eq_true (by first | (with_reducible assumption) | assumption)
          have q219 : x5_1 < (l1.length : Int) := of_decide_eq_true (by first | (with_reducible assumption) | assumption)
          obtain ⟨ad219, A219_2, c219_2, e219, hx219_0, hx219_1, hx219_2, hl219_2, hi219_2⟩ := at_T94 HR1.out x5_1 p219 q219
          obtain rfl : ad217 = ad219 := (by injection e219)
          have HR219_2 := Aside0.mk hi219_2
          have HC219_2 := Aside0.mk hl219_2
          clear hi219_2 hl219_2
          replace p219 := eq_true p219
          replace q219 := eq_true q219
          have ea_ := Option.some.inj (hx217_2.symm.trans hx219_2)
          injection ea_ with ea_ en_ ec_
          subst ea_
          subst ec_
          clear en_
          have p220 : 0 ≤ (x5_1 : Int) := of_decide_eq_true (by first | (with_reducible assumption) | assumption)
          have q220 : x5_1 < (l0.length : Int) := of_decide_eq_true (by first | (with_reducible assumption) | assumption)
          obtain ⟨ad220, A220_2, c220_2, e220, hx220_0, hx220_1, hx220_2, hl220_2, hi220_2⟩ := at_T94 HR0.out x5_1 p220 q220
          obtain rfl : ad216 = ad220 := (by injection e220)
          have HR220_2 := Aside0.mk hi220_2
          have HC220_2 := Aside0.mk hl220_2
          clear hi220_2 hl220_2
          replace p220 := eq_true p220
          replace q220 := eq_true q220
          have ea_ := Option.some.inj (hx216_2.symm.trans hx220_2)
          injection ea_ with ea_ en_ ec_
          subst ea_
          subst ec_
          clear en_
          have hcv10 := fun m_ => Kd.C_string (P := Tryd.prog) (A := A216_2) (c := c216_2) Tryd.underlying23 Tryd.underlying5 Tryd.underlying9 (Kd.C_drewN HR220_2.out m_)
          have p221 : 0 ≤ (x5_1 : Int) := of_decide_eq_true (by first | (with_reducible assumption) | assumption)
          have q221 : x5_1 < (l1.length : Int) := of_decide_eq_true (by first | (with_reducible assumption) | assumption)
          obtain ⟨ad221, A221_2, c221_2, e221, hx221_0, hx221_1, hx221_2, hl221_2, hi221_2⟩ := at_T94 HR1.out x5_1 p221 q221
          obtain rfl : ad217 = ad221 := (by injection e221)
          have HR221_2 := Aside0.mk hi221_2
          have HC221_2 := Aside0.mk hl221_2
          clear hi221_2 hl221_2
          replace p221 := eq_true p221
          replace q221 := eq_true q221
          have ea_ := Option.some.inj (hx217_2.symm.trans hx221_2)
          injection ea_ with ea_ en_ ec_
          subst ea_
          subst ec_
          clear en_
          have hcv11 := fun m_ => Kd.C_string (P := Tryd.prog) (A := A217_2) (c := c217_2) Tryd.underlying23 Tryd.underlying5 Tryd.underlying9 (Kd.C_drewN HR221_2.out m_)
          go_wp2
          repeat (go_quiet (fail); try go_wp2)
          go_roundg k1
          case measure => have := HK1.out; omega
          case rel => exact ⟨(wrap64 (x5_1 + 1)), (by first | rfl | (simp; done) | (simp [*]; done)), H', ⟨by have := HK1.out; omega⟩, by repeat (first | exact Drawn0.refl _ | apply Drawn0.step)⟩
         ·rw [if_neg c9] at H
          have c9b0 : ((strOfNums ((rd_T94 l0 x5_1).f2)).toList == (strOfNums ((rd_T94 l1 x5_1).f2)).toList) = false := beq_eq_false_iff_ne.mpr c9
          have c9b1 : ((strOfNums ((rd_T94 l0 x5_1).f2)).toList != (strOfNums ((rd_T94 l1 x5_1).f2)).toList) = true := bne_iff_ne.mpr c9
          obtain rfl := Option.some.inj H
          have p216 : 0 ≤ (x5_1 : Int) := of_decide_eq_true (by first | (with_reducible assumption) | assumption)
          have q216 : x5_1 < (l0.length : Int) := of_decide_eq_true (by first | (with_reducible assumption) | assumption)
          obtain ⟨ad216, A216_2, c216_2, e216, hx216_0, hx216_1, hx216_2, hl216_2, hi216_2⟩ := at_T94 HR0.out x5_1 p216 q216
          cases e216
          have HR216_2 := Aside0.mk hi216_2
          have HC216_2 := Aside0.mk hl216_2
          clear hi216_2 hl216_2
          replace p216 := eq_true p216
          replace q216 := eq_true q216
          have p217 : 0 ≤ (x5_1 : Int) := of_decide_eq_true (by first | (with_reducible assumption) | assumption)
          have q217 : x5_1 < (l1.length : Int) := of_decide_eq_true (by first | (with_reducible assumption) | assumption)
          obtain ⟨ad217, A217_2, c217_2, e217, hx217_0, hx217_1, hx217_2, hl217_2, hi217_2⟩ := at_T94 HR1.out x5_1 p217 q217
          cases e217
          have HR217_2 := Aside0.mk hi217_2
          have HC217_2 := Aside0.mk hl217_2
          clear hi217_2 hl217_2
          replace p217 := eq_true p217
          replace q217 := eq_true q217
          have p218 : 0 ≤ (x5_1 : Int) := of_decide_eq_true (by first | (with_reducible assumption) | assumption)
          have q218 : x5_1 < (l0.length : Int) := of_decide_eq_true (by first | (with_reducible assumption) | assumption)
          obtain ⟨ad218, A218_2, c218_2, e218, hx218_0, hx218_1, hx218_2, hl218_2, hi218_2⟩ := at_T94 HR0.out x5_1 p218 q218
          obtain rfl : ad216 = ad218 := (by injection e218)
          have HR218_2 := Aside0.mk hi218_2
          have HC218_2 := Aside0.mk hl218_2
          clear hi218_2 hl218_2
          replace p218 := eq_true p218
          replace q218 := eq_true q218
          have ea_ := Option.some.inj (hx216_2.symm.trans hx218_2)
          injection ea_ with ea_ en_ ec_
          subst ea_
          subst ec_
          clear en_
          have p219 : 0 ≤ (x5_1 : Int) := of_decide_eq_true (by first | (with_reducible assumption) | assumption)
          have q219 : x5_1 < (l1.length : Int) := of_decide_eq_true (by first | (with_reducible assumption) | assumption)
          obtain ⟨ad219, A219_2, c219_2, e219, hx219_0, hx219_1, hx219_2, hl219_2, hi219_2⟩ := at_T94 HR1.out x5_1 p219 q219
          obtain rfl : ad217 = ad219 := (by injection e219)
          have HR219_2 := Aside0.mk hi219_2
          have HC219_2 := Aside0.mk hl219_2
          clear hi219_2 hl219_2
          replace p219 := eq_true p219
          replace q219 := eq_true q219
          have ea_ := Option.some.inj (hx217_2.symm.trans hx219_2)
          injection ea_ with ea_ en_ ec_
          subst ea_
          subst ec_
          clear en_
          have p220 : 0 ≤ (x5_1 : Int) := of_decide_eq_true (by first | (with_reducible assumption) | assumption)
          have q220 : x5_1 < (l0.length : Int) := of_decide_eq_true (by first | (with_reducible assumption) | assumption)
          obtain ⟨ad220, A220_2, c220_2, e220, hx220_0, hx220_1, hx220_2, hl220_2, hi220_2⟩ := at_T94 HR0.out x5_1 p220 q220
          obtain rfl : ad216 = ad220 := (by injection e220)
          have HR220_2 := Aside0.mk hi220_2
          have HC220_2 := Aside0.mk hl220_2
          clear hi220_2 hl220_2
          replace p220 := eq_true p220
          replace q220 := eq_true q220
          have ea_ := Option.some.inj (hx216_2.symm.trans hx220_2)
          injection ea_ with ea_ en_ ec_
          subst ea_
          subst ec_
          clear en_
          have hcv12 := fun m_ => Kd.C_string (P := Tryd.prog) (A := A216_2) (c := c216_2) Tryd.underlying23 Tryd.underlying5 Tryd.underlying9 (Kd.C_drewN HR220_2.out m_)
          have p221 : 0 ≤ (x5_1 : Int) := of_decide_eq_true (by first | (with_reducible assumption) | assumption)
          have q221 : x5_1 < (l1.length : Int) := of_decide_eq_true (by first | (with_reducible assumption) | assumption)
          obtain ⟨ad221, A221_2, c221_2, e221, hx221_0, hx221_1, hx221_2, hl221_2, hi221_2⟩ := at_T94 HR1.out x5_1 p221 q221
          obtain rfl : ad217 = ad221 := (by injection e221)
          have HR221_2 := Aside0.mk hi221_2
          have HC221_2 := Aside0.mk hl221_2
          clear hi221_2 hl221_2
          replace p221 := eq_true p221
          replace q221 := eq_true q221
          have ea_ := Option.some.inj (hx217_2.symm.trans hx221_2)
          injection ea_ with ea_ en_ ec_
          subst ea_
          subst ec_
          clear en_
          have hcv13 := fun m_ => Kd.C_string (P := Tryd.prog) (A := A217_2) (c := c217_2) Tryd.underlying23 Tryd.underlying5 Tryd.underlying9 (Kd.C_drewN HR221_2.out m_)
          go_wp2
          repeat (go_quiet (fail); try go_wp2)
          go_ret
          exact ⟨by first | rfl | (simp; done) | (simp [*]; done), by repeat (first | exact Drawn0.refl _ | apply Drawn0.step)⟩
       ·rw [if_neg c7] at H
        have c7b0 : (((rd_T94 l0 x5_1).f0).toList == ((rd_T94 l1 x5_1).f0).toList) = false := beq_eq_false_iff_ne.mpr c7
        have c7b1 : (((rd_T94 l0 x5_1).f0).toList != ((rd_T94 l1 x5_1).f0).toList) = true := bne_iff_ne.mpr c7
        obtain rfl := Option.some.inj H
        have p216 : 0 ≤ (x5_1 : Int) := of_decide_eq_true (by first | (with_reducible assumption) | assumption)
        have q216 : x5_1 < (l0.length : Int) := of_decide_eq_true (by first | (with_reducible assumption) | assumption)
        obtain ⟨ad216, A216_2, c216_2, e216, hx216_0, hx216_1, hx216_2, hl216_2, hi216_2⟩ := at_T94 HR0.out x5_1 p216 q216
        cases e216
        have HR216_2 := Aside0.mk hi216_2
        have HC216_2 := Aside0.mk hl216_2
        clear hi216_2 hl216_2
        replace p216 := eq_true p216
        replace q216 := eq_true q216
        have p217 : 0 ≤ (x5_1 : Int) := of_decide_eq_true (by first | (with_reducible assumption) | assumption)
        have q217 : x5_1 < (l1.length : Int) := of_decide_eq_true (by first | (with_reducible assumption) | assumption)
        obtain ⟨ad217, A217_2, c217_2, e217, hx217_0, hx217_1, hx217_2, hl217_2, hi217_2⟩ := at_T94 HR1.out x5_1 p217 q217
        cases e217
        have HR217_2 := Aside0.mk hi217_2
        have HC217_2 := Aside0.mk hl217_2
        clear hi217_2 hl217_2
        replace p217 := eq_true p217
        replace q217 := eq_true q217
        go_wp2
        repeat (go_quiet (fail); try go_wp2)
        go_ret
        exact ⟨by first | rfl | (simp; done) | (simp [*]; done), by repeat (first | exact Drawn0.refl _ | apply Drawn0.step)⟩
      ·rw [if_neg c6] at H
       exact absurd H (by simp)
     ·rw [if_neg c5] at H
      exact absurd H (by simp)
    ·rw [if_neg c4] at H
     have c4b0 : decide (x5_1 < (l0.length : Int)) = false := decide_eq_false c4
     clear c4
     obtain rfl := Option.some.inj H
     go_wp2
     repeat (go_quiet (fail); try go_wp2)
     go_ret
     exact ⟨by first | rfl | (simp; done) | (simp [*]; done), by repeat (first | exact Drawn0.refl _ | apply Drawn0.step)⟩
 ·rw [if_neg c3] at H
  have c3b0 : ((l0.length : Int) == (l1.length : Int)) = false := beq_eq_false_iff_ne.mpr c3
  have c3b1 : ((l0.length : Int) != (l1.length : Int)) = true := bne_iff_ne.mpr c3
  have c3b2 : (l0.length == l1.length) = false := by first | simpa using c3 | (simp at c3 ⊢; omega)
  obtain rfl := Option.some.inj H
  go_enter Tryd.func26, Tryd.ntmps26
  go_wp2
  repeat (go_quiet (fail); try go_wp2)
  go_ret
  exact ⟨by first | rfl | (simp; done) | (simp [*]; done), by repeat (first | exact Drawn0.refl _ | apply Drawn0.step)⟩


end Go.Proofs.YtidlldfghkaeeaaDoor.P
end
section
namespace Go.Proofs.YtidlldfghkaeeaaDoor.P
open Go.RowKit Go.Proofs.YtidlldfghkaeeaaDoorW.PrintWords Go.Proofs.YtidlldfghkaeeaaDoorW.PrintLast Go.Proofs.YtidlldfghkaeeaaDoorW.PrintMore
attribute [local go_sem] max2_int min2_int max_two min_two max_three min_three max_four min_four   -- for this text's walks alone
set_option linter.unusedVariables false
set_option linter.unusedSimpArgs false
/-! ### tallymanref7_Bytes: function 25 -/
def tallymanref7_Bytes.l0 : Nat → List (S94) → Int → Int → Option (Int)
 | 0, _, _, _ => none
 | k + 1, x0, x3, x4 => if x4 < (x0.length : Int) then (if 0 ≤ x4 then (tallymanref7_Bytes.l0 k x0 (wrap64 (x3 + (((rd_T94 x0 x4).f2).length : Int))) (wrap64 (x4 + 1))) else (none)) else (some x3)
def tallymanref7_Bytes.f (k : Nat) (l0 : List (S94)) : Option (Int) := tallymanref7_Bytes.l0 k l0 0 0
set_option maxHeartbeats 8000000 in
set_option maxRecDepth 100000 in
theorem tallymanref7_Bytes.calls (k : Nat) (A0 : Option Addr) (c0 : Nat) (l0 : List (S94)) (r : Int) (w : World) (hr0 : Kd.C k94 w A0 l0.length l0) (hc0 : l0.length ≤ c0) (h : tallymanref7_Bytes.f k l0 = some r) :
  Calls Tryd.prog 25 #[.slice A0 l0.length c0] w fun e w' => e = .returned (.int .i64 r) ∧ Drawn0 w w' := by
 have HR0 := Aside0.mk hr0
 have HC0 := Aside0.mk hc0
 clear hr0 hc0
 have H : (tallymanref7_Bytes.l0 k l0 0 0) = some r := h
 clear h
 have H' := Aside0.mk H
 clear H
 go_enter Tryd.func25, Tryd.ntmps25
 go_wp2
 go_loopg [3, 4] k (fun kq v3 v4 w' => ∃ (x3_1 : Int) (x4_1 : Int), v3 = .int .i64 x3_1 ∧ v4 = .int .i64 x4_1 ∧ Aside0 (tallymanref7_Bytes.l0 kq l0 x3_1 x4_1 = some r) ∧ Aside0 (kq ≤ k) ∧ Drawn0 w w')
 case atStart => exact ⟨(0), (0), (by first | rfl | (simp; done) | (simp [*]; done)), (by first | rfl | (simp; done) | (simp [*]; done)), H', ⟨Nat.le_refl _⟩, by repeat (first | exact Drawn0.refl _ | apply Drawn0.step)⟩
 case round =>
  clear H'
  obtain ⟨x3_1, x4_1, rfl, rfl, HA, HK1, ⟨m1, rfl⟩⟩ := hrel
  cases gk with
  | zero => exact absurd HA.out (by simp [tallymanref7_Bytes.l0])
  | succ k1 =>
   have H := HA.out
   clear HA
   simp only [tallymanref7_Bytes.l0] at H
   by_cases c2 : x4_1 < (l0.length : Int)
   ·rw [if_pos c2] at H
    have c2b0 : decide (x4_1 < (l0.length : Int)) = true := decide_eq_true c2
    clear c2
    by_cases c3 : 0 ≤ x4_1
    ·rw [if_pos c3] at H
     have c3b0 : decide (0 ≤ x4_1) = true := decide_eq_true c3
     clear c3
     have H' := Aside0.mk H
     clear H
     have p239 : 0 ≤ (x4_1 : Int) := of_decide_eq_true (by first | (with_reducible assumption) | assumption)
     have q239 : x4_1 < (l0.length : Int) := of_decide_eq_true (by first | (with_reducible assumption) | assumption)
     obtain ⟨ad239, A239_2, c239_2, e239, hx239_0, hx239_1, hx239_2, hl239_2, hi239_2⟩ := at_T94 HR0.out x4_1 p239 q239
     cases e239
     have HR239_2 := Aside0.mk hi239_2
     have HC239_2 := Aside0.mk hl239_2
     clear hi239_2 hl239_2
     replace p239 := eq_true p239
     replace q239 := eq_true q239
     go_wp2
     go_roundg k1
     case measure => have := HK1.out; omega
     case rel => exact ⟨(wrap64 (x3_1 + (((rd_T94 l0 x4_1).f2).length : Int))), (wrap64 (x4_1 + 1)), (by first | rfl | (simp; done) | (simp [*]; done)), (by first | rfl | (simp; done) | (simp [*]; done)), H', ⟨by have := HK1.out; omega⟩, by repeat (first | exact Drawn0.refl _ | apply Drawn0.step)⟩
    ·rw [if_neg c3] at H
     exact absurd H (by simp)
   ·rw [if_neg c2] at H
    have c2b0 : decide (x4_1 < (l0.length : Int)) = false := decide_eq_false c2
    clear c2
    obtain rfl := Option.some.inj H
    go_wp2
    go_ret
    exact ⟨by first | rfl | (simp; done) | (simp [*]; done), by repeat (first | exact Drawn0.refl _ | apply Drawn0.step)⟩




end Go.Proofs.YtidlldfghkaeeaaDoor.P
end
section
namespace Go.Proofs.YtidlldfghkaeeaaDoor.P
open Go.RowKit Go.Proofs.YtidlldfghkaeeaaDoorW.PrintWords Go.Proofs.YtidlldfghkaeeaaDoorW.PrintLast Go.Proofs.YtidlldfghkaeeaaDoorW.PrintMore
attribute [local go_sem] max2_int min2_int max_two min_two max_three min_three max_four min_four   -- for this text's walks alone
set_option linter.unusedVariables false
set_option linter.unusedSimpArgs false
/-! ### tallymanref7_At: function 72 -/
def tallymanref7_At.l0 : Nat → List (S94) → ByteArray → Int → Option (Int)
 | 0, _, _, _ => none
 | k + 1, x0, x1, x5 => if x5 < (x0.length : Int) then (if 0 ≤ x5 then (if ((rd_T94 x0 x5).f0).toList = x1.toList then (some x5) else (tallymanref7_At.l0 k x0 x1 (wrap64 (x5 + 1)))) else (none)) else (some (-1))
def tallymanref7_At.f (k : Nat) (l0 : List (S94)) (a1 : ByteArray) : Option (Int) := tallymanref7_At.l0 k l0 a1 0
set_option maxHeartbeats 8000000 in
set_option maxRecDepth 100000 in
theorem tallymanref7_At.calls (k : Nat) (A0 : Option Addr) (c0 : Nat) (l0 : List (S94)) (a1 : ByteArray) (r : Int) (w : World) (hr0 : Kd.C k94 w A0 l0.length l0) (hc0 : l0.length ≤ c0) (h : tallymanref7_At.f k l0 a1 = some r) :
  Calls Tryd.prog 72 #[.slice A0 l0.length c0, .string a1] w fun e w' => e = .returned (.int .i64 r) ∧ Drawn0 w w' := by
 have HR0 := Aside0.mk hr0
 have HC0 := Aside0.mk hc0
 clear hr0 hc0
 have H : (tallymanref7_At.l0 k l0 a1 0) = some r := h
 clear h
 have H' := Aside0.mk H
 clear H
 go_enter Tryd.func72, Tryd.ntmps72
 go_wp2
 go_loopg [5] k (fun kq v5 w' => ∃ (x5_1 : Int), v5 = .int .i64 x5_1 ∧ Aside0 (tallymanref7_At.l0 kq l0 a1 x5_1 = some r) ∧ Aside0 (kq ≤ k) ∧ Drawn0 w w')
 case atStart => exact ⟨(0), (by first | rfl | (simp; done) | (simp [*]; done)), H', ⟨Nat.le_refl _⟩, by repeat (first | exact Drawn0.refl _ | apply Drawn0.step)⟩
 case round =>
  clear H'
  try clear p2
  obtain ⟨x5_1, rfl, HA, HK1, ⟨m1, rfl⟩⟩ := hrel
  cases gk with
  | zero => exact absurd HA.out (by simp [tallymanref7_At.l0])
  | succ k1 =>
   have H := HA.out
   clear HA
   simp only [tallymanref7_At.l0] at H
   by_cases c3 : x5_1 < (l0.length : Int)
   ·rw [if_pos c3] at H
    have c3b0 : decide (x5_1 < (l0.length : Int)) = true := decide_eq_true c3
    clear c3
    by_cases c4 : 0 ≤ x5_1
    ·rw [if_pos c4] at H
     have c4b0 : decide (0 ≤ x5_1) = true := decide_eq_true c4
     clear c4
     by_cases c5 : ((rd_T94 l0 x5_1).f0).toList = a1.toList
     ·rw [if_pos c5] at H
      have c5b0 : (((rd_T94 l0 x5_1).f0).toList == a1.toList) = true := beq_iff_eq.mpr c5
      have c5b1 : (((rd_T94 l0 x5_1).f0).toList != a1.toList) = false := bne_eq_false_iff_eq.mpr c5
      clear c5
      obtain rfl := Option.some.inj H
      have p246 : 0 ≤ (x5_1 : Int) := of_decide_eq_true (by first | (with_reducible assumption) | assumption)
      have q246 : x5_1 < (l0.length : Int) := of_decide_eq_true (by first | (with_reducible assumption) | assumption)
      obtain ⟨ad246, A246_2, c246_2, e246, hx246_0, hx246_1, hx246_2, hl246_2, hi246_2⟩ := at_T94 HR0.out x5_1 p246 q246
      cases e246
      have HR246_2 := Aside0.mk hi246_2
      have HC246_2 := Aside0.mk hl246_2
      clear hi246_2 hl246_2
      replace p246 := eq_true p246
      replace q246 := eq_true q246
      go_wp2
      go_ret
      exact ⟨by first | rfl | (simp; done) | (simp [*]; done), by repeat (first | exact Drawn0.refl _ | apply Drawn0.step)⟩
     ·rw [if_neg c5] at H
      have c5b0 : (((rd_T94 l0 x5_1).f0).toList == a1.toList) = false := beq_eq_false_iff_ne.mpr c5
      have c5b1 : (((rd_T94 l0 x5_1).f0).toList != a1.toList) = true := bne_iff_ne.mpr c5
      have H' := Aside0.mk H
      clear H
      have p246 : 0 ≤ (x5_1 : Int) := of_decide_eq_true (by first | (with_reducible assumption) | assumption)
      have q246 : x5_1 < (l0.length : Int) := of_decide_eq_true (by first | (with_reducible assumption) | assumption)
      obtain ⟨ad246, A246_2, c246_2, e246, hx246_0, hx246_1, hx246_2, hl246_2, hi246_2⟩ := at_T94 HR0.out x5_1 p246 q246
      cases e246
      have HR246_2 := Aside0.mk hi246_2
      have HC246_2 := Aside0.mk hl246_2
      clear hi246_2 hl246_2
      replace p246 := eq_true p246
      replace q246 := eq_true q246
      go_wp2
      go_roundg k1
      case measure => have := HK1.out; omega
      case rel => exact ⟨(wrap64 (x5_1 + 1)), (by first | rfl | (simp; done) | (simp [*]; done)), H', ⟨by have := HK1.out; omega⟩, by repeat (first | exact Drawn0.refl _ | apply Drawn0.step)⟩
    ·rw [if_neg c4] at H
     exact absurd H (by simp)
   ·rw [if_neg c3] at H
    have c3b0 : decide (x5_1 < (l0.length : Int)) = false := decide_eq_false c3
    clear c3
    obtain rfl := Option.some.inj H
    go_wp2
    go_ret
    exact ⟨by first | rfl | (simp; done) | (simp [*]; done), by repeat (first | exact Drawn0.refl _ | apply Drawn0.step)⟩



end Go.Proofs.YtidlldfghkaeeaaDoor.P
end
