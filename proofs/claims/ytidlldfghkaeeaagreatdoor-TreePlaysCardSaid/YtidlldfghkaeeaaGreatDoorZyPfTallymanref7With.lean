/- Put together by pack2.py: PfTallymanref7With -/
import Derived.Test.YtidlldfghkaeeaaGreatDoorZyRefNamesEtc
import Derived.Test.YtidlldfghkaeeaaGreatDoorZyW0
set_option linter.unusedVariables false
set_option linter.unusedSimpArgs false
set_option maxHeartbeats 8000000
set_option maxRecDepth 100000
namespace Go.Proofs.YtidlldfghkaeeaaGreatDoor.P
open Go.RowKit Go.Proofs.YtidlldfghkaeeaaGreatDoorW.PrintWords Go.Proofs.YtidlldfghkaeeaaGreatDoorW.PrintLast Go.Proofs.YtidlldfghkaeeaaGreatDoorW.PrintMore
attribute [local go_sem] max2_int min2_int max_two min_two max_three min_three max_four min_four
mutual
def tallymanref7_with.l0 : Nat → List (S45) → List (S45) → Bool → Int → ByteArray → Bool → List Int → Option ((List (S45)))
 | 0, _, _, _, _, _, _, _ => none
 | k + 1, x0, x5, x6, x7, x180000, x180001, x180002 => if x7 < (x0.length : Int) then (if x6 = true then (tallymanref7_with.j1 k x0 x5 x6 x7 false x180000 x180001 x180002) else (if 0 ≤ x7 then ((tallymanref7_Cmp.f ((rd_T45 x0 x7).f0) x180000).bind fun t184 => (tallymanref7_with.j1 k x0 x5 x6 x7 (decide (t184 ≥ 0)) x180000 x180001 x180002)) else (none))) else (if x6 = true then (some x5) else (if x5.length < 2932031007402 then (some (x5 ++ [(⟨x180000, x180001, x180002⟩ : S45)])) else (none)))
def tallymanref7_with.j1 : Nat → List (S45) → List (S45) → Bool → Int → Bool → ByteArray → Bool → List Int → Option ((List (S45)))
 | 0, _, _, _, _, _, _, _, _ => none
 | k + 1, x0, x5, x6, x7, x26, x180000, x180001, x180002 => if x26 = true then (if x5.length < 2932031007402 then ((some (x5 ++ [(⟨x180000, x180001, x180002⟩ : S45)] : List (S45))).bind fun y185 => (if 0 ≤ x7 then (if x7 < (x0.length : Int) then (if ((rd_T45 x0 x7).f0).toList = x180000.toList then (tallymanref7_with.l0 k x0 y185 true (wrap64 (x7 + 1)) x180000 x180001 x180002) else (if y185.length < 2932031007402 then (tallymanref7_with.l0 k x0 (y185 ++ [(⟨(rd_T45 x0 x7).f0, (rd_T45 x0 x7).f1, (rd_T45 x0 x7).f2⟩ : S45)]) true (wrap64 (x7 + 1)) x180000 x180001 x180002) else (none))) else (none)) else (none))) else (none)) else (if 0 ≤ x7 then (if x7 < (x0.length : Int) then (if ((rd_T45 x0 x7).f0).toList = x180000.toList then (tallymanref7_with.l0 k x0 x5 x6 (wrap64 (x7 + 1)) x180000 x180001 x180002) else (if x5.length < 2932031007402 then (tallymanref7_with.l0 k x0 (x5 ++ [(⟨(rd_T45 x0 x7).f0, (rd_T45 x0 x7).f1, (rd_T45 x0 x7).f2⟩ : S45)]) x6 (wrap64 (x7 + 1)) x180000 x180001 x180002) else (none))) else (none)) else (none))
end
def tallymanref7_with.f (k : Nat) (l0 : List (S45)) (a1_0 : ByteArray) (a1_1 : Bool) (l1_2 : List Int) : Option ((List (S45))) := tallymanref7_with.l0 k l0 ([] : List (S45)) false 0 a1_0 a1_1 l1_2
def tallymanref7_with.T6 : Bool × List (List Nat × List Nat) := (true, [([], []), ([0], [0]), ([1], [1]), ([2], [2]), ([2], [2]), ([3, 4, 2], [2, 3, 4]), ([5, 2], [2, 5]), ([6, 2], [2, 6]), ([2], [2]), ([8, 2], [2, 8]), ([7, 9, 2, 2], [2, 7, 9]), ([10, 2], [2, 10]), ([2, 11], [2, 11])])
def tallymanref7_with.B6 : List Nat := [0, 1, 3, 7, 7, 31, 63, 127, 7, 263, 1023, 2047, 4095]
theorem tallymanref7_with.tab6 : rtab .any (opsOf Tryz.f52 6) = tallymanref7_with.T6 := by kernel_rfl
theorem tallymanref7_with.bits6 : waitsOk tallymanref7_with.T6.2 tallymanref7_with.B6 = true := by kernel_rfl
def tallymanref7_with.T9 : Bool × List (List Nat × List Nat) := (true, [([], []), ([], []), ([0, 1], [0, 1]), ([2], [2]), ([3], [3]), ([], []), ([5], [5]), ([4, 6], [4, 6])])
def tallymanref7_with.B9 : List Nat := [0, 0, 3, 7, 15, 0, 32, 127]
theorem tallymanref7_with.tab9 : rtab .any (opsOf Tryz.f52 9) = tallymanref7_with.T9 := by kernel_rfl
theorem tallymanref7_with.bits9 : waitsOk tallymanref7_with.T9.2 tallymanref7_with.B9 = true := by kernel_rfl
theorem tallymanref7_with.calls (k : Nat) (P0_ : Nat → Prop) (A0 : Option Addr) (c0 : Nat) (l0 : List (S45)) (a1_0 : ByteArray) (a1_1 : Bool) (P1_2_ : Nat → Prop) (A1_2 : Option Addr) (c1_2 : Nat) (l1_2 : List Int) (r : List (S45)) (w : World) (hs0 : Kd.V k45 45 w w.heap.size (fun k_ => P0_ k_) (.slice A0 l0.length c0) l0) (hs1_2 : Kd.V (Kd.int .u8) 5 w w.heap.size (fun k_ => P1_2_ k_) (.slice A1_2 l1_2.length c1_2) l1_2) (h : tallymanref7_with.f k l0 a1_0 a1_1 l1_2 = some r) :
  Calls Tryz.prog 52 #[.slice A0 l0.length c0, .agg #[.string a1_0, .bool a1_1, .slice A1_2 l1_2.length c1_2]] w fun e w' => ∃ v0_ : Value, e = .returned (v0_) ∧ Kd.N k45 45 w' w.heap.size (fun k_ => ((P0_ k_ ∨ P1_2_ k_) ∨ w.heap.size ≤ k_)) v0_ r ∧ Below w.heap.size w w' := by
 have hu45 := Tryz.underlying45
 have HO0 := xa_ (show Kd.V k45 45 w w.heap.size (fun k_ => ((P0_ k_ ∨ P1_2_ k_) ∨ w.heap.size ≤ k_)) (.slice A0 l0.length c0) l0 from Kd.V_mono hs0 (fun k_ hk => .inl (.inl hk)))
 have HO1_2 := xa_ (show Kd.V (Kd.int .u8) 5 w w.heap.size (fun k_ => ((P0_ k_ ∨ P1_2_ k_) ∨ w.heap.size ≤ k_)) (.slice A1_2 l1_2.length c1_2) l1_2 from Kd.V_mono hs1_2 (fun k_ hk => .inl (.inr hk)))
 have HB := xa_ (Below.refl w.heap.size w)
 have H : (tallymanref7_with.l0 k l0 ([] : List (S45)) false 0 a1_0 a1_1 l1_2) = some r := h
 clear h
 have H' := Aside0.mk H
 clear H
 go_enter Tryz.func52, Tryz.ntmps52
 go_wp2_with (first | ((with_reducible refine gate_dst (N := 3) rfl ?_); refine box_event ?hg (N := 3) ?hd (cs := #[.string a1_0, .bool a1_1, .slice A1_2 l1_2.length c1_2]) (t := 45) ?hr ?_; (case hd => rfl); (case hg => rfl); (case hr => first | (go_simp; done) | (go_simp; rfl)); intro gb179 hg w3 hbox hb; have BK179 := xa_ (hbox); have GW179 := xa_ ((by rw [hg]; exact (below_size (xw_ HB.out)) : w.heap.size ≤ gb179)); have GE179 := xa_ ((by rw [hg]; exact (below_size (xw_ HB.out)) : w.heap.size ≤ gb179)); replace HO0 := xa_ (Kd.V_below (Kd.V_elderB (xV_ HO0.out) gb179 (Nat.le_of_eq hg.symm)) hb); replace HO1_2 := xa_ (Kd.V_below (Kd.V_elderB (xV_ HO1_2.out) gb179 (Nat.le_of_eq hg.symm)) hb); replace HB := xa_ (below_step (xw_ HB.out) hb); clear hb hbox hg))
 go_loopg [5, 6, 7] k (fun kq v5 v6 v7 w' => ∃ (x5_1 : List (S45)) (x6_1 : Bool) (x7_1 : Int), v6 = .bool x6_1 ∧ v7 = .int .i64 x7_1 ∧ Aside0 (tallymanref7_with.l0 kq l0 x5_1 x6_1 x7_1 a1_0 a1_1 l1_2 = some r) ∧ Aside0 (kq ≤ k) ∧ Aside0 (Kd.V k45 45 w' w.heap.size (fun k_ => ((P0_ k_ ∨ P1_2_ k_) ∨ w.heap.size ≤ k_) ∧ some k_ ≠ (v5 : Value).ownBlock ∧ k_ ≠ gb179) (.slice A0 l0.length c0) l0) ∧ Aside0 (Kd.N k45 45 w' w.heap.size (fun k_ => ((P0_ k_ ∨ P1_2_ k_) ∨ w.heap.size ≤ k_) ∧ k_ ≠ gb179) v5 x5_1) ∧ Aside0 (Kd.V (Kd.int .u8) 5 w' w.heap.size (fun k_ => ((P0_ k_ ∨ P1_2_ k_) ∨ w.heap.size ≤ k_) ∧ some k_ ≠ (v5 : Value).ownBlock ∧ k_ ≠ gb179) (.slice A1_2 l1_2.length c1_2) l1_2) ∧ Aside0 (w'.heap[gb179]? = some (.cells #[.string a1_0, .bool a1_1, (.slice A1_2 l1_2.length c1_2)] 45 (0, 0))) ∧ Aside0 (Below w.heap.size w w'))
 case atStart => exact ⟨(([] : List (S45))), (false), (0), (by first | rfl | (simp; done) | (simp [*]; done)), (by first | rfl | (simp; done) | (simp [*]; done)), H', ⟨Nat.le_refl _⟩, ⟨by (with_reducible repeat (first | apply Kd.V_alloc | apply Kd.V_drewN | apply Kd.V_drew)); exact Kd.V_mono HO0.out (fun _ hk => ⟨hk.1, ⟨(by simp [Value.ownBlock]), hk.2⟩⟩)⟩, ⟨by first | exact Kd.S_nil _ _ _ _ _ | exact Kd.N_nil _ _ _ _ _ | exact Kd.V_nil _ _ _ _ _ | exact Kd.Q_nil _ _ _ _ _ | exact Kd.R_nil _ _ _ _ _⟩, ⟨by (with_reducible repeat (first | apply Kd.V_alloc | apply Kd.V_drewN | apply Kd.V_drew)); exact Kd.V_mono HO1_2.out (fun _ hk => ⟨hk.1, ⟨(by simp [Value.ownBlock]), hk.2⟩⟩)⟩, ⟨by (with_reducible repeat (first | refine blk_drewN ?_ _ | refine blk_drew ?_ | refine blk_alloc ?_ _)); exact BK179.out⟩, ⟨by repeat (first | (with_reducible first | exact HB.out | apply below_alloc | apply pw_below_drewN | apply below_drew1 | refine below_set ?_ GE179.out) | exact HB.out)⟩⟩
 case round =>
  clear H'
  try clear c1
  try clear p2
  obtain ⟨x5_1, x6_1, x7_1, rfl, rfl, HA, HK1, HO_0, HO_5, HO_180002, BK179, HB⟩ := hrel
  cases gk with
  | zero => exact absurd HA.out (by simp [tallymanref7_with.l0])
  | succ k1 =>
   have H := HA.out
   clear HA
   simp only [tallymanref7_with.l0] at H
   by_cases c4 : x7_1 < (l0.length : Int)
   ·rw [if_pos c4] at H
    have c4b0 : decide (x7_1 < (l0.length : Int)) = true := decide_eq_true c4
    clear c4
    have HC5 := Aside0.mk H
    clear H
    go_upto_region 6 with (fail)
    go_cut [26] (fun v26 wc => ∃ (kq : Nat) (x26_4 : Bool), v26 = .bool x26_4 ∧ Aside0 (tallymanref7_with.j1 kq l0 x5_1 x6_1 x7_1 x26_4 a1_0 a1_1 l1_2 = some r) ∧ Aside0 (kq ≤ k1) ∧ Aside0 (Kd.V k45 45 wc w.heap.size (fun k_ => ((P0_ k_ ∨ P1_2_ k_) ∨ w.heap.size ≤ k_) ∧ some k_ ≠ (u5 : Value).ownBlock ∧ k_ ≠ gb179) (.slice A0 l0.length c0) l0) ∧ Aside0 (Kd.N k45 45 wc w.heap.size (fun k_ => ((P0_ k_ ∨ P1_2_ k_) ∨ w.heap.size ≤ k_) ∧ k_ ≠ gb179) u5 x5_1) ∧ Aside0 (Kd.V (Kd.int .u8) 5 wc w.heap.size (fun k_ => ((P0_ k_ ∨ P1_2_ k_) ∨ w.heap.size ≤ k_) ∧ some k_ ≠ (u5 : Value).ownBlock ∧ k_ ≠ gb179) (.slice A1_2 l1_2.length c1_2) l1_2) ∧ Aside0 (wc.heap[gb179]? = some (.cells #[.string a1_0, .bool a1_1, (.slice A1_2 l1_2.length c1_2)] 45 (0, 0))) ∧ Aside0 (Below w.heap.size w wc))
    case first =>
     have H := HC5.out
     clear HC5
     by_cases c6 : x6_1 = true
     ·subst c6
      have H1 : (tallymanref7_with.j1 k1 l0 x5_1 true x7_1 false a1_0 a1_1 l1_2) = some r := by rw [if_pos rfl] at H; exact H
      clear H
      have H := H1
      clear H1
      have H' := Aside0.mk H
      clear H
      try go_wp2
      have n0_ := xa_ (Kd.V_drew HO_0.out)
      have n1_ := xa_ (Kd.N_drew HO_5.out)
      have n2_ := xa_ (Kd.V_drew HO_180002.out)
      have n3_ := xa_ (blk_drew BK179.out)
      have n4_ := xa_ (below_drew1 HB.out)
      clear HO_0
      clear HO_5
      clear HO_180002
      clear BK179
      clear HB
      have HO_0 := n0_
      have HO_5 := n1_
      have HO_180002 := n2_
      have BK179 := n3_
      have HB := n4_
      clear n0_ n1_ n2_ n3_ n4_
      refine start_ (n := 13) (S := fun w' => True) (ds := []) (bs_ 13 0x0) (by kernel_rfl) rfl rfl trivial (fun hHeld => ?_); refine with_tabW tallymanref7_with.tab6 tallymanref7_with.bits6 (fun HT_ HW_ => ?_)
      generalize wr.drew = w7 at HO_0 HO_5 HO_180002 BK179 HB hHeld ⊢
      refine pl_ [(0, some 14, 0x1), (1, some 15, 0x3), (2, some 16, 0x7), (3, some 17, 0xf), (4, some 18, 0x1f), (5, some 19, 0x3f), (6, some 20, 0x7f), (7, some 21, 0xff), (8, some 22, 0x1ff), (9, some 23, 0x3ff), (10, some 24, 0x7ff), (11, some 25, 0xfff), (12, some 26, 0x1fff)] ?_; iterate 13 (first | (refine pq_ (v := undef) (a' := ?_) HT_.out rfl rfl (by kernel_rfl) (fun _ _ _ h => h) (Or.inr ⟨by rfl, rfl⟩) ?_ ?_; rotate_left; (simp only [nm_]; rfl)) | (refine pq_ (v := ?_) (a' := ?_) HT_.out rfl rfl (by kernel_rfl) (fun _ _ _ h => h) (Or.inl ⟨by rfl, ?_⟩) ?_ ?_; rotate_left; (intro w'; go_simp; with_reducible rfl); rotate_left; (simp only [nm_]; rfl)))
      refine ql_ ?_
      refine done_ (done_of HT_.out (by kernel_rfl)) ?_
      try go_wp2
      go_meet
      case rel => exact ⟨_, (false), (by first | rfl | (simp; done) | (simp [*]; done)), H', ⟨by have := HK1.out; first | omega | exact Nat.le_refl _⟩, ⟨by (with_reducible repeat (first | apply Kd.V_alloc | apply Kd.V_drewN | apply Kd.V_drew)); exact HO_0.out⟩, ⟨by (with_reducible repeat (first | apply Kd.N_alloc | apply Kd.N_drewN | apply Kd.N_drew)); exact HO_5.out⟩, ⟨by (with_reducible repeat (first | apply Kd.V_alloc | apply Kd.V_drewN | apply Kd.V_drew)); exact HO_180002.out⟩, ⟨by (with_reducible repeat (first | refine blk_drewN ?_ _ | refine blk_drew ?_ | refine blk_alloc ?_ _)); exact BK179.out⟩, ⟨by repeat (first | (with_reducible first | exact HB.out | apply below_alloc | apply pw_below_drewN | apply below_drew1 | refine below_set ?_ GE179.out) | exact HB.out)⟩⟩
     ·replace c6 := Bool.eq_false_iff.mpr c6
      subst c6
      have H1 : (if 0 ≤ x7_1 then ((tallymanref7_Cmp.f ((rd_T45 l0 x7_1).f0) a1_0).bind fun t184 => (tallymanref7_with.j1 k1 l0 x5_1 false x7_1 (decide (t184 ≥ 0)) a1_0 a1_1 l1_2)) else (none)) = some r := by rw [if_neg (show ¬ (false = true) by decide)] at H; exact H
      clear H
      have H := H1
      clear H1
      by_cases c8 : 0 ≤ x7_1
      ·rw [if_pos c8] at H
       have c8b0 : decide (0 ≤ x7_1) = true := decide_eq_true c8
       clear c8
       (first | rw [c8b0] | (simp only [i64_w, i32_w]; rw [c8b0]) | skip)
       replace H := Option.bind_eq_some_iff.mp H
       obtain ⟨t184, A90, H⟩ := H
       replace H : (tallymanref7_with.j1 k1 l0 x5_1 false x7_1 (decide (t184 ≥ 0)) a1_0 a1_1 l1_2) = some r := H
       have A9 := Aside0.mk A90
       clear A90
       have H' := Aside0.mk H
       clear H
       try go_wp2
       have n0_ := xa_ (Kd.V_drew HO_0.out)
       have n1_ := xa_ (Kd.N_drew HO_5.out)
       have n2_ := xa_ (Kd.V_drew HO_180002.out)
       have n3_ := xa_ (blk_drew BK179.out)
       have n4_ := xa_ (below_drew1 HB.out)
       clear HO_0
       clear HO_5
       clear HO_180002
       clear BK179
       clear HB
       have HO_0 := n0_
       have HO_5 := n1_
       have HO_180002 := n2_
       have BK179 := n3_
       have HB := n4_
       clear n0_ n1_ n2_ n3_ n4_
       have p183 : 0 ≤ (x7_1 : Int) := of_decide_eq_true (by first | (with_reducible assumption) | assumption)
       have q183 : x7_1 < (l0.length : Int) := of_decide_eq_true (by first | (with_reducible assumption) | assumption)
       obtain ⟨ad183, A183_2, c183_2, e183, hx183_0, hx183_1, hx183_2, hl183_2, hi183_2⟩ := at_T45 (Kd.V_reads' HO_0.out).2.2 x7_1 p183 q183
       cases e183
       obtain ⟨ce183, hce183, hMe183, hcc183⟩ := Kd.V_get HO_0.out z45 x7_1 p183 (by first | exact q183 | exact of_decide_eq_true (by first | (with_reducible assumption) | assumption) | (have e_ := (Kd.V_reads' HO_0.out).1; omega))
       obtain ⟨ua183_2, uc183_2, rfl, ul183_2, ge183_2⟩ := k45_openF hMe183
       have hv183_2 := hcc183 2 _ rfl
       rw [add_field _ _ 2 (by omega)] at hv183_2
       replace hv183_2 := Option.some.inj (hv183_2.symm.trans hx183_2)
       injection hv183_2 with hva_ hvn_ hvc_
       rw [hva_] at ge183_2
       rw [hvc_] at ul183_2
       have HL183_2 := xa_ (show Kd.V (Kd.int .u8) 5 _ w.heap.size _ _ ((rd_T45 l0 x7_1).f2) from Kd.V_mk ul183_2 ge183_2)
       clear hva_ hvn_ hvc_ ge183_2 ul183_2
       clear hcc183 hce183
       have HR183_2 := Aside0.mk hi183_2
       have HC183_2 := Aside0.mk hl183_2
       clear hi183_2 hl183_2
       replace p183 := eq_true p183
       replace q183 := eq_true q183
       refine start_ (n := 13) (S := fun w' => w'.cell? ⟨gb179, 0, none⟩ = some (.string a1_0) ∧ w'.cell? ⟨gb179, 1, none⟩ = some (.bool a1_1) ∧ w'.cell? ⟨gb179, 2, none⟩ = some (.slice A1_2 l1_2.length c1_2) ∧ w'.cell? (ad183.add ((x7_1).toNat * 3)) = some (.string ((rd_T45 l0 x7_1).f0)) ∧ w'.cell? ⟨(ad183.add ((x7_1).toNat * 3)).block, (ad183.add ((x7_1).toNat * 3)).off + 1, none⟩ = some (.bool ((rd_T45 l0 x7_1).f1)) ∧ w'.cell? ⟨(ad183.add ((x7_1).toNat * 3)).block, (ad183.add ((x7_1).toNat * 3)).off + 2, none⟩ = some (.slice A183_2 ((rd_T45 l0 x7_1).f2).length c183_2)) (ds := []) (bs_ 13 0x0) (by kernel_rfl) rfl rfl ⟨(blk_cell BK179.out 0).trans rfl, (blk_cell BK179.out 1).trans rfl, (blk_cell BK179.out 2).trans rfl, hx183_0, hx183_1, hx183_2⟩ (fun hHeld => ?_); refine with_tabW tallymanref7_with.tab6 tallymanref7_with.bits6 (fun HT_ HW_ => ?_)
       generalize wr.drew = w10 at HO_0 HO_5 HO_180002 BK179 HB HL183_2 HR183_2 hx183_0 hx183_1 hx183_2 hHeld ⊢
       refine pl_ [(0, some 14, 0x1), (1, some 15, 0x3), (2, some 16, 0x7), (3, some 17, 0xf), (4, some 18, 0x1f), (5, some 19, 0x3f), (6, some 20, 0x7f), (8, some 22, 0x17f), (7, some 21, 0x1ff), (9, some 23, 0x3ff)] ?_; iterate 10 (first | (refine pq_ (v := ?_) (a' := ?_) HT_.out rfl rfl (by kernel_rfl) (fun _ _ _ h => h) (Or.inl ⟨by rfl, ?_⟩) ?_ ?_; rotate_left; (intro w'; go_simp; with_reducible rfl); rotate_left; (simp only [nm_]; rfl)) | (refine tq_ (v := ?_) (a' := ?_) HT_.out HW_.out rfl rfl (by kernel_rfl) (fun _ _ _ h => h) (Or.inl ⟨by rfl, ?_⟩) hHeld ?_ ?_; rotate_left; (rintro w' ⟨s0, s1, s2, s3, s4, s5⟩; go_simp; with_reducible rfl); rotate_left; (simp only [nm_]; rfl)))
       refine ql_ ?_
       refine one_ (i := 10) (N := some 24) (bs_ 13 0x7ff) rfl rfl (one_of HT_.out (by kernel_rfl)) (by decide) (fun K hK => ?_)
       refine goes_ Tryz.func85 (by kernel_rfl) rfl #[.string ((rd_T45 l0 x7_1).f0), .string a1_0] (by rfl) rfl rfl (by (try simp only [ca_]); first | done | rfl) ?_
       with_reducible refine (tallymanref7_Cmp.calls ((rd_T45 l0 x7_1).f0) a1_0 t184 _ A9.out).mono ?_
       rintro e w11 ⟨rfl, hb⟩
       have HS3_ := (hb.cell (World.block_lt_of_cell? _ _ (hHeld.2.2.2.1))).trans (hHeld.2.2.2.1)
       have HS4_ := (hb.cell (World.block_lt_of_cell? _ _ (hHeld.2.2.2.2.1))).trans (hHeld.2.2.2.2.1)
       have HS5_ := (hb.cell (World.block_lt_of_cell? _ _ (hHeld.2.2.2.2.2))).trans (hHeld.2.2.2.2.2)
       refine ⟨_, rfl, ?_⟩
       have n0_ := xa_ (Kd.V_below (xV_ HO_0.out) hb)
       have n1_ := xa_ (Kd.N_below (xN_ HO_5.out) hb)
       have n2_ := xa_ (Kd.V_below (xV_ HO_180002.out) hb)
       have n3_ := xa_ (Kd.V_below (xV_ HL183_2.out) hb)
       have n4_ := xa_ (blk_below (xb_ BK179.out) hb)
       have n5_ := xa_ (Kd.C_below (by repeat (first | (with_reducible exact HR183_2.out) | (with_reducible refine Kd.C_alloc ?_ _) | (with_reducible refine Kd.C_drewN ?_ _) | (with_reducible refine Kd.C_drew ?_) | exact HR183_2.out)) hb)
       have n6_ := xa_ (below_step (xw_ HB.out) hb)
       clear HO_0
       clear HO_5
       clear HO_180002
       clear HL183_2
       clear BK179
       clear HR183_2
       clear HB
       have HO_0 := n0_
       have HO_5 := n1_
       have HO_180002 := n2_
       have HL183_2 := n3_
       have BK179 := n4_
       have HR183_2 := n5_
       have HB := n6_
       clear n0_ n1_ n2_ n3_ n4_ n5_ n6_
       (try clear hb)
       (try clear hb2)
       (try clear hk)
       (try clear hi)
       refine hK.out _ _ ⟨(blk_cell BK179.out 0).trans rfl, (blk_cell BK179.out 1).trans rfl, (blk_cell BK179.out 2).trans rfl, HS3_, HS4_, HS5_⟩ (fun hHeld => ?_)
       clear hK K
       refine norm_ (a' := ?_) ?_ ?_
       rotate_left
       ·show Act.put _ (some 24) _ = _
        simp only [nm_]
        rfl
       refine pl_ [(11, some 25, 0xfff), (12, some 26, 0x1fff)] ?_; iterate 2 (refine pq_ (v := ?_) (a' := ?_) HT_.out rfl rfl (by kernel_rfl) (fun _ _ _ h => h) (Or.inl ⟨by rfl, ?_⟩) ?_ ?_; rotate_left; (intro w'; go_simp; with_reducible rfl); rotate_left; (simp only [nm_]; rfl))
       refine ql_ ?_
       refine done_ (done_of HT_.out (by kernel_rfl)) ?_
       try go_wp2
       go_meet
       case rel => exact ⟨_, (decide (t184 ≥ 0)), (by first | rfl | (simp; done) | (simp [*]; done)), H', ⟨by have := HK1.out; first | omega | exact Nat.le_refl _⟩, ⟨by (with_reducible repeat (first | apply Kd.V_alloc | apply Kd.V_drewN | apply Kd.V_drew)); exact HO_0.out⟩, ⟨by (with_reducible repeat (first | apply Kd.N_alloc | apply Kd.N_drewN | apply Kd.N_drew)); exact HO_5.out⟩, ⟨by (with_reducible repeat (first | apply Kd.V_alloc | apply Kd.V_drewN | apply Kd.V_drew)); exact HO_180002.out⟩, ⟨by (with_reducible repeat (first | refine blk_drewN ?_ _ | refine blk_drew ?_ | refine blk_alloc ?_ _)); exact BK179.out⟩, ⟨by repeat (first | (with_reducible first | exact HB.out | apply below_alloc | apply pw_below_drewN | apply below_drew1 | refine below_set ?_ GE179.out) | exact HB.out)⟩⟩
      ·rw [if_neg c8] at H
       exact absurd H (by simp)
    case rest =>
     clear HC5
     try clear c1
     try clear p1
     try clear q1
     try clear hx1
     try clear p2
     try clear c4
     try clear c4b0
     try clear c5
     try clear c6
     try clear c8
     try clear c8b0
     try clear hx183_0
     try clear hx183_1
     try clear hx183_2
     try clear p183
     try clear p2
     try clear q183
     obtain ⟨kq, x26_4, rfl, HA, HJ4, HO_0, HO_5, HO_180002, BK179, HB⟩ := hcut
     cases kq with
     | zero => exact absurd HA.out (by simp [tallymanref7_with.j1])
     | succ kj4 =>
      have H := HA.out
      clear HA
      simp only [tallymanref7_with.j1] at H
      by_cases c12 : x26_4 = true
      ·subst c12
       have H1 : (if x5_1.length < 2932031007402 then ((some (x5_1 ++ [(⟨a1_0, a1_1, l1_2⟩ : S45)] : List (S45))).bind fun y185 => (if 0 ≤ x7_1 then (if x7_1 < (l0.length : Int) then (if ((rd_T45 l0 x7_1).f0).toList = a1_0.toList then (tallymanref7_with.l0 kj4 l0 y185 true (wrap64 (x7_1 + 1)) a1_0 a1_1 l1_2) else (if y185.length < 2932031007402 then (tallymanref7_with.l0 kj4 l0 (y185 ++ [(⟨(rd_T45 l0 x7_1).f0, (rd_T45 l0 x7_1).f1, (rd_T45 l0 x7_1).f2⟩ : S45)]) true (wrap64 (x7_1 + 1)) a1_0 a1_1 l1_2) else (none))) else (none)) else (none))) else (none)) = some r := by rw [if_pos rfl] at H; exact H
       clear H
       have H := H1
       clear H1
       by_cases c13 : x5_1.length < 2932031007402
       ·rw [if_pos c13] at H
        have LMc13 := Aside0.mk c13
        clear c13
        obtain ⟨y185, hy185⟩ : ∃ y_ : List (S45), y_ = (x5_1 ++ [(⟨a1_0, a1_1, l1_2⟩ : S45)]) := ⟨_, rfl⟩
        replace H : (if 0 ≤ x7_1 then (if x7_1 < (l0.length : Int) then (if ((rd_T45 l0 x7_1).f0).toList = a1_0.toList then (tallymanref7_with.l0 kj4 l0 y185 true (wrap64 (x7_1 + 1)) a1_0 a1_1 l1_2) else (if y185.length < 2932031007402 then (tallymanref7_with.l0 kj4 l0 (y185 ++ [(⟨(rd_T45 l0 x7_1).f0, (rd_T45 l0 x7_1).f1, (rd_T45 l0 x7_1).f2⟩ : S45)]) true (wrap64 (x7_1 + 1)) a1_0 a1_1 l1_2) else (none))) else (none)) else (none)) = some r := by first | (rw [hy185]; with_reducible exact H) | (have H2_ := (Option.bind_some _ _).symm.trans H; rw [hy185]; with_reducible exact H2_) | (have H2_ := (Option.bind_some _ _).symm.trans H; with_reducible exact H2_) | with_reducible exact H | (rw [hy185]; exact H) | exact H
        have Ny185 := Aside0.mk hy185
        clear hy185
        by_cases c14 : 0 ≤ x7_1
        ·rw [if_pos c14] at H
         have c14b0 : decide (0 ≤ x7_1) = true := decide_eq_true c14
         clear c14
         by_cases c15 : x7_1 < (l0.length : Int)
         ·rw [if_pos c15] at H
          have c15b0 : decide (x7_1 < (l0.length : Int)) = true := decide_eq_true c15
          clear c15
          by_cases c16 : ((rd_T45 l0 x7_1).f0).toList = a1_0.toList
          ·rw [if_pos c16] at H
           have c16b0 : (((rd_T45 l0 x7_1).f0).toList == a1_0.toList) = true := beq_iff_eq.mpr c16
           have c16b1 : (((rd_T45 l0 x7_1).f0).toList != a1_0.toList) = false := bne_eq_false_iff_eq.mpr c16
           clear c16
           have H' := Aside0.mk H
           clear H
           have hcz17_0 : wc.cell? ⟨gb179, 0, none⟩ = some (.string a1_0) := (blk_cell BK179.out 0).trans rfl
           have hcz17_1 : wc.cell? ⟨gb179, 1, none⟩ = some (.bool a1_1) := (blk_cell BK179.out 1).trans rfl
           have hcz17_2 : wc.cell? ⟨gb179, 2, none⟩ = some (.slice A1_2 l1_2.length c1_2) := (blk_cell BK179.out 2).trans rfl
           have hfz17_0 := blk_frozen BK179.out 0
           have hfz17_1 := blk_frozen BK179.out 1
           have hfz17_2 := blk_frozen BK179.out 2
           try go_wp2_with (first | ((with_reducible refine gate_builtin (b := .append) (xs := #[.tmp 27, .tmp 29]) rfl ?_); at_builtin; refine Kd.N_append k45 (w0 := w) w.heap.size rfl (.tmp 27) (.tmp 29) 28 45 (.agg #[(.string ⟨#[]⟩), (.bool false), (.slice none 0 0)]) 48 rfl Tryz.underlying28 info45 rfl (by decide) (by omega) u5 x5_1 (⟨a1_0, a1_1, l1_2⟩ : S45) [.string a1_0, .bool a1_1, .slice A1_2 l1_2.length c1_2] (fun k_ => ((P0_ k_ ∨ P1_2_ k_) ∨ w.heap.size ≤ k_) ∧ k_ ≠ gb179) (fun k_ => ((fun k_ => ((P0_ k_ ∨ P1_2_ k_) ∨ w.heap.size ≤ k_) ∧ k_ ≠ gb179)) k_ ∧ some k_ ≠ (u5 : Value).ownBlock) rfl rfl ?aP (fun _ hk => hk) ?aF ?aO ?aB ?aS ?aL ?_; (case aP => exact (k45_mkF _ _ (⟨a1_0, a1_1, l1_2⟩ : S45) (Kd.V_reads' (Kd.V_mono (ok' := (fun k_ => ((fun k_ => ((P0_ k_ ∨ P1_2_ k_) ∨ w.heap.size ≤ k_) ∧ k_ ≠ gb179)) k_ ∧ some k_ ≠ (u5 : Value).ownBlock)) (HO_180002.out) (fun k_ hk => ⟨⟨hk.1, hk.2.2⟩, hk.2.1⟩))).2.1 (Kd.V_F (Kd.V_mono (ok' := (fun k_ => ((fun k_ => ((P0_ k_ ∨ P1_2_ k_) ∨ w.heap.size ≤ k_) ∧ k_ ≠ gb179)) k_ ∧ some k_ ≠ (u5 : Value).ownBlock)) (HO_180002.out) (fun k_ hk => ⟨⟨hk.1, hk.2.2⟩, hk.2.1⟩))))); (case aB => exact (xw_ HB.out)); (case aF => exact (fun k_ hk => ⟨(.inr (Nat.le_trans (below_size (xw_ HB.out)) hk)), Kd.freshB (xb_ BK179.out) k_ hk⟩)); (case aO => exact (xN_ HO_5.out)); (case aS => exact (below_size (xw_ HB.out))); (case aL => have := LMc13.out; omega); intro v186 w18 ho hb hg hat; rw [← Ny185.out] at ho; replace HO_0 := xa_ (Kd.V_afterv (ok := (fun k_ => ((P0_ k_ ∨ P1_2_ k_) ∨ w.heap.size ≤ k_) ∧ k_ ≠ gb179)) (by (with_reducible repeat (first | apply Kd.V_alloc | apply Kd.V_drewN | apply Kd.V_drew)); exact Kd.V_mono HO_0.out (fun _ hk => ⟨⟨hk.1, hk.2.2⟩, hk.2.1⟩)) hg hat); replace HO_180002 := xa_ (Kd.V_afterv (ok := (fun k_ => ((P0_ k_ ∨ P1_2_ k_) ∨ w.heap.size ≤ k_) ∧ k_ ≠ gb179)) (by (with_reducible repeat (first | apply Kd.V_alloc | apply Kd.V_drewN | apply Kd.V_drew)); exact Kd.V_mono HO_180002.out (fun _ hk => ⟨⟨hk.1, hk.2.2⟩, hk.2.1⟩)) hg hat); replace BK179 := xa_ (blk_grown (xb_ BK179.out) hg (Kd.N_away HO_5.out (fun _ hk => hk.2))); replace HB := xa_ (hb); replace HO187 := xa_ (ho); clear ho hb hg hat))
           have n0_ := xa_ (Kd.V_drew HO_0.out)
           have n1_ := xa_ (Kd.V_drew HO_180002.out)
           have n2_ := xa_ (Kd.N_drew HO187.out)
           have n3_ := xa_ (blk_drew BK179.out)
           have n4_ := xa_ (below_drew1 HB.out)
           clear HO_0
           clear HO_180002
           clear HO187
           clear BK179
           clear HB
           have HO_0 := n0_
           have HO_180002 := n1_
           have HO187 := n2_
           have BK179 := n3_
           have HB := n4_
           clear n0_ n1_ n2_ n3_ n4_
           have p188 : 0 ≤ (x7_1 : Int) := of_decide_eq_true (by first | (with_reducible assumption) | assumption)
           have q188 : x7_1 < (l0.length : Int) := of_decide_eq_true (by first | (with_reducible assumption) | assumption)
           obtain ⟨ad188, A188_2, c188_2, e188, hx188_0, hx188_1, hx188_2, hl188_2, hi188_2⟩ := at_T45 (Kd.V_reads' HO_0.out).2.2 x7_1 p188 q188
           cases e188
           obtain ⟨ce188, hce188, hMe188, hcc188⟩ := Kd.V_get HO_0.out z45 x7_1 p188 (by first | exact q188 | exact of_decide_eq_true (by first | (with_reducible assumption) | assumption) | (have e_ := (Kd.V_reads' HO_0.out).1; omega))
           obtain ⟨ua188_2, uc188_2, rfl, ul188_2, ge188_2⟩ := k45_openF hMe188
           have hv188_2 := hcc188 2 _ rfl
           rw [add_field _ _ 2 (by omega)] at hv188_2
           replace hv188_2 := Option.some.inj (hv188_2.symm.trans hx188_2)
           injection hv188_2 with hva_ hvn_ hvc_
           rw [hva_] at ge188_2
           rw [hvc_] at ul188_2
           have HL188_2 := xa_ (show Kd.V (Kd.int .u8) 5 _ w.heap.size _ _ ((rd_T45 l0 x7_1).f2) from Kd.V_mk ul188_2 ge188_2)
           clear hva_ hvn_ hvc_ ge188_2 ul188_2
           clear hcc188 hce188
           have HR188_2 := Aside0.mk hi188_2
           have HC188_2 := Aside0.mk hl188_2
           clear hi188_2 hl188_2
           replace p188 := eq_true p188
           replace q188 := eq_true q188
           refine start_ (n := 8) (S := fun w' => w'.cell? ⟨gb179, 0, none⟩ = some (.string a1_0) ∧ w'.cell? ⟨gb179, 1, none⟩ = some (.bool a1_1) ∧ w'.cell? ⟨gb179, 2, none⟩ = some (.slice A1_2 l1_2.length c1_2) ∧ w'.cell? (ad188.add ((x7_1).toNat * 3)) = some (.string ((rd_T45 l0 x7_1).f0)) ∧ w'.cell? ⟨(ad188.add ((x7_1).toNat * 3)).block, (ad188.add ((x7_1).toNat * 3)).off + 1, none⟩ = some (.bool ((rd_T45 l0 x7_1).f1)) ∧ w'.cell? ⟨(ad188.add ((x7_1).toNat * 3)).block, (ad188.add ((x7_1).toNat * 3)).off + 2, none⟩ = some (.slice A188_2 ((rd_T45 l0 x7_1).f2).length c188_2)) (ds := []) (bs_ 8 0x0) (by kernel_rfl) rfl rfl ⟨(blk_cell BK179.out 0).trans rfl, (blk_cell BK179.out 1).trans rfl, (blk_cell BK179.out 2).trans rfl, hx188_0, hx188_1, hx188_2⟩ (fun hHeld => ?_); refine with_tabW tallymanref7_with.tab9 tallymanref7_with.bits9 (fun HT_ HW_ => ?_)
           generalize w18.drew = w19 at HO_0 HO_180002 HO187 BK179 HB HL188_2 HR188_2 hx188_0 hx188_1 hx188_2 hHeld ⊢
           refine pl_ [(0, some 31, 0x1), (1, some 32, 0x3), (2, some 33, 0x7), (3, some 34, 0xf), (5, some 36, 0x2f), (4, some 35, 0x3f), (6, some 37, 0x7f), (7, some 38, 0xff)] ?_; iterate 8 (first | (refine pq_ (v := ?_) (a' := ?_) HT_.out rfl rfl (by kernel_rfl) (fun _ _ _ h => h) (Or.inl ⟨by rfl, ?_⟩) ?_ ?_; rotate_left; (intro w'; go_simp; with_reducible rfl); rotate_left; (simp only [nm_]; rfl)) | (refine tq_ (v := ?_) (a' := ?_) HT_.out HW_.out rfl rfl (by kernel_rfl) (fun _ _ _ h => h) (Or.inl ⟨by rfl, ?_⟩) hHeld ?_ ?_; rotate_left; (rintro w' ⟨s0, s1, s2, s3, s4, s5⟩; go_simp; with_reducible rfl); rotate_left; (simp only [nm_]; rfl)))
           refine ql_ ?_
           refine done_ (done_of HT_.out (by kernel_rfl)) ?_
           try go_wp2
           go_roundg kj4
           case measure => have := HK1.out; have := HJ4.out; omega
           case rel => exact ⟨(y185), (true), (wrap64 (x7_1 + 1)), (by first | rfl | (simp; done) | (simp [*]; done)), (by first | rfl | (simp; done) | (simp [*]; done)), H', ⟨by have := HK1.out; have := HJ4.out; omega⟩, ⟨by (with_reducible repeat (first | apply Kd.V_alloc | apply Kd.V_drewN | apply Kd.V_drew)); exact Kd.V_mono HO_0.out (fun _ hk => ⟨hk.1.1, ⟨hk.2, hk.1.2⟩⟩)⟩, ⟨by (with_reducible repeat (first | apply Kd.N_alloc | apply Kd.N_drewN | apply Kd.N_drew)); exact HO187.out⟩, ⟨by (with_reducible repeat (first | apply Kd.V_alloc | apply Kd.V_drewN | apply Kd.V_drew)); exact Kd.V_mono HO_180002.out (fun _ hk => ⟨hk.1.1, ⟨hk.2, hk.1.2⟩⟩)⟩, ⟨by (with_reducible repeat (first | refine blk_drewN ?_ _ | refine blk_drew ?_ | refine blk_alloc ?_ _)); exact BK179.out⟩, ⟨by repeat (first | (with_reducible first | exact HB.out | apply below_alloc | apply pw_below_drewN | apply below_drew1 | refine below_set ?_ GE179.out) | exact HB.out)⟩⟩
          ·rw [if_neg c16] at H
           have c16b0 : (((rd_T45 l0 x7_1).f0).toList == a1_0.toList) = false := beq_eq_false_iff_ne.mpr c16
           have c16b1 : (((rd_T45 l0 x7_1).f0).toList != a1_0.toList) = true := bne_iff_ne.mpr c16
           by_cases c20 : y185.length < 2932031007402
           ·rw [if_pos c20] at H
            have LMc20 := Aside0.mk c20
            clear c20
            obtain ⟨y190, hy190⟩ : ∃ y_ : List (S45), y_ = (y185 ++ [(⟨(rd_T45 l0 x7_1).f0, (rd_T45 l0 x7_1).f1, (rd_T45 l0 x7_1).f2⟩ : S45)]) := ⟨_, rfl⟩
            replace H : (tallymanref7_with.l0 kj4 l0 y190 true (wrap64 (x7_1 + 1)) a1_0 a1_1 l1_2) = some r := by first | (rw [hy190]; with_reducible exact H) | (have H2_ := (Option.bind_some _ _).symm.trans H; rw [hy190]; with_reducible exact H2_) | (have H2_ := (Option.bind_some _ _).symm.trans H; with_reducible exact H2_) | with_reducible exact H | (rw [hy190]; exact H) | exact H
            have Ny190 := Aside0.mk hy190
            clear hy190
            have H' := Aside0.mk H
            clear H
            have hcz21_0 : wc.cell? ⟨gb179, 0, none⟩ = some (.string a1_0) := (blk_cell BK179.out 0).trans rfl
            have hcz21_1 : wc.cell? ⟨gb179, 1, none⟩ = some (.bool a1_1) := (blk_cell BK179.out 1).trans rfl
            have hcz21_2 : wc.cell? ⟨gb179, 2, none⟩ = some (.slice A1_2 l1_2.length c1_2) := (blk_cell BK179.out 2).trans rfl
            have hfz21_0 := blk_frozen BK179.out 0
            have hfz21_1 := blk_frozen BK179.out 1
            have hfz21_2 := blk_frozen BK179.out 2
            try go_wp2_with (first | ((with_reducible refine gate_builtin (b := .append) (xs := #[.tmp 27, .tmp 29]) rfl ?_); at_builtin; refine Kd.N_append k45 (w0 := w) w.heap.size rfl (.tmp 27) (.tmp 29) 28 45 (.agg #[(.string ⟨#[]⟩), (.bool false), (.slice none 0 0)]) 48 rfl Tryz.underlying28 info45 rfl (by decide) (by omega) u5 x5_1 (⟨a1_0, a1_1, l1_2⟩ : S45) [.string a1_0, .bool a1_1, .slice A1_2 l1_2.length c1_2] (fun k_ => ((P0_ k_ ∨ P1_2_ k_) ∨ w.heap.size ≤ k_) ∧ k_ ≠ gb179) (fun k_ => ((fun k_ => ((P0_ k_ ∨ P1_2_ k_) ∨ w.heap.size ≤ k_) ∧ k_ ≠ gb179)) k_ ∧ some k_ ≠ (u5 : Value).ownBlock) rfl rfl ?aP (fun _ hk => hk) ?aF ?aO ?aB ?aS ?aL ?_; (case aP => exact (k45_mkF _ _ (⟨a1_0, a1_1, l1_2⟩ : S45) (Kd.V_reads' (Kd.V_mono (ok' := (fun k_ => ((fun k_ => ((P0_ k_ ∨ P1_2_ k_) ∨ w.heap.size ≤ k_) ∧ k_ ≠ gb179)) k_ ∧ some k_ ≠ (u5 : Value).ownBlock)) (HO_180002.out) (fun k_ hk => ⟨⟨hk.1, hk.2.2⟩, hk.2.1⟩))).2.1 (Kd.V_F (Kd.V_mono (ok' := (fun k_ => ((fun k_ => ((P0_ k_ ∨ P1_2_ k_) ∨ w.heap.size ≤ k_) ∧ k_ ≠ gb179)) k_ ∧ some k_ ≠ (u5 : Value).ownBlock)) (HO_180002.out) (fun k_ hk => ⟨⟨hk.1, hk.2.2⟩, hk.2.1⟩))))); (case aB => exact (xw_ HB.out)); (case aF => exact (fun k_ hk => ⟨(.inr (Nat.le_trans (below_size (xw_ HB.out)) hk)), Kd.freshB (xb_ BK179.out) k_ hk⟩)); (case aO => exact (xN_ HO_5.out)); (case aS => exact (below_size (xw_ HB.out))); (case aL => have := LMc13.out; omega); intro v186 w22 ho hb hg hat; rw [← Ny185.out] at ho; replace HO_0 := xa_ (Kd.V_afterv (ok := (fun k_ => ((P0_ k_ ∨ P1_2_ k_) ∨ w.heap.size ≤ k_) ∧ k_ ≠ gb179)) (by (with_reducible repeat (first | apply Kd.V_alloc | apply Kd.V_drewN | apply Kd.V_drew)); exact Kd.V_mono HO_0.out (fun _ hk => ⟨⟨hk.1, hk.2.2⟩, hk.2.1⟩)) hg hat); replace HO_180002 := xa_ (Kd.V_afterv (ok := (fun k_ => ((P0_ k_ ∨ P1_2_ k_) ∨ w.heap.size ≤ k_) ∧ k_ ≠ gb179)) (by (with_reducible repeat (first | apply Kd.V_alloc | apply Kd.V_drewN | apply Kd.V_drew)); exact Kd.V_mono HO_180002.out (fun _ hk => ⟨⟨hk.1, hk.2.2⟩, hk.2.1⟩)) hg hat); replace BK179 := xa_ (blk_grown (xb_ BK179.out) hg (Kd.N_away HO_5.out (fun _ hk => hk.2))); replace HB := xa_ (hb); replace HO187 := xa_ (ho); clear ho hb hg hat))
            have n0_ := xa_ (Kd.V_drew HO_0.out)
            have n1_ := xa_ (Kd.V_drew HO_180002.out)
            have n2_ := xa_ (Kd.N_drew HO187.out)
            have n3_ := xa_ (blk_drew BK179.out)
            have n4_ := xa_ (below_drew1 HB.out)
            clear HO_0
            clear HO_180002
            clear HO187
            clear BK179
            clear HB
            have HO_0 := n0_
            have HO_180002 := n1_
            have HO187 := n2_
            have BK179 := n3_
            have HB := n4_
            clear n0_ n1_ n2_ n3_ n4_
            have p188 : 0 ≤ (x7_1 : Int) := of_decide_eq_true (by first | (with_reducible assumption) | assumption)
            have q188 : x7_1 < (l0.length : Int) := of_decide_eq_true (by first | (with_reducible assumption) | assumption)
            obtain ⟨ad188, A188_2, c188_2, e188, hx188_0, hx188_1, hx188_2, hl188_2, hi188_2⟩ := at_T45 (Kd.V_reads' HO_0.out).2.2 x7_1 p188 q188
            cases e188
            obtain ⟨ce188, hce188, hMe188, hcc188⟩ := Kd.V_get HO_0.out z45 x7_1 p188 (by first | exact q188 | exact of_decide_eq_true (by first | (with_reducible assumption) | assumption) | (have e_ := (Kd.V_reads' HO_0.out).1; omega))
            obtain ⟨ua188_2, uc188_2, rfl, ul188_2, ge188_2⟩ := k45_openF hMe188
            have hv188_2 := hcc188 2 _ rfl
            rw [add_field _ _ 2 (by omega)] at hv188_2
            replace hv188_2 := Option.some.inj (hv188_2.symm.trans hx188_2)
            injection hv188_2 with hva_ hvn_ hvc_
            rw [hva_] at ge188_2
            rw [hvc_] at ul188_2
            have HL188_2 := xa_ (show Kd.V (Kd.int .u8) 5 _ w.heap.size _ _ ((rd_T45 l0 x7_1).f2) from Kd.V_mk ul188_2 ge188_2)
            clear hva_ hvn_ hvc_ ge188_2 ul188_2
            clear hcc188 hce188
            have HR188_2 := Aside0.mk hi188_2
            have HC188_2 := Aside0.mk hl188_2
            clear hi188_2 hl188_2
            replace p188 := eq_true p188
            replace q188 := eq_true q188
            refine start_ (n := 8) (S := fun w' => w'.cell? ⟨gb179, 0, none⟩ = some (.string a1_0) ∧ w'.cell? ⟨gb179, 1, none⟩ = some (.bool a1_1) ∧ w'.cell? ⟨gb179, 2, none⟩ = some (.slice A1_2 l1_2.length c1_2) ∧ w'.cell? (ad188.add ((x7_1).toNat * 3)) = some (.string ((rd_T45 l0 x7_1).f0)) ∧ w'.cell? ⟨(ad188.add ((x7_1).toNat * 3)).block, (ad188.add ((x7_1).toNat * 3)).off + 1, none⟩ = some (.bool ((rd_T45 l0 x7_1).f1)) ∧ w'.cell? ⟨(ad188.add ((x7_1).toNat * 3)).block, (ad188.add ((x7_1).toNat * 3)).off + 2, none⟩ = some (.slice A188_2 ((rd_T45 l0 x7_1).f2).length c188_2)) (ds := []) (bs_ 8 0x0) (by kernel_rfl) rfl rfl ⟨(blk_cell BK179.out 0).trans rfl, (blk_cell BK179.out 1).trans rfl, (blk_cell BK179.out 2).trans rfl, hx188_0, hx188_1, hx188_2⟩ (fun hHeld => ?_); refine with_tabW tallymanref7_with.tab9 tallymanref7_with.bits9 (fun HT_ HW_ => ?_)
            generalize w22.drew = w23 at HO_0 HO_180002 HO187 BK179 HB HL188_2 HR188_2 hx188_0 hx188_1 hx188_2 hHeld ⊢
            refine pl_ [(0, some 31, 0x1), (1, some 32, 0x3), (2, some 33, 0x7), (3, some 34, 0xf), (5, some 36, 0x2f), (4, some 35, 0x3f), (6, some 37, 0x7f), (7, some 38, 0xff)] ?_; iterate 8 (first | (refine pq_ (v := ?_) (a' := ?_) HT_.out rfl rfl (by kernel_rfl) (fun _ _ _ h => h) (Or.inl ⟨by rfl, ?_⟩) ?_ ?_; rotate_left; (intro w'; go_simp; with_reducible rfl); rotate_left; (simp only [nm_]; rfl)) | (refine tq_ (v := ?_) (a' := ?_) HT_.out HW_.out rfl rfl (by kernel_rfl) (fun _ _ _ h => h) (Or.inl ⟨by rfl, ?_⟩) hHeld ?_ ?_; rotate_left; (rintro w' ⟨s0, s1, s2, s3, s4, s5⟩; go_simp; with_reducible rfl); rotate_left; (simp only [nm_]; rfl)))
            refine ql_ ?_
            refine done_ (done_of HT_.out (by kernel_rfl)) ?_
            have p189 : 0 ≤ (x7_1 : Int) := of_decide_eq_true (by first | (with_reducible assumption) | assumption)
            have q189 : x7_1 < (l0.length : Int) := of_decide_eq_true (by first | (with_reducible assumption) | assumption)
            obtain ⟨ad189, A189_2, c189_2, e189, hx189_0, hx189_1, hx189_2, hl189_2, hi189_2⟩ := at_T45 (Kd.V_reads' HO_0.out).2.2 x7_1 p189 q189
            obtain rfl : ad188 = ad189 := (by injection e189)
            obtain ⟨ce189, hce189, hMe189, hcc189⟩ := Kd.V_get HO_0.out z45 x7_1 p189 (by first | exact q189 | exact of_decide_eq_true (by first | (with_reducible assumption) | assumption) | (have e_ := (Kd.V_reads' HO_0.out).1; omega))
            obtain ⟨ua189_2, uc189_2, rfl, ul189_2, ge189_2⟩ := k45_openF hMe189
            have hv189_2 := hcc189 2 _ rfl
            rw [add_field _ _ 2 (by omega)] at hv189_2
            replace hv189_2 := Option.some.inj (hv189_2.symm.trans hx189_2)
            injection hv189_2 with hva_ hvn_ hvc_
            rw [hva_] at ge189_2
            rw [hvc_] at ul189_2
            have HL189_2 := xa_ (show Kd.V (Kd.int .u8) 5 _ w.heap.size _ _ ((rd_T45 l0 x7_1).f2) from Kd.V_mk ul189_2 ge189_2)
            clear hva_ hvn_ hvc_ ge189_2 ul189_2
            clear hcc189 hce189
            have HR189_2 := Aside0.mk hi189_2
            have HC189_2 := Aside0.mk hl189_2
            clear hi189_2 hl189_2
            replace p189 := eq_true p189
            replace q189 := eq_true q189
            have ea_ := Option.some.inj (hx188_2.symm.trans hx189_2)
            injection ea_ with ea_ en_ ec_
            subst ea_
            subst ec_
            clear en_
            try go_wp2_with (first | ((with_reducible refine gate_builtin (b := .append) (xs := #[.tmp 39, .tmp 44]) rfl ?_); at_builtin; refine Kd.N_append k45 (w0 := w) w.heap.size rfl (.tmp 39) (.tmp 44) 28 45 (.agg #[(.string ⟨#[]⟩), (.bool false), (.slice none 0 0)]) 48 rfl Tryz.underlying28 info45 rfl (by decide) (by omega) v186 y185 (⟨(rd_T45 l0 x7_1).f0, (rd_T45 l0 x7_1).f1, (rd_T45 l0 x7_1).f2⟩ : S45) [.string ((rd_T45 l0 x7_1).f0), .bool ((rd_T45 l0 x7_1).f1), .slice A188_2 ((rd_T45 l0 x7_1).f2).length c188_2] (fun k_ => ((P0_ k_ ∨ P1_2_ k_) ∨ w.heap.size ≤ k_) ∧ k_ ≠ gb179) (fun k_ => ((fun k_ => ((P0_ k_ ∨ P1_2_ k_) ∨ w.heap.size ≤ k_) ∧ k_ ≠ gb179)) k_ ∧ some k_ ≠ (v186 : Value).ownBlock) rfl rfl ?aP (fun _ hk => hk) ?aF ?aO ?aB ?aS ?aL ?_; (case aP => exact (k45_mkF _ _ (⟨(rd_T45 l0 x7_1).f0, (rd_T45 l0 x7_1).f1, (rd_T45 l0 x7_1).f2⟩ : S45) (Kd.V_reads' (Kd.V_mono (ok' := (fun k_ => ((fun k_ => ((P0_ k_ ∨ P1_2_ k_) ∨ w.heap.size ≤ k_) ∧ k_ ≠ gb179)) k_ ∧ some k_ ≠ (v186 : Value).ownBlock)) (HL189_2.out) (fun k_ hk => ⟨⟨hk.1.1, hk.1.2⟩, hk.2⟩))).2.1 (Kd.V_F (Kd.V_mono (ok' := (fun k_ => ((fun k_ => ((P0_ k_ ∨ P1_2_ k_) ∨ w.heap.size ≤ k_) ∧ k_ ≠ gb179)) k_ ∧ some k_ ≠ (v186 : Value).ownBlock)) (HL189_2.out) (fun k_ hk => ⟨⟨hk.1.1, hk.1.2⟩, hk.2⟩))))); (case aB => exact (xw_ HB.out)); (case aF => exact (fun k_ hk => ⟨(.inr (Nat.le_trans (below_size (xw_ HB.out)) hk)), Kd.freshB (xb_ BK179.out) k_ hk⟩)); (case aO => exact (xN_ HO187.out)); (case aS => exact (below_size (xw_ HB.out))); (case aL => have := LMc20.out; omega); intro v191 w24 ho hb hg hat; rw [← Ny190.out] at ho; replace HO_0 := xa_ (Kd.V_afterv (ok := (fun k_ => ((P0_ k_ ∨ P1_2_ k_) ∨ w.heap.size ≤ k_) ∧ k_ ≠ gb179)) (xV_ HO_0.out) hg hat); replace HO_180002 := xa_ (Kd.V_afterv (ok := (fun k_ => ((P0_ k_ ∨ P1_2_ k_) ∨ w.heap.size ≤ k_) ∧ k_ ≠ gb179)) (xV_ HO_180002.out) hg hat); replace BK179 := xa_ (blk_grown (xb_ BK179.out) hg (Kd.N_away HO187.out (fun _ hk => hk.2))); replace HL188_2 := xa_ (Kd.V_afterv (ok := (fun k_ => ((P0_ k_ ∨ P1_2_ k_) ∨ w.heap.size ≤ k_) ∧ k_ ≠ gb179)) (xV_ HL188_2.out) hg hat); replace HL189_2 := xa_ (Kd.V_afterv (ok := (fun k_ => ((P0_ k_ ∨ P1_2_ k_) ∨ w.heap.size ≤ k_) ∧ k_ ≠ gb179)) (xV_ HL189_2.out) hg hat); replace HB := xa_ (hb); replace HO192 := xa_ (ho); clear ho hb hg hat))
            go_roundg kj4
            case measure => have := HK1.out; have := HJ4.out; omega
            case rel => exact ⟨(y190), (true), (wrap64 (x7_1 + 1)), (by first | rfl | (simp; done) | (simp [*]; done)), (by first | rfl | (simp; done) | (simp [*]; done)), H', ⟨by have := HK1.out; have := HJ4.out; omega⟩, ⟨by (with_reducible repeat (first | apply Kd.V_alloc | apply Kd.V_drewN | apply Kd.V_drew)); exact Kd.V_mono HO_0.out (fun _ hk => ⟨hk.1.1, ⟨hk.2, hk.1.2⟩⟩)⟩, ⟨by (with_reducible repeat (first | apply Kd.N_alloc | apply Kd.N_drewN | apply Kd.N_drew)); exact HO192.out⟩, ⟨by (with_reducible repeat (first | apply Kd.V_alloc | apply Kd.V_drewN | apply Kd.V_drew)); exact Kd.V_mono HO_180002.out (fun _ hk => ⟨hk.1.1, ⟨hk.2, hk.1.2⟩⟩)⟩, ⟨by (with_reducible repeat (first | refine blk_drewN ?_ _ | refine blk_drew ?_ | refine blk_alloc ?_ _)); exact BK179.out⟩, ⟨by repeat (first | (with_reducible first | exact HB.out | apply below_alloc | apply pw_below_drewN | apply below_drew1 | refine below_set ?_ GE179.out) | exact HB.out)⟩⟩
           ·rw [if_neg c20] at H
            exact absurd H (by simp)
         ·rw [if_neg c15] at H
          exact absurd H (by simp)
        ·rw [if_neg c14] at H
         exact absurd H (by simp)
       ·rw [if_neg c13] at H
        exact absurd H (by simp)
      ·replace c12 := Bool.eq_false_iff.mpr c12
       subst c12
       have H1 : (if 0 ≤ x7_1 then (if x7_1 < (l0.length : Int) then (if ((rd_T45 l0 x7_1).f0).toList = a1_0.toList then (tallymanref7_with.l0 kj4 l0 x5_1 x6_1 (wrap64 (x7_1 + 1)) a1_0 a1_1 l1_2) else (if x5_1.length < 2932031007402 then (tallymanref7_with.l0 kj4 l0 (x5_1 ++ [(⟨(rd_T45 l0 x7_1).f0, (rd_T45 l0 x7_1).f1, (rd_T45 l0 x7_1).f2⟩ : S45)]) x6_1 (wrap64 (x7_1 + 1)) a1_0 a1_1 l1_2) else (none))) else (none)) else (none)) = some r := by rw [if_neg (show ¬ (false = true) by decide)] at H; exact H
       clear H
       have H := H1
       clear H1
       by_cases c25 : 0 ≤ x7_1
       ·rw [if_pos c25] at H
        have c25b0 : decide (0 ≤ x7_1) = true := decide_eq_true c25
        clear c25
        by_cases c26 : x7_1 < (l0.length : Int)
        ·rw [if_pos c26] at H
         have c26b0 : decide (x7_1 < (l0.length : Int)) = true := decide_eq_true c26
         clear c26
         by_cases c27 : ((rd_T45 l0 x7_1).f0).toList = a1_0.toList
         ·rw [if_pos c27] at H
          have c27b0 : (((rd_T45 l0 x7_1).f0).toList == a1_0.toList) = true := beq_iff_eq.mpr c27
          have c27b1 : (((rd_T45 l0 x7_1).f0).toList != a1_0.toList) = false := bne_eq_false_iff_eq.mpr c27
          clear c27
          have H' := Aside0.mk H
          clear H
          try go_wp2
          have n0_ := xa_ (Kd.V_drew HO_0.out)
          have n1_ := xa_ (Kd.N_drew HO_5.out)
          have n2_ := xa_ (Kd.V_drew HO_180002.out)
          have n3_ := xa_ (blk_drew BK179.out)
          have n4_ := xa_ (below_drew1 HB.out)
          clear HO_0
          clear HO_5
          clear HO_180002
          clear BK179
          clear HB
          have HO_0 := n0_
          have HO_5 := n1_
          have HO_180002 := n2_
          have BK179 := n3_
          have HB := n4_
          clear n0_ n1_ n2_ n3_ n4_
          have p193 : 0 ≤ (x7_1 : Int) := of_decide_eq_true (by first | (with_reducible assumption) | assumption)
          have q193 : x7_1 < (l0.length : Int) := of_decide_eq_true (by first | (with_reducible assumption) | assumption)
          obtain ⟨ad193, A193_2, c193_2, e193, hx193_0, hx193_1, hx193_2, hl193_2, hi193_2⟩ := at_T45 (Kd.V_reads' HO_0.out).2.2 x7_1 p193 q193
          cases e193
          obtain ⟨ce193, hce193, hMe193, hcc193⟩ := Kd.V_get HO_0.out z45 x7_1 p193 (by first | exact q193 | exact of_decide_eq_true (by first | (with_reducible assumption) | assumption) | (have e_ := (Kd.V_reads' HO_0.out).1; omega))
          obtain ⟨ua193_2, uc193_2, rfl, ul193_2, ge193_2⟩ := k45_openF hMe193
          have hv193_2 := hcc193 2 _ rfl
          rw [add_field _ _ 2 (by omega)] at hv193_2
          replace hv193_2 := Option.some.inj (hv193_2.symm.trans hx193_2)
          injection hv193_2 with hva_ hvn_ hvc_
          rw [hva_] at ge193_2
          rw [hvc_] at ul193_2
          have HL193_2 := xa_ (show Kd.V (Kd.int .u8) 5 _ w.heap.size _ _ ((rd_T45 l0 x7_1).f2) from Kd.V_mk ul193_2 ge193_2)
          clear hva_ hvn_ hvc_ ge193_2 ul193_2
          clear hcc193 hce193
          have HR193_2 := Aside0.mk hi193_2
          have HC193_2 := Aside0.mk hl193_2
          clear hi193_2 hl193_2
          replace p193 := eq_true p193
          replace q193 := eq_true q193
          refine start_ (n := 8) (S := fun w' => w'.cell? ⟨gb179, 0, none⟩ = some (.string a1_0) ∧ w'.cell? ⟨gb179, 1, none⟩ = some (.bool a1_1) ∧ w'.cell? ⟨gb179, 2, none⟩ = some (.slice A1_2 l1_2.length c1_2) ∧ w'.cell? (ad193.add ((x7_1).toNat * 3)) = some (.string ((rd_T45 l0 x7_1).f0)) ∧ w'.cell? ⟨(ad193.add ((x7_1).toNat * 3)).block, (ad193.add ((x7_1).toNat * 3)).off + 1, none⟩ = some (.bool ((rd_T45 l0 x7_1).f1)) ∧ w'.cell? ⟨(ad193.add ((x7_1).toNat * 3)).block, (ad193.add ((x7_1).toNat * 3)).off + 2, none⟩ = some (.slice A193_2 ((rd_T45 l0 x7_1).f2).length c193_2)) (ds := []) (bs_ 8 0x0) (by kernel_rfl) rfl rfl ⟨(blk_cell BK179.out 0).trans rfl, (blk_cell BK179.out 1).trans rfl, (blk_cell BK179.out 2).trans rfl, hx193_0, hx193_1, hx193_2⟩ (fun hHeld => ?_); refine with_tabW tallymanref7_with.tab9 tallymanref7_with.bits9 (fun HT_ HW_ => ?_)
          generalize wc.drew = w28 at HO_0 HO_5 HO_180002 BK179 HB HL193_2 HR193_2 hx193_0 hx193_1 hx193_2 hHeld ⊢
          refine pl_ [(0, some 31, 0x1), (1, some 32, 0x3), (2, some 33, 0x7), (3, some 34, 0xf), (5, some 36, 0x2f), (4, some 35, 0x3f), (6, some 37, 0x7f), (7, some 38, 0xff)] ?_; iterate 8 (first | (refine pq_ (v := ?_) (a' := ?_) HT_.out rfl rfl (by kernel_rfl) (fun _ _ _ h => h) (Or.inl ⟨by rfl, ?_⟩) ?_ ?_; rotate_left; (intro w'; go_simp; with_reducible rfl); rotate_left; (simp only [nm_]; rfl)) | (refine tq_ (v := ?_) (a' := ?_) HT_.out HW_.out rfl rfl (by kernel_rfl) (fun _ _ _ h => h) (Or.inl ⟨by rfl, ?_⟩) hHeld ?_ ?_; rotate_left; (rintro w' ⟨s0, s1, s2, s3, s4, s5⟩; go_simp; with_reducible rfl); rotate_left; (simp only [nm_]; rfl)))
          refine ql_ ?_
          refine done_ (done_of HT_.out (by kernel_rfl)) ?_
          try go_wp2
          go_roundg kj4
          case measure => have := HK1.out; have := HJ4.out; omega
          case rel => exact ⟨(x5_1), (x6_1), (wrap64 (x7_1 + 1)), (by first | rfl | (simp; done) | (simp [*]; done)), (by first | rfl | (simp; done) | (simp [*]; done)), H', ⟨by have := HK1.out; have := HJ4.out; omega⟩, ⟨by (with_reducible repeat (first | apply Kd.V_alloc | apply Kd.V_drewN | apply Kd.V_drew)); exact HO_0.out⟩, ⟨by (with_reducible repeat (first | apply Kd.N_alloc | apply Kd.N_drewN | apply Kd.N_drew)); exact HO_5.out⟩, ⟨by (with_reducible repeat (first | apply Kd.V_alloc | apply Kd.V_drewN | apply Kd.V_drew)); exact HO_180002.out⟩, ⟨by (with_reducible repeat (first | refine blk_drewN ?_ _ | refine blk_drew ?_ | refine blk_alloc ?_ _)); exact BK179.out⟩, ⟨by repeat (first | (with_reducible first | exact HB.out | apply below_alloc | apply pw_below_drewN | apply below_drew1 | refine below_set ?_ GE179.out) | exact HB.out)⟩⟩
         ·rw [if_neg c27] at H
          have c27b0 : (((rd_T45 l0 x7_1).f0).toList == a1_0.toList) = false := beq_eq_false_iff_ne.mpr c27
          have c27b1 : (((rd_T45 l0 x7_1).f0).toList != a1_0.toList) = true := bne_iff_ne.mpr c27
          by_cases c29 : x5_1.length < 2932031007402
          ·rw [if_pos c29] at H
           have LMc29 := Aside0.mk c29
           clear c29
           obtain ⟨y195, hy195⟩ : ∃ y_ : List (S45), y_ = (x5_1 ++ [(⟨(rd_T45 l0 x7_1).f0, (rd_T45 l0 x7_1).f1, (rd_T45 l0 x7_1).f2⟩ : S45)]) := ⟨_, rfl⟩
           replace H : (tallymanref7_with.l0 kj4 l0 y195 x6_1 (wrap64 (x7_1 + 1)) a1_0 a1_1 l1_2) = some r := by first | (rw [hy195]; with_reducible exact H) | (have H2_ := (Option.bind_some _ _).symm.trans H; rw [hy195]; with_reducible exact H2_) | (have H2_ := (Option.bind_some _ _).symm.trans H; with_reducible exact H2_) | with_reducible exact H | (rw [hy195]; exact H) | exact H
           have Ny195 := Aside0.mk hy195
           clear hy195
           have H' := Aside0.mk H
           clear H
           try go_wp2
           have n0_ := xa_ (Kd.V_drew HO_0.out)
           have n1_ := xa_ (Kd.N_drew HO_5.out)
           have n2_ := xa_ (Kd.V_drew HO_180002.out)
           have n3_ := xa_ (blk_drew BK179.out)
           have n4_ := xa_ (below_drew1 HB.out)
           clear HO_0
           clear HO_5
           clear HO_180002
           clear BK179
           clear HB
           have HO_0 := n0_
           have HO_5 := n1_
           have HO_180002 := n2_
           have BK179 := n3_
           have HB := n4_
           clear n0_ n1_ n2_ n3_ n4_
           have p193 : 0 ≤ (x7_1 : Int) := of_decide_eq_true (by first | (with_reducible assumption) | assumption)
           have q193 : x7_1 < (l0.length : Int) := of_decide_eq_true (by first | (with_reducible assumption) | assumption)
           obtain ⟨ad193, A193_2, c193_2, e193, hx193_0, hx193_1, hx193_2, hl193_2, hi193_2⟩ := at_T45 (Kd.V_reads' HO_0.out).2.2 x7_1 p193 q193
           cases e193
           obtain ⟨ce193, hce193, hMe193, hcc193⟩ := Kd.V_get HO_0.out z45 x7_1 p193 (by first | exact q193 | exact of_decide_eq_true (by first | (with_reducible assumption) | assumption) | (have e_ := (Kd.V_reads' HO_0.out).1; omega))
           obtain ⟨ua193_2, uc193_2, rfl, ul193_2, ge193_2⟩ := k45_openF hMe193
           have hv193_2 := hcc193 2 _ rfl
           rw [add_field _ _ 2 (by omega)] at hv193_2
           replace hv193_2 := Option.some.inj (hv193_2.symm.trans hx193_2)
           injection hv193_2 with hva_ hvn_ hvc_
           rw [hva_] at ge193_2
           rw [hvc_] at ul193_2
           have HL193_2 := xa_ (show Kd.V (Kd.int .u8) 5 _ w.heap.size _ _ ((rd_T45 l0 x7_1).f2) from Kd.V_mk ul193_2 ge193_2)
           clear hva_ hvn_ hvc_ ge193_2 ul193_2
           clear hcc193 hce193
           have HR193_2 := Aside0.mk hi193_2
           have HC193_2 := Aside0.mk hl193_2
           clear hi193_2 hl193_2
           replace p193 := eq_true p193
           replace q193 := eq_true q193
           refine start_ (n := 8) (S := fun w' => w'.cell? ⟨gb179, 0, none⟩ = some (.string a1_0) ∧ w'.cell? ⟨gb179, 1, none⟩ = some (.bool a1_1) ∧ w'.cell? ⟨gb179, 2, none⟩ = some (.slice A1_2 l1_2.length c1_2) ∧ w'.cell? (ad193.add ((x7_1).toNat * 3)) = some (.string ((rd_T45 l0 x7_1).f0)) ∧ w'.cell? ⟨(ad193.add ((x7_1).toNat * 3)).block, (ad193.add ((x7_1).toNat * 3)).off + 1, none⟩ = some (.bool ((rd_T45 l0 x7_1).f1)) ∧ w'.cell? ⟨(ad193.add ((x7_1).toNat * 3)).block, (ad193.add ((x7_1).toNat * 3)).off + 2, none⟩ = some (.slice A193_2 ((rd_T45 l0 x7_1).f2).length c193_2)) (ds := []) (bs_ 8 0x0) (by kernel_rfl) rfl rfl ⟨(blk_cell BK179.out 0).trans rfl, (blk_cell BK179.out 1).trans rfl, (blk_cell BK179.out 2).trans rfl, hx193_0, hx193_1, hx193_2⟩ (fun hHeld => ?_); refine with_tabW tallymanref7_with.tab9 tallymanref7_with.bits9 (fun HT_ HW_ => ?_)
           generalize wc.drew = w30 at HO_0 HO_5 HO_180002 BK179 HB HL193_2 HR193_2 hx193_0 hx193_1 hx193_2 hHeld ⊢
           refine pl_ [(0, some 31, 0x1), (1, some 32, 0x3), (2, some 33, 0x7), (3, some 34, 0xf), (5, some 36, 0x2f), (4, some 35, 0x3f), (6, some 37, 0x7f), (7, some 38, 0xff)] ?_; iterate 8 (first | (refine pq_ (v := ?_) (a' := ?_) HT_.out rfl rfl (by kernel_rfl) (fun _ _ _ h => h) (Or.inl ⟨by rfl, ?_⟩) ?_ ?_; rotate_left; (intro w'; go_simp; with_reducible rfl); rotate_left; (simp only [nm_]; rfl)) | (refine tq_ (v := ?_) (a' := ?_) HT_.out HW_.out rfl rfl (by kernel_rfl) (fun _ _ _ h => h) (Or.inl ⟨by rfl, ?_⟩) hHeld ?_ ?_; rotate_left; (rintro w' ⟨s0, s1, s2, s3, s4, s5⟩; go_simp; with_reducible rfl); rotate_left; (simp only [nm_]; rfl)))
           refine ql_ ?_
           refine done_ (done_of HT_.out (by kernel_rfl)) ?_
           have p194 : 0 ≤ (x7_1 : Int) := of_decide_eq_true (by first | (with_reducible assumption) | assumption)
           have q194 : x7_1 < (l0.length : Int) := of_decide_eq_true (by first | (with_reducible assumption) | assumption)
           obtain ⟨ad194, A194_2, c194_2, e194, hx194_0, hx194_1, hx194_2, hl194_2, hi194_2⟩ := at_T45 (Kd.V_reads' HO_0.out).2.2 x7_1 p194 q194
           obtain rfl : ad193 = ad194 := (by injection e194)
           obtain ⟨ce194, hce194, hMe194, hcc194⟩ := Kd.V_get HO_0.out z45 x7_1 p194 (by first | exact q194 | exact of_decide_eq_true (by first | (with_reducible assumption) | assumption) | (have e_ := (Kd.V_reads' HO_0.out).1; omega))
           obtain ⟨ua194_2, uc194_2, rfl, ul194_2, ge194_2⟩ := k45_openF hMe194
           have hv194_2 := hcc194 2 _ rfl
           rw [add_field _ _ 2 (by omega)] at hv194_2
           replace hv194_2 := Option.some.inj (hv194_2.symm.trans hx194_2)
           injection hv194_2 with hva_ hvn_ hvc_
           rw [hva_] at ge194_2
           rw [hvc_] at ul194_2
           have HL194_2 := xa_ (show Kd.V (Kd.int .u8) 5 _ w.heap.size _ _ ((rd_T45 l0 x7_1).f2) from Kd.V_mk ul194_2 ge194_2)
           clear hva_ hvn_ hvc_ ge194_2 ul194_2
           clear hcc194 hce194
           have HR194_2 := Aside0.mk hi194_2
           have HC194_2 := Aside0.mk hl194_2
           clear hi194_2 hl194_2
           replace p194 := eq_true p194
           replace q194 := eq_true q194
           have ea_ := Option.some.inj (hx193_2.symm.trans hx194_2)
           injection ea_ with ea_ en_ ec_
           subst ea_
           subst ec_
           clear en_
           try go_wp2_with (first | ((with_reducible refine gate_builtin (b := .append) (xs := #[.tmp 39, .tmp 44]) rfl ?_); at_builtin; refine Kd.N_append k45 (w0 := w) w.heap.size rfl (.tmp 39) (.tmp 44) 28 45 (.agg #[(.string ⟨#[]⟩), (.bool false), (.slice none 0 0)]) 48 rfl Tryz.underlying28 info45 rfl (by decide) (by omega) u5 x5_1 (⟨(rd_T45 l0 x7_1).f0, (rd_T45 l0 x7_1).f1, (rd_T45 l0 x7_1).f2⟩ : S45) [.string ((rd_T45 l0 x7_1).f0), .bool ((rd_T45 l0 x7_1).f1), .slice A193_2 ((rd_T45 l0 x7_1).f2).length c193_2] (fun k_ => ((P0_ k_ ∨ P1_2_ k_) ∨ w.heap.size ≤ k_) ∧ k_ ≠ gb179) (fun k_ => ((fun k_ => ((P0_ k_ ∨ P1_2_ k_) ∨ w.heap.size ≤ k_) ∧ k_ ≠ gb179)) k_ ∧ some k_ ≠ (u5 : Value).ownBlock) rfl rfl ?aP (fun _ hk => hk) ?aF ?aO ?aB ?aS ?aL ?_; (case aP => exact (k45_mkF _ _ (⟨(rd_T45 l0 x7_1).f0, (rd_T45 l0 x7_1).f1, (rd_T45 l0 x7_1).f2⟩ : S45) (Kd.V_reads' (Kd.V_mono (ok' := (fun k_ => ((fun k_ => ((P0_ k_ ∨ P1_2_ k_) ∨ w.heap.size ≤ k_) ∧ k_ ≠ gb179)) k_ ∧ some k_ ≠ (u5 : Value).ownBlock)) (HL194_2.out) (fun k_ hk => ⟨⟨hk.1, hk.2.2⟩, hk.2.1⟩))).2.1 (Kd.V_F (Kd.V_mono (ok' := (fun k_ => ((fun k_ => ((P0_ k_ ∨ P1_2_ k_) ∨ w.heap.size ≤ k_) ∧ k_ ≠ gb179)) k_ ∧ some k_ ≠ (u5 : Value).ownBlock)) (HL194_2.out) (fun k_ hk => ⟨⟨hk.1, hk.2.2⟩, hk.2.1⟩))))); (case aB => exact (xw_ HB.out)); (case aF => exact (fun k_ hk => ⟨(.inr (Nat.le_trans (below_size (xw_ HB.out)) hk)), Kd.freshB (xb_ BK179.out) k_ hk⟩)); (case aO => exact (xN_ HO_5.out)); (case aS => exact (below_size (xw_ HB.out))); (case aL => have := LMc29.out; omega); intro v196 w31 ho hb hg hat; rw [← Ny195.out] at ho; replace HO_0 := xa_ (Kd.V_afterv (ok := (fun k_ => ((P0_ k_ ∨ P1_2_ k_) ∨ w.heap.size ≤ k_) ∧ k_ ≠ gb179)) (by (with_reducible repeat (first | apply Kd.V_alloc | apply Kd.V_drewN | apply Kd.V_drew)); exact Kd.V_mono HO_0.out (fun _ hk => ⟨⟨hk.1, hk.2.2⟩, hk.2.1⟩)) hg hat); replace HO_180002 := xa_ (Kd.V_afterv (ok := (fun k_ => ((P0_ k_ ∨ P1_2_ k_) ∨ w.heap.size ≤ k_) ∧ k_ ≠ gb179)) (by (with_reducible repeat (first | apply Kd.V_alloc | apply Kd.V_drewN | apply Kd.V_drew)); exact Kd.V_mono HO_180002.out (fun _ hk => ⟨⟨hk.1, hk.2.2⟩, hk.2.1⟩)) hg hat); replace BK179 := xa_ (blk_grown (xb_ BK179.out) hg (Kd.N_away HO_5.out (fun _ hk => hk.2))); replace HL193_2 := xa_ (Kd.V_afterv (ok := (fun k_ => ((P0_ k_ ∨ P1_2_ k_) ∨ w.heap.size ≤ k_) ∧ k_ ≠ gb179)) (by (with_reducible repeat (first | apply Kd.V_alloc | apply Kd.V_drewN | apply Kd.V_drew)); exact Kd.V_mono HL193_2.out (fun _ hk => ⟨⟨hk.1, hk.2.2⟩, hk.2.1⟩)) hg hat); replace HL194_2 := xa_ (Kd.V_afterv (ok := (fun k_ => ((P0_ k_ ∨ P1_2_ k_) ∨ w.heap.size ≤ k_) ∧ k_ ≠ gb179)) (by (with_reducible repeat (first | apply Kd.V_alloc | apply Kd.V_drewN | apply Kd.V_drew)); exact Kd.V_mono HL194_2.out (fun _ hk => ⟨⟨hk.1, hk.2.2⟩, hk.2.1⟩)) hg hat); replace HB := xa_ (hb); replace HO197 := xa_ (ho); clear ho hb hg hat))
           go_roundg kj4
           case measure => have := HK1.out; have := HJ4.out; omega
           case rel => exact ⟨(y195), (x6_1), (wrap64 (x7_1 + 1)), (by first | rfl | (simp; done) | (simp [*]; done)), (by first | rfl | (simp; done) | (simp [*]; done)), H', ⟨by have := HK1.out; have := HJ4.out; omega⟩, ⟨by (with_reducible repeat (first | apply Kd.V_alloc | apply Kd.V_drewN | apply Kd.V_drew)); exact Kd.V_mono HO_0.out (fun _ hk => ⟨hk.1.1, ⟨hk.2, hk.1.2⟩⟩)⟩, ⟨by (with_reducible repeat (first | apply Kd.N_alloc | apply Kd.N_drewN | apply Kd.N_drew)); exact HO197.out⟩, ⟨by (with_reducible repeat (first | apply Kd.V_alloc | apply Kd.V_drewN | apply Kd.V_drew)); exact Kd.V_mono HO_180002.out (fun _ hk => ⟨hk.1.1, ⟨hk.2, hk.1.2⟩⟩)⟩, ⟨by (with_reducible repeat (first | refine blk_drewN ?_ _ | refine blk_drew ?_ | refine blk_alloc ?_ _)); exact BK179.out⟩, ⟨by repeat (first | (with_reducible first | exact HB.out | apply below_alloc | apply pw_below_drewN | apply below_drew1 | refine below_set ?_ GE179.out) | exact HB.out)⟩⟩
          ·rw [if_neg c29] at H
           exact absurd H (by simp)
        ·rw [if_neg c26] at H
         exact absurd H (by simp)
       ·rw [if_neg c25] at H
        exact absurd H (by simp)
   ·rw [if_neg c4] at H
    have c4b0 : decide (x7_1 < (l0.length : Int)) = false := decide_eq_false c4
    clear c4
    by_cases c32 : x6_1 = true
    ·subst c32
     have H1 : (some x5_1) = some r := by rw [if_pos rfl] at H; exact H
     clear H
     have H := H1
     clear H1
     obtain rfl := Option.some.inj H
     go_wp2
     go_ret
     exact ⟨_, by first | rfl | (simp [*, errW_none, errW_some] <;> rfl), by (with_reducible repeat (first | apply Kd.N_alloc | apply Kd.N_drewN | apply Kd.N_drew)); exact Kd.N_mono HO_5.out (fun _ hk => hk.1), by repeat (first | (with_reducible first | exact HB.out | apply below_alloc | apply pw_below_drewN | apply below_drew1 | refine below_set ?_ GE179.out) | exact HB.out)⟩
    ·replace c32 := Bool.eq_false_iff.mpr c32
     subst c32
     have H1 : (if x5_1.length < 2932031007402 then (some (x5_1 ++ [(⟨a1_0, a1_1, l1_2⟩ : S45)])) else (none)) = some r := by rw [if_neg (show ¬ (false = true) by decide)] at H; exact H
     clear H
     have H := H1
     clear H1
     by_cases c33 : x5_1.length < 2932031007402
     ·rw [if_pos c33] at H
      have LMc33 := Aside0.mk c33
      clear c33
      obtain ⟨y180, hy180⟩ : ∃ y_ : List (S45), y_ = (x5_1 ++ [(⟨a1_0, a1_1, l1_2⟩ : S45)]) := ⟨_, rfl⟩
      replace H : (some y180) = some r := by first | (rw [hy180]; with_reducible exact H) | (have H2_ := (Option.bind_some _ _).symm.trans H; rw [hy180]; with_reducible exact H2_) | (have H2_ := (Option.bind_some _ _).symm.trans H; with_reducible exact H2_) | with_reducible exact H | (rw [hy180]; exact H) | exact H
      have Ny180 := Aside0.mk hy180
      clear hy180
      obtain rfl := Option.some.inj H
      have hcz34_0 : wr.cell? ⟨gb179, 0, none⟩ = some (.string a1_0) := (blk_cell BK179.out 0).trans rfl
      have hcz34_1 : wr.cell? ⟨gb179, 1, none⟩ = some (.bool a1_1) := (blk_cell BK179.out 1).trans rfl
      have hcz34_2 : wr.cell? ⟨gb179, 2, none⟩ = some (.slice A1_2 l1_2.length c1_2) := (blk_cell BK179.out 2).trans rfl
      have hfz34_0 := blk_frozen BK179.out 0
      have hfz34_1 := blk_frozen BK179.out 1
      have hfz34_2 := blk_frozen BK179.out 2
      go_wp2_with (first | ((with_reducible refine gate_builtin (b := .append) (xs := #[.tmp 48, .tmp 50]) rfl ?_); at_builtin; refine Kd.N_append k45 (w0 := w) w.heap.size rfl (.tmp 48) (.tmp 50) 28 45 (.agg #[(.string ⟨#[]⟩), (.bool false), (.slice none 0 0)]) 48 rfl Tryz.underlying28 info45 rfl (by decide) (by omega) u5 x5_1 (⟨a1_0, a1_1, l1_2⟩ : S45) [.string a1_0, .bool a1_1, .slice A1_2 l1_2.length c1_2] (fun k_ => ((P0_ k_ ∨ P1_2_ k_) ∨ w.heap.size ≤ k_) ∧ k_ ≠ gb179) (fun k_ => ((fun k_ => ((P0_ k_ ∨ P1_2_ k_) ∨ w.heap.size ≤ k_) ∧ k_ ≠ gb179)) k_ ∧ some k_ ≠ (u5 : Value).ownBlock) rfl rfl ?aP (fun _ hk => hk) ?aF ?aO ?aB ?aS ?aL ?_; (case aP => exact (k45_mkF _ _ (⟨a1_0, a1_1, l1_2⟩ : S45) (Kd.V_reads' (Kd.V_mono (ok' := (fun k_ => ((fun k_ => ((P0_ k_ ∨ P1_2_ k_) ∨ w.heap.size ≤ k_) ∧ k_ ≠ gb179)) k_ ∧ some k_ ≠ (u5 : Value).ownBlock)) (HO_180002.out) (fun k_ hk => ⟨⟨hk.1, hk.2.2⟩, hk.2.1⟩))).2.1 (Kd.V_F (Kd.V_mono (ok' := (fun k_ => ((fun k_ => ((P0_ k_ ∨ P1_2_ k_) ∨ w.heap.size ≤ k_) ∧ k_ ≠ gb179)) k_ ∧ some k_ ≠ (u5 : Value).ownBlock)) (HO_180002.out) (fun k_ hk => ⟨⟨hk.1, hk.2.2⟩, hk.2.1⟩))))); (case aB => exact (xw_ HB.out)); (case aF => exact (fun k_ hk => ⟨(.inr (Nat.le_trans (below_size (xw_ HB.out)) hk)), Kd.freshB (xb_ BK179.out) k_ hk⟩)); (case aO => exact (xN_ HO_5.out)); (case aS => exact (below_size (xw_ HB.out))); (case aL => have := LMc33.out; omega); intro v181 w35 ho hb hg hat; rw [← Ny180.out] at ho; replace HO_0 := xa_ (Kd.V_afterv (ok := (fun k_ => ((P0_ k_ ∨ P1_2_ k_) ∨ w.heap.size ≤ k_) ∧ k_ ≠ gb179)) (by (with_reducible repeat (first | apply Kd.V_alloc | apply Kd.V_drewN | apply Kd.V_drew)); exact Kd.V_mono HO_0.out (fun _ hk => ⟨⟨hk.1, hk.2.2⟩, hk.2.1⟩)) hg hat); replace HO_180002 := xa_ (Kd.V_afterv (ok := (fun k_ => ((P0_ k_ ∨ P1_2_ k_) ∨ w.heap.size ≤ k_) ∧ k_ ≠ gb179)) (by (with_reducible repeat (first | apply Kd.V_alloc | apply Kd.V_drewN | apply Kd.V_drew)); exact Kd.V_mono HO_180002.out (fun _ hk => ⟨⟨hk.1, hk.2.2⟩, hk.2.1⟩)) hg hat); replace BK179 := xa_ (blk_grown (xb_ BK179.out) hg (Kd.N_away HO_5.out (fun _ hk => hk.2))); replace HB := xa_ (hb); replace HO182 := xa_ (ho); clear ho hb hg hat))
      go_ret
      exact ⟨_, by first | rfl | (simp [*, errW_none, errW_some] <;> rfl), by (with_reducible repeat (first | apply Kd.N_alloc | apply Kd.N_drewN | apply Kd.N_drew)); exact Kd.N_mono HO182.out (fun _ hk => hk.1), by repeat (first | (with_reducible first | exact HB.out | apply below_alloc | apply pw_below_drewN | apply below_drew1 | refine below_set ?_ GE179.out) | exact HB.out)⟩
     ·rw [if_neg c33] at H
      exact absurd H (by simp)
end Go.Proofs.YtidlldfghkaeeaaGreatDoor.P
