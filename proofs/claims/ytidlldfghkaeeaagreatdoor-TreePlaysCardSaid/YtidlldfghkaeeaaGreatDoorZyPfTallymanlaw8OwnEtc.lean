/- Put together by pack2.py: PfTallymanlaw8Own, PfTallymanlaw8Texts, PfTallymanref7Alike, PfTallymanref7Bytes, PfTallymanref7At -/
import Derived.Test.YtidlldfghkaeeaaGreatDoorZyRefNamesEtc
import Derived.Test.YtidlldfghkaeeaaGreatDoorZyW0
set_option linter.unusedVariables false
set_option linter.unusedSimpArgs false
set_option maxHeartbeats 8000000
set_option maxRecDepth 100000
namespace Go.Proofs.YtidlldfghkaeeaaGreatDoor.P
open Go.RowKit Go.Proofs.YtidlldfghkaeeaaGreatDoorW.PrintWords Go.Proofs.YtidlldfghkaeeaaGreatDoorW.PrintLast Go.Proofs.YtidlldfghkaeeaaGreatDoorW.PrintMore
attribute [local go_sem] max2_int min2_int max_two min_two max_three min_three max_four min_four
def tallymanlaw8_own.l0 : Nat → List (S45) → Int → List (S42) → Option ((List (S45)))
 | 0, _, _, _ => none
 | k + 1, x3, x4, x277000 => if x4 < (x277000.length : Int) then (if 0 ≤ x4 then (if x3.length < 2932031007402 then (tallymanlaw8_own.l0 k (x3 ++ [(⟨(rd_T42 x277000 x4).f0, (rd_T42 x277000 x4).f1, (rd_T42 x277000 x4).f2⟩ : S45)]) (wrap64 (x4 + 1)) x277000) else (none)) else (none)) else (some x3)
def tallymanlaw8_own.f (k : Nat) (l0_0 : List (S42)) : Option ((List (S45))) := tallymanlaw8_own.l0 k ([] : List (S45)) 0 l0_0
def tallymanlaw8_own.T5 : Bool × List (List Nat × List Nat) := (true, [([], []), ([], []), ([1], [1]), ([], []), ([2, 3], [2, 3]), ([4], [4]), ([5], [5]), ([], []), ([7], [7]), ([], []), ([8, 9], [8, 9]), ([10], [10]), ([11], [11]), ([], []), ([13], [13]), ([], []), ([14, 15], [14, 15]), ([16], [16]), ([17], [17]), ([6, 12, 18], [6, 12, 18]), ([19], [19]), ([0, 20], [0, 20]), ([21, 21, 0, 1, 2, 3, 4, 5, 6, 7, 8, 9, 10, 11, 12, 13, 14, 15, 16, 17, 18, 19, 20, 21], [0, 21])])
def tallymanlaw8_own.B5 : List Nat := [0, 0, 2, 0, 14, 30, 62, 0, 128, 0, 896, 1920, 3968, 0, 8192, 0, 57344, 122880, 253952, 524286, 1048574, 2097151, 4194303]
theorem tallymanlaw8_own.tab5 : rtab .any (opsOf Tryz.f17 5) = tallymanlaw8_own.T5 := by kernel_rfl
theorem tallymanlaw8_own.bits5 : waitsOk tallymanlaw8_own.T5.2 tallymanlaw8_own.B5 = true := by kernel_rfl
theorem tallymanlaw8_own.calls (k : Nat) (P0_0_ : Nat → Prop) (A0_0 : Option Addr) (c0_0 : Nat) (l0_0 : List (S42)) (r : List (S45)) (w : World) (hs0_0 : Kd.V k42 42 w w.heap.size (fun k_ => P0_0_ k_) (.slice A0_0 l0_0.length c0_0) l0_0) (h : tallymanlaw8_own.f k l0_0 = some r) :
  Calls Tryz.prog 17 #[.agg #[.slice A0_0 l0_0.length c0_0]] w fun e w' => ∃ v0_ : Value, e = .returned (v0_) ∧ Kd.N k45 45 w' w.heap.size (fun k_ => (P0_0_ k_ ∨ w.heap.size ≤ k_)) v0_ r ∧ Below w.heap.size w w' := by
 have hu26 := Tryz.underlying26
 have hu45 := Tryz.underlying45
 have HO0_0 := xa_ (show Kd.V k42 42 w w.heap.size (fun k_ => (P0_0_ k_ ∨ w.heap.size ≤ k_)) (.slice A0_0 l0_0.length c0_0) l0_0 from Kd.V_mono hs0_0 (fun k_ hk => .inl hk))
 have HB := xa_ (Below.refl w.heap.size w)
 have H : (tallymanlaw8_own.l0 k ([] : List (S45)) 0 l0_0) = some r := h
 clear h
 have H' := Aside0.mk H
 clear H
 go_enter Tryz.func17, Tryz.ntmps17
 go_wp2_with (first | ((with_reducible refine gate_dst (N := 1) rfl ?_); refine box_event ?hg (N := 1) ?hd (cs := #[.slice A0_0 l0_0.length c0_0]) (t := 26) ?hr ?_; (case hd => rfl); (case hg => rfl); (case hr => first | (go_simp; done) | (go_simp; rfl)); intro gb276 hg w2 hbox hb; have BK276 := xa_ (hbox); have GW276 := xa_ ((by rw [hg]; exact (below_size (xw_ HB.out)) : w.heap.size ≤ gb276)); have GE276 := xa_ ((by rw [hg]; exact (below_size (xw_ HB.out)) : w.heap.size ≤ gb276)); replace HO0_0 := xa_ (Kd.V_below (Kd.V_elderB (xV_ HO0_0.out) gb276 (Nat.le_of_eq hg.symm)) hb); replace HB := xa_ (below_step (xw_ HB.out) hb); clear hb hbox hg))
 go_loopg [3, 4] k (fun kq v3 v4 w' => ∃ (x3_1 : List (S45)) (x4_1 : Int), v4 = .int .i64 x4_1 ∧ Aside0 (tallymanlaw8_own.l0 kq x3_1 x4_1 l0_0 = some r) ∧ Aside0 (kq ≤ k) ∧ Aside0 (Kd.N k45 45 w' w.heap.size (fun k_ => (P0_0_ k_ ∨ w.heap.size ≤ k_) ∧ k_ ≠ gb276) v3 x3_1) ∧ Aside0 (Kd.V k42 42 w' w.heap.size (fun k_ => (P0_0_ k_ ∨ w.heap.size ≤ k_) ∧ some k_ ≠ (v3 : Value).ownBlock ∧ k_ ≠ gb276) (.slice A0_0 l0_0.length c0_0) l0_0) ∧ Aside0 (w'.heap[gb276]? = some (.cells #[(.slice A0_0 l0_0.length c0_0)] 26 (0, 0))) ∧ Aside0 (Below w.heap.size w w'))
 case atStart => exact ⟨(([] : List (S45))), (0), (by first | rfl | (simp; done) | (simp [*]; done)), H', ⟨Nat.le_refl _⟩, ⟨by first | exact Kd.S_nil _ _ _ _ _ | exact Kd.N_nil _ _ _ _ _ | exact Kd.V_nil _ _ _ _ _ | exact Kd.Q_nil _ _ _ _ _ | exact Kd.R_nil _ _ _ _ _⟩, ⟨by (with_reducible repeat (first | apply Kd.V_alloc | apply Kd.V_drewN | apply Kd.V_drew)); exact Kd.V_mono HO0_0.out (fun _ hk => ⟨hk.1, ⟨(by simp [Value.ownBlock]), hk.2⟩⟩)⟩, ⟨by (with_reducible repeat (first | refine blk_drewN ?_ _ | refine blk_drew ?_ | refine blk_alloc ?_ _)); exact BK276.out⟩, ⟨by repeat (first | (with_reducible first | exact HB.out | apply below_alloc | apply pw_below_drewN | apply below_drew1 | refine below_set ?_ GE276.out) | exact HB.out)⟩⟩
 case round =>
  clear H'
  try clear c1
  try clear p2
  obtain ⟨x3_1, x4_1, rfl, HA, HK1, HO_3, HO_277000, BK276, HB⟩ := hrel
  cases gk with
  | zero => exact absurd HA.out (by simp [tallymanlaw8_own.l0])
  | succ k1 =>
   have H := HA.out
   clear HA
   simp only [tallymanlaw8_own.l0] at H
   by_cases c3 : x4_1 < (l0_0.length : Int)
   ·rw [if_pos c3] at H
    have c3b0 : decide (x4_1 < (l0_0.length : Int)) = true := decide_eq_true c3
    clear c3
    by_cases c4 : 0 ≤ x4_1
    ·rw [if_pos c4] at H
     have c4b0 : decide (0 ≤ x4_1) = true := decide_eq_true c4
     clear c4
     by_cases c5 : x3_1.length < 2932031007402
     ·rw [if_pos c5] at H
      have LMc5 := Aside0.mk c5
      clear c5
      obtain ⟨y280, hy280⟩ : ∃ y_ : List (S45), y_ = (x3_1 ++ [(⟨(rd_T42 l0_0 x4_1).f0, (rd_T42 l0_0 x4_1).f1, (rd_T42 l0_0 x4_1).f2⟩ : S45)]) := ⟨_, rfl⟩
      replace H : (tallymanlaw8_own.l0 k1 y280 (wrap64 (x4_1 + 1)) l0_0) = some r := by first | (rw [hy280]; with_reducible exact H) | (have H2_ := (Option.bind_some _ _).symm.trans H; rw [hy280]; with_reducible exact H2_) | (have H2_ := (Option.bind_some _ _).symm.trans H; with_reducible exact H2_) | with_reducible exact H | (rw [hy280]; exact H) | exact H
      have Ny280 := Aside0.mk hy280
      clear hy280
      have H' := Aside0.mk H
      clear H
      have hcz6_0 : wr.cell? ⟨gb276, 0, none⟩ = some (.slice A0_0 l0_0.length c0_0) := (blk_cell BK276.out 0).trans rfl
      have hfz6_0 := blk_frozen BK276.out 0
      try go_wp2
      have n0_ := xa_ (Kd.N_drew HO_3.out)
      have n1_ := xa_ (Kd.V_drew HO_277000.out)
      have n2_ := xa_ (blk_drew BK276.out)
      have n3_ := xa_ (below_drew1 HB.out)
      clear HO_3
      clear HO_277000
      clear BK276
      clear HB
      have HO_3 := n0_
      have HO_277000 := n1_
      have BK276 := n2_
      have HB := n3_
      clear n0_ n1_ n2_ n3_
      have p277 : 0 ≤ (x4_1 : Int) := of_decide_eq_true (by first | (with_reducible assumption) | assumption)
      have q277 : x4_1 < (l0_0.length : Int) := of_decide_eq_true (by first | (with_reducible assumption) | assumption)
      obtain ⟨ad277, A277_2, c277_2, e277, hx277_0, hx277_1, hx277_2, hl277_2, hi277_2⟩ := at_T42 (Kd.V_reads' HO_277000.out).2.2 x4_1 p277 q277
      cases e277
      obtain ⟨ce277, hce277, hMe277, hcc277⟩ := Kd.V_get HO_277000.out z42 x4_1 p277 (by first | exact q277 | exact of_decide_eq_true (by first | (with_reducible assumption) | assumption) | (have e_ := (Kd.V_reads' HO_277000.out).1; omega))
      obtain ⟨ua277_2, uc277_2, rfl, ul277_2, ge277_2⟩ := k42_openF hMe277
      have hv277_2 := hcc277 2 _ rfl
      rw [add_field _ _ 2 (by omega)] at hv277_2
      replace hv277_2 := Option.some.inj (hv277_2.symm.trans hx277_2)
      injection hv277_2 with hva_ hvn_ hvc_
      rw [hva_] at ge277_2
      rw [hvc_] at ul277_2
      have HL277_2 := xa_ (show Kd.V (Kd.int .u8) 5 _ w.heap.size _ _ ((rd_T42 l0_0 x4_1).f2) from Kd.V_mk ul277_2 ge277_2)
      clear hva_ hvn_ hvc_ ge277_2 ul277_2
      clear hcc277 hce277
      have HR277_2 := Aside0.mk hi277_2
      have HC277_2 := Aside0.mk hl277_2
      clear hi277_2 hl277_2
      replace p277 := eq_true p277
      replace q277 := eq_true q277
      have p278 : 0 ≤ (x4_1 : Int) := of_decide_eq_true (by first | (with_reducible assumption) | assumption)
      have q278 : x4_1 < (l0_0.length : Int) := of_decide_eq_true (by first | (with_reducible assumption) | assumption)
      obtain ⟨ad278, A278_2, c278_2, e278, hx278_0, hx278_1, hx278_2, hl278_2, hi278_2⟩ := at_T42 (Kd.V_reads' HO_277000.out).2.2 x4_1 p278 q278
      obtain rfl : ad277 = ad278 := (by injection e278)
      obtain ⟨ce278, hce278, hMe278, hcc278⟩ := Kd.V_get HO_277000.out z42 x4_1 p278 (by first | exact q278 | exact of_decide_eq_true (by first | (with_reducible assumption) | assumption) | (have e_ := (Kd.V_reads' HO_277000.out).1; omega))
      obtain ⟨ua278_2, uc278_2, rfl, ul278_2, ge278_2⟩ := k42_openF hMe278
      have hv278_2 := hcc278 2 _ rfl
      rw [add_field _ _ 2 (by omega)] at hv278_2
      replace hv278_2 := Option.some.inj (hv278_2.symm.trans hx278_2)
      injection hv278_2 with hva_ hvn_ hvc_
      rw [hva_] at ge278_2
      rw [hvc_] at ul278_2
      have HL278_2 := xa_ (show Kd.V (Kd.int .u8) 5 _ w.heap.size _ _ ((rd_T42 l0_0 x4_1).f2) from Kd.V_mk ul278_2 ge278_2)
      clear hva_ hvn_ hvc_ ge278_2 ul278_2
      clear hcc278 hce278
      have HR278_2 := Aside0.mk hi278_2
      have HC278_2 := Aside0.mk hl278_2
      clear hi278_2 hl278_2
      replace p278 := eq_true p278
      replace q278 := eq_true q278
      have ea_ := Option.some.inj (hx277_2.symm.trans hx278_2)
      injection ea_ with ea_ en_ ec_
      subst ea_
      subst ec_
      clear en_
      have p279 : 0 ≤ (x4_1 : Int) := of_decide_eq_true (by first | (with_reducible assumption) | assumption)
      have q279 : x4_1 < (l0_0.length : Int) := of_decide_eq_true (by first | (with_reducible assumption) | assumption)
      obtain ⟨ad279, A279_2, c279_2, e279, hx279_0, hx279_1, hx279_2, hl279_2, hi279_2⟩ := at_T42 (Kd.V_reads' HO_277000.out).2.2 x4_1 p279 q279
      obtain rfl : ad277 = ad279 := (by injection e279)
      obtain ⟨ce279, hce279, hMe279, hcc279⟩ := Kd.V_get HO_277000.out z42 x4_1 p279 (by first | exact q279 | exact of_decide_eq_true (by first | (with_reducible assumption) | assumption) | (have e_ := (Kd.V_reads' HO_277000.out).1; omega))
      obtain ⟨ua279_2, uc279_2, rfl, ul279_2, ge279_2⟩ := k42_openF hMe279
      have hv279_2 := hcc279 2 _ rfl
      rw [add_field _ _ 2 (by omega)] at hv279_2
      replace hv279_2 := Option.some.inj (hv279_2.symm.trans hx279_2)
      injection hv279_2 with hva_ hvn_ hvc_
      rw [hva_] at ge279_2
      rw [hvc_] at ul279_2
      have HL279_2 := xa_ (show Kd.V (Kd.int .u8) 5 _ w.heap.size _ _ ((rd_T42 l0_0 x4_1).f2) from Kd.V_mk ul279_2 ge279_2)
      clear hva_ hvn_ hvc_ ge279_2 ul279_2
      clear hcc279 hce279
      have HR279_2 := Aside0.mk hi279_2
      have HC279_2 := Aside0.mk hl279_2
      clear hi279_2 hl279_2
      replace p279 := eq_true p279
      replace q279 := eq_true q279
      have ea_ := Option.some.inj (hx277_2.symm.trans hx279_2)
      injection ea_ with ea_ en_ ec_
      subst ea_
      subst ec_
      clear en_
      refine start_ (n := 23) (S := fun w' => w'.cell? ⟨gb276, 0, none⟩ = some (.slice (some ad277) l0_0.length c0_0) ∧ w'.cell? (ad277.add ((x4_1).toNat * 3)) = some (.string ((rd_T42 l0_0 x4_1).f0)) ∧ w'.cell? ⟨(ad277.add ((x4_1).toNat * 3)).block, (ad277.add ((x4_1).toNat * 3)).off + 1, none⟩ = some (.bool ((rd_T42 l0_0 x4_1).f1)) ∧ w'.cell? ⟨(ad277.add ((x4_1).toNat * 3)).block, (ad277.add ((x4_1).toNat * 3)).off + 2, none⟩ = some (.slice A277_2 ((rd_T42 l0_0 x4_1).f2).length c277_2) ∧ w'.cell? (ad277.add ((x4_1).toNat * 3)) = some (.string ((rd_T42 l0_0 x4_1).f0)) ∧ w'.cell? ⟨(ad277.add ((x4_1).toNat * 3)).block, (ad277.add ((x4_1).toNat * 3)).off + 1, none⟩ = some (.bool ((rd_T42 l0_0 x4_1).f1)) ∧ w'.cell? ⟨(ad277.add ((x4_1).toNat * 3)).block, (ad277.add ((x4_1).toNat * 3)).off + 2, none⟩ = some (.slice A277_2 ((rd_T42 l0_0 x4_1).f2).length c277_2) ∧ w'.cell? (ad277.add ((x4_1).toNat * 3)) = some (.string ((rd_T42 l0_0 x4_1).f0)) ∧ w'.cell? ⟨(ad277.add ((x4_1).toNat * 3)).block, (ad277.add ((x4_1).toNat * 3)).off + 1, none⟩ = some (.bool ((rd_T42 l0_0 x4_1).f1)) ∧ w'.cell? ⟨(ad277.add ((x4_1).toNat * 3)).block, (ad277.add ((x4_1).toNat * 3)).off + 2, none⟩ = some (.slice A277_2 ((rd_T42 l0_0 x4_1).f2).length c277_2)) (ds := [20, 21]) (bs_ 23 0x0) (by kernel_rfl) rfl rfl ⟨(blk_cell BK276.out 0).trans rfl, hx277_0, hx277_1, hx277_2, hx278_0, hx278_1, hx278_2, hx279_0, hx279_1, hx279_2⟩ (fun hHeld => ?_); refine with_tabW tallymanlaw8_own.tab5 tallymanlaw8_own.bits5 (fun HT_ HW_ => ?_)
      generalize wr.drew = w7 at HO_3 HO_277000 BK276 HB HL277_2 HL278_2 HL279_2 HR277_2 HR278_2 HR279_2 hx277_0 hx277_1 hx277_2 hx278_0 hx278_1 hx278_2 hx279_0 hx279_1 hx279_2 hHeld ⊢
      refine pl_ [(0, some 12, 0x1), (1, some 13, 0x3), (3, some 15, 0xb), (7, some 19, 0x8b), (9, some 21, 0x28b), (13, some 25, 0x228b), (15, some 27, 0xa28b), (2, some 14, 0xa28f), (4, some 16, 0xa29f), (5, some 17, 0xa2bf), (6, some 18, 0xa2ff), (8, some 20, 0xa3ff), (10, some 22, 0xa7ff), (11, some 23, 0xafff), (12, some 24, 0xbfff), (14, some 26, 0xffff), (16, some 28, 0x1ffff), (17, some 29, 0x3ffff), (18, some 30, 0x7ffff), (19, some 31, 0xfffff)] ?_; iterate 20 (first | (refine pq_ (v := ?_) (a' := ?_) HT_.out rfl rfl (by kernel_rfl) (fun _ _ _ h => h) (Or.inl ⟨by rfl, ?_⟩) ?_ ?_; rotate_left; (intro w'; go_simp; with_reducible rfl); rotate_left; (simp only [nm_]; rfl)) | (refine tq_ (v := ?_) (a' := ?_) HT_.out HW_.out rfl rfl (by kernel_rfl) (fun _ _ _ h => h) (Or.inl ⟨by rfl, ?_⟩) hHeld ?_ ?_; rotate_left; (rintro w' ⟨s0, s1, s2, s3, s4, s5, s6, s7, s8, s9⟩; go_simp; with_reducible rfl); rotate_left; (simp only [nm_]; rfl)))
      refine ql_ ?_
      refine last_ (i := 20) (N := some 32) (bs_ 23 0x1fffff) rfl rfl (one_of HT_.out (by kernel_rfl)) (by decide) (fun K hK => ?_)
      refine value_ (w1 := ?_) (v := ?_) (by rfl) rfl ?_ ?_
      rotate_left 2
      ·go_simp
       constructor
       ·rfl
       ·rfl
      refine hK.out _ _ ?_
      clear hK K
      refine norm_ (a' := ?_) ?_ ?_
      rotate_left
      ·show Act.put _ (some 32) _ = _
       simp only [nm_]
       rfl
      refine last_ (i := 21) (N := some 33) (bs_ 23 0x3fffff) rfl rfl (one_of HT_.out (by kernel_rfl)) (by decide) (fun K hK => ?_)
      refine Kd.N_append_step k45 (w0 := w) w.heap.size (by rfl) (.tmp 12) (.tmp 32) 28 45 (.agg #[(.string ⟨#[]⟩), (.bool false), (.slice none 0 0)]) 48 rfl Tryz.underlying28 info45 rfl (by decide) (by omega) u3 x3_1 (⟨(rd_T42 l0_0 x4_1).f0, (rd_T42 l0_0 x4_1).f1, (rd_T42 l0_0 x4_1).f2⟩ : S45) [.string ((rd_T42 l0_0 x4_1).f0), .bool ((rd_T42 l0_0 x4_1).f1), .slice A277_2 ((rd_T42 l0_0 x4_1).f2).length c277_2] (fun k_ => (P0_0_ k_ ∨ w.heap.size ≤ k_) ∧ k_ ≠ gb276) (fun k_ => ((fun k_ => (P0_0_ k_ ∨ w.heap.size ≤ k_) ∧ k_ ≠ gb276)) k_ ∧ some k_ ≠ (u3 : Value).ownBlock) rfl rfl ?aP (fun _ hk => hk) ?aF ?aO ?aB ?aS ?aL ?_
      (case aP => exact (k45_mkF _ _ (⟨(rd_T42 l0_0 x4_1).f0, (rd_T42 l0_0 x4_1).f1, (rd_T42 l0_0 x4_1).f2⟩ : S45) (Kd.V_reads' (Kd.V_mono (ok' := (fun k_ => ((fun k_ => (P0_0_ k_ ∨ w.heap.size ≤ k_) ∧ k_ ≠ gb276)) k_ ∧ some k_ ≠ (u3 : Value).ownBlock)) (HL279_2.out) (fun k_ hk => ⟨⟨hk.1, hk.2.2⟩, hk.2.1⟩))).2.1 (Kd.V_F (Kd.V_mono (ok' := (fun k_ => ((fun k_ => (P0_0_ k_ ∨ w.heap.size ≤ k_) ∧ k_ ≠ gb276)) k_ ∧ some k_ ≠ (u3 : Value).ownBlock)) (HL279_2.out) (fun k_ hk => ⟨⟨hk.1, hk.2.2⟩, hk.2.1⟩)))))
      (case aB => exact (xw_ HB.out))
      (case aF => exact (fun k_ hk => ⟨(.inr (Nat.le_trans (below_size (xw_ HB.out)) hk)), Kd.freshB (xb_ BK276.out) k_ hk⟩))
      (case aO => exact (xN_ HO_3.out))
      (case aS => exact (below_size (xw_ HB.out)))
      (case aL => have := LMc5.out; omega)
      intro v281 w8 ho hb hg hat
      rw [← Ny280.out] at ho
      have n0_ := xa_ (Kd.V_afterv (ok := (fun k_ => (P0_0_ k_ ∨ w.heap.size ≤ k_) ∧ k_ ≠ gb276)) (by (with_reducible repeat (first | apply Kd.V_alloc | apply Kd.V_drewN | apply Kd.V_drew)); exact Kd.V_mono HO_277000.out (fun _ hk => ⟨⟨hk.1, hk.2.2⟩, hk.2.1⟩)) hg hat)
      have n1_ := xa_ (blk_grown (xb_ BK276.out) hg (Kd.N_ne HO_3.out BK276.out (by decide)))
      have n2_ := xa_ (Kd.V_afterv (ok := (fun k_ => (P0_0_ k_ ∨ w.heap.size ≤ k_) ∧ k_ ≠ gb276)) (by (with_reducible repeat (first | apply Kd.V_alloc | apply Kd.V_drewN | apply Kd.V_drew)); exact Kd.V_mono HL277_2.out (fun _ hk => ⟨⟨hk.1, hk.2.2⟩, hk.2.1⟩)) hg hat)
      have n3_ := xa_ (Kd.V_afterv (ok := (fun k_ => (P0_0_ k_ ∨ w.heap.size ≤ k_) ∧ k_ ≠ gb276)) (by (with_reducible repeat (first | apply Kd.V_alloc | apply Kd.V_drewN | apply Kd.V_drew)); exact Kd.V_mono HL278_2.out (fun _ hk => ⟨⟨hk.1, hk.2.2⟩, hk.2.1⟩)) hg hat)
      have n4_ := xa_ (Kd.V_afterv (ok := (fun k_ => (P0_0_ k_ ∨ w.heap.size ≤ k_) ∧ k_ ≠ gb276)) (by (with_reducible repeat (first | apply Kd.V_alloc | apply Kd.V_drewN | apply Kd.V_drew)); exact Kd.V_mono HL279_2.out (fun _ hk => ⟨⟨hk.1, hk.2.2⟩, hk.2.1⟩)) hg hat)
      have n5_ := xa_ (hb)
      have n6_ := xa_ (ho)
      clear HO_277000
      clear BK276
      clear HL277_2
      clear HL278_2
      clear HL279_2
      clear HB
      clear HO_3
      have HO_277000 := n0_
      have BK276 := n1_
      have HL277_2 := n2_
      have HL278_2 := n3_
      have HL279_2 := n4_
      have HB := n5_
      have HO282 := n6_
      clear n0_ n1_ n2_ n3_ n4_ n5_ n6_
      clear ho hb hg hat
      refine hK.out _ _ ?_
      clear hK K
      refine norm_ (a' := ?_) ?_ ?_
      rotate_left
      ·show Act.put _ (some 33) _ = _
       simp only [nm_]
       rfl
      refine pure_ (i := 22) (N := some 3) (v := ?_) (a' := ?_) (bs_ 23 0x7fffff) rfl rfl (any_of HT_.out (by kernel_rfl)) (fun _ _ _ h => h) (Or.inl ⟨by rfl, ?_⟩) ?_ ?_; rotate_left; (intro w'; go_simp; with_reducible rfl); rotate_left; (simp only [nm_]; rfl)
      refine done_ (done_of HT_.out (by kernel_rfl)) ?_
      try go_wp2
      go_roundg k1
      case measure => have := HK1.out; omega
      case rel => exact ⟨(y280), (wrap64 (x4_1 + 1)), (by first | rfl | (simp; done) | (simp [*]; done)), H', ⟨by have := HK1.out; omega⟩, ⟨by (with_reducible repeat (first | apply Kd.N_alloc | apply Kd.N_drewN | apply Kd.N_drew)); exact HO282.out⟩, ⟨by (with_reducible repeat (first | apply Kd.V_alloc | apply Kd.V_drewN | apply Kd.V_drew)); exact Kd.V_mono HO_277000.out (fun _ hk => ⟨hk.1.1, ⟨hk.2, hk.1.2⟩⟩)⟩, ⟨by (with_reducible repeat (first | refine blk_drewN ?_ _ | refine blk_drew ?_ | refine blk_alloc ?_ _)); exact BK276.out⟩, ⟨by repeat (first | (with_reducible first | exact HB.out | apply below_alloc | apply pw_below_drewN | apply below_drew1 | refine below_set ?_ GE276.out) | exact HB.out)⟩⟩
     ·rw [if_neg c5] at H
      exact absurd H (by simp)
    ·rw [if_neg c4] at H
     exact absurd H (by simp)
   ·rw [if_neg c3] at H
    have c3b0 : decide (x4_1 < (l0_0.length : Int)) = false := decide_eq_false c3
    clear c3
    obtain rfl := Option.some.inj H
    have hcz9_0 : wr.cell? ⟨gb276, 0, none⟩ = some (.slice A0_0 l0_0.length c0_0) := (blk_cell BK276.out 0).trans rfl
    have hfz9_0 := blk_frozen BK276.out 0
    go_wp2
    go_ret
    exact ⟨_, by first | rfl | (simp [*, errW_none, errW_some] <;> rfl), by (with_reducible repeat (first | apply Kd.N_alloc | apply Kd.N_drewN | apply Kd.N_drew)); exact Kd.N_mono HO_3.out (fun _ hk => hk.1), by repeat (first | (with_reducible first | exact HB.out | apply below_alloc | apply pw_below_drewN | apply below_drew1 | refine below_set ?_ GE276.out) | exact HB.out)⟩
def tallymanlaw8_texts.l0 : Nat → List ByteArray → List ByteArray → Int → Option (Bool)
 | 0, _, _, _ => none
 | k + 1, x0, x1, x5 => if x5 < (x0.length : Int) then (if 0 ≤ x5 then (if x5 < (x1.length : Int) then (if (rdOf ByteArray.empty x0 x5).toList = (rdOf ByteArray.empty x1 x5).toList then (tallymanlaw8_texts.l0 k x0 x1 (wrap64 (x5 + 1))) else (some false)) else (none)) else (none)) else (some true)
def tallymanlaw8_texts.f (k : Nat) (l0 : List ByteArray) (l1 : List ByteArray) : Option (Bool) := if (l0.length : Int) = (l1.length : Int) then (tallymanlaw8_texts.l0 k l0 l1 0) else (some false)
theorem tallymanlaw8_texts.calls (k : Nat) (A0 : Option Addr) (c0 : Nat) (l0 : List ByteArray) (A1 : Option Addr) (c1 : Nat) (l1 : List ByteArray) (r : Bool) (w : World) (hr0 : Kd.C Kd.string w A0 l0.length l0) (hc0 : l0.length ≤ c0) (hr1 : Kd.C Kd.string w A1 l1.length l1) (hc1 : l1.length ≤ c1) (h : tallymanlaw8_texts.f k l0 l1 = some r) :
  Calls Tryz.prog 19 #[.slice A0 l0.length c0, .slice A1 l1.length c1] w fun e w' => e = .returned (.bool r) ∧ Drawn0 w w' := by
 have HR0 := Aside0.mk hr0
 have HC0 := Aside0.mk hc0
 clear hr0 hc0
 have HR1 := Aside0.mk hr1
 have HC1 := Aside0.mk hc1
 clear hr1 hc1
 have H : (if (l0.length : Int) = (l1.length : Int) then (tallymanlaw8_texts.l0 k l0 l1 0) else (some false)) = some r := h
 clear h
 by_cases c3 : (l0.length : Int) = (l1.length : Int)
 ·rw [if_pos c3] at H
  have c3b0 : ((l0.length : Int) == (l1.length : Int)) = true := beq_iff_eq.mpr c3
  have c3b1 : ((l0.length : Int) != (l1.length : Int)) = false := bne_eq_false_iff_eq.mpr c3
  have c3b2 : (l0.length == l1.length) = true := by first | simpa using c3 | (simp at c3 ⊢; omega)
  clear c3
  have H' := Aside0.mk H
  clear H
  go_enter Tryz.func19, Tryz.ntmps19
  go_wp2
  repeat (go_quiet (fail); try go_wp2)
  go_loopg [5] k (fun kq v5 w' => ∃ (x5_1 : Int), v5 = .int .i64 x5_1 ∧ Aside0 (tallymanlaw8_texts.l0 kq l0 l1 x5_1 = some r) ∧ Aside0 (kq ≤ k) ∧ Drawn0 w w')
  case atStart => exact ⟨(0), (by first | rfl | (simp; done) | (simp [*]; done)), H', ⟨Nat.le_refl _⟩, by repeat (first | exact Drawn0.refl _ | apply Drawn0.step)⟩
  case round =>
   clear H'
   try clear c1
   try clear p2
   try clear c3
   try clear c3b0
   try clear c3b1
   try clear c3b2
   obtain ⟨x5_1, rfl, HA, HK1, ⟨m1, rfl⟩⟩ := hrel
   cases gk with
   | zero => exact absurd HA.out (by simp [tallymanlaw8_texts.l0])
   | succ k1 =>
    have H := HA.out
    clear HA
    simp only [tallymanlaw8_texts.l0] at H
    by_cases c4 : x5_1 < (l0.length : Int)
    ·rw [if_pos c4] at H
     have c4b0 : decide (x5_1 < (l0.length : Int)) = true := decide_eq_true c4
     clear c4
     by_cases c5 : 0 ≤ x5_1
     ·rw [if_pos c5] at H
      have c5b0 : decide (0 ≤ x5_1) = true := decide_eq_true c5
      clear c5
      by_cases c6 : x5_1 < (l1.length : Int)
      ·rw [if_pos c6] at H
       have c6b0 : decide (x5_1 < (l1.length : Int)) = true := decide_eq_true c6
       clear c6
       by_cases c7 : (rdOf ByteArray.empty l0 x5_1).toList = (rdOf ByteArray.empty l1 x5_1).toList
       ·rw [if_pos c7] at H
        have c7b0 : ((rdOf ByteArray.empty l0 x5_1).toList == (rdOf ByteArray.empty l1 x5_1).toList) = true := beq_iff_eq.mpr c7
        have c7b1 : ((rdOf ByteArray.empty l0 x5_1).toList != (rdOf ByteArray.empty l1 x5_1).toList) = false := bne_eq_false_iff_eq.mpr c7
        clear c7
        have H' := Aside0.mk H
        clear H
        have p283 : 0 ≤ (x5_1 : Int) := of_decide_eq_true (by first | (with_reducible assumption) | assumption)
        have q283 : x5_1 < (l0.length : Int) := of_decide_eq_true (by first | (with_reducible assumption) | assumption)
        obtain ⟨ad283, e283, hx283_0⟩ := Kd.at_string HR0.out x5_1 p283 q283
        cases e283
        replace p283 := eq_true p283
        replace q283 := eq_true q283
        have p284 : 0 ≤ (x5_1 : Int) := of_decide_eq_true (by first | (with_reducible assumption) | assumption)
        have q284 : x5_1 < (l1.length : Int) := of_decide_eq_true (by first | (with_reducible assumption) | assumption)
        obtain ⟨ad284, e284, hx284_0⟩ := Kd.at_string HR1.out x5_1 p284 q284
        cases e284
        replace p284 := eq_true p284
        replace q284 := eq_true q284
        go_wp2
        repeat (go_quiet (fail); try go_wp2)
        go_roundg k1
        case measure => have := HK1.out; omega
        case rel => exact ⟨(wrap64 (x5_1 + 1)), (by first | rfl | (simp; done) | (simp [*]; done)), H', ⟨by have := HK1.out; omega⟩, by repeat (first | exact Drawn0.refl _ | apply Drawn0.step)⟩
       ·rw [if_neg c7] at H
        have c7b0 : ((rdOf ByteArray.empty l0 x5_1).toList == (rdOf ByteArray.empty l1 x5_1).toList) = false := beq_eq_false_iff_ne.mpr c7
        have c7b1 : ((rdOf ByteArray.empty l0 x5_1).toList != (rdOf ByteArray.empty l1 x5_1).toList) = true := bne_iff_ne.mpr c7
        obtain rfl := Option.some.inj H
        have p283 : 0 ≤ (x5_1 : Int) := of_decide_eq_true (by first | (with_reducible assumption) | assumption)
        have q283 : x5_1 < (l0.length : Int) := of_decide_eq_true (by first | (with_reducible assumption) | assumption)
        obtain ⟨ad283, e283, hx283_0⟩ := Kd.at_string HR0.out x5_1 p283 q283
        cases e283
        replace p283 := eq_true p283
        replace q283 := eq_true q283
        have p284 : 0 ≤ (x5_1 : Int) := of_decide_eq_true (by first | (with_reducible assumption) | assumption)
        have q284 : x5_1 < (l1.length : Int) := of_decide_eq_true (by first | (with_reducible assumption) | assumption)
        obtain ⟨ad284, e284, hx284_0⟩ := Kd.at_string HR1.out x5_1 p284 q284
        cases e284
        replace p284 := eq_true p284
        replace q284 := eq_true q284
        go_wp2
        repeat (go_quiet (fail); try go_wp2)
        go_ret
        exact ⟨by first | rfl | (simp; done) | (simp [*]; done), by repeat (first | exact Drawn0.refl _ | apply Drawn0.step)⟩
      ·rw [if_neg c6] at H
       exact absurd H (by simp)
     ·rw [if_neg c5] at H
      exact absurd H (by simp)
    ·rw [if_neg c4] at H
     have c4b0 : decide (x5_1 < (l0.length : Int)) = false := decide_eq_false c4
     clear c4
     obtain rfl := Option.some.inj H
     go_wp2
     repeat (go_quiet (fail); try go_wp2)
     go_ret
     exact ⟨by first | rfl | (simp; done) | (simp [*]; done), by repeat (first | exact Drawn0.refl _ | apply Drawn0.step)⟩
 ·rw [if_neg c3] at H
  have c3b0 : ((l0.length : Int) == (l1.length : Int)) = false := beq_eq_false_iff_ne.mpr c3
  have c3b1 : ((l0.length : Int) != (l1.length : Int)) = true := bne_iff_ne.mpr c3
  have c3b2 : (l0.length == l1.length) = false := by first | simpa using c3 | (simp at c3 ⊢; omega)
  obtain rfl := Option.some.inj H
  go_enter Tryz.func19, Tryz.ntmps19
  go_wp2
  repeat (go_quiet (fail); try go_wp2)
  go_ret
  exact ⟨by first | rfl | (simp; done) | (simp [*]; done), by repeat (first | exact Drawn0.refl _ | apply Drawn0.step)⟩
def tallymanref7_Alike.l0 : Nat → List (S45) → List (S45) → Int → Option (Bool)
 | 0, _, _, _ => none
 | k + 1, x0, x1, x5 => if x5 < (x0.length : Int) then (if 0 ≤ x5 then (if x5 < (x1.length : Int) then (if ((rd_T45 x0 x5).f0).toList = ((rd_T45 x1 x5).f0).toList then (if (((rd_T45 x0 x5).f1) != ((rd_T45 x1 x5).f1)) = true then (some false) else (if (strOfNums ((rd_T45 x0 x5).f2)).toList = (strOfNums ((rd_T45 x1 x5).f2)).toList then (tallymanref7_Alike.l0 k x0 x1 (wrap64 (x5 + 1))) else (some false))) else (some false)) else (none)) else (none)) else (some true)
def tallymanref7_Alike.f (k : Nat) (l0 : List (S45)) (l1 : List (S45)) : Option (Bool) := if (l0.length : Int) = (l1.length : Int) then (tallymanref7_Alike.l0 k l0 l1 0) else (some false)
theorem tallymanref7_Alike.calls (k : Nat) (A0 : Option Addr) (c0 : Nat) (l0 : List (S45)) (A1 : Option Addr) (c1 : Nat) (l1 : List (S45)) (r : Bool) (w : World) (hr0 : Kd.C k45 w A0 l0.length l0) (hc0 : l0.length ≤ c0) (hr1 : Kd.C k45 w A1 l1.length l1) (hc1 : l1.length ≤ c1) (h : tallymanref7_Alike.f k l0 l1 = some r) :
  Calls Tryz.prog 16 #[.slice A0 l0.length c0, .slice A1 l1.length c1] w fun e w' => e = .returned (.bool r) ∧ Drawn0 w w' := by
 have HR0 := Aside0.mk hr0
 have HC0 := Aside0.mk hc0
 clear hr0 hc0
 have HR1 := Aside0.mk hr1
 have HC1 := Aside0.mk hc1
 clear hr1 hc1
 have H : (if (l0.length : Int) = (l1.length : Int) then (tallymanref7_Alike.l0 k l0 l1 0) else (some false)) = some r := h
 clear h
 by_cases c3 : (l0.length : Int) = (l1.length : Int)
 ·rw [if_pos c3] at H
  have c3b0 : ((l0.length : Int) == (l1.length : Int)) = true := beq_iff_eq.mpr c3
  have c3b1 : ((l0.length : Int) != (l1.length : Int)) = false := bne_eq_false_iff_eq.mpr c3
  have c3b2 : (l0.length == l1.length) = true := by first | simpa using c3 | (simp at c3 ⊢; omega)
  clear c3
  have H' := Aside0.mk H
  clear H
  go_enter Tryz.func16, Tryz.ntmps16
  go_wp2
  repeat (go_quiet (fail); try go_wp2)
  go_loopg [5] k (fun kq v5 w' => ∃ (x5_1 : Int), v5 = .int .i64 x5_1 ∧ Aside0 (tallymanref7_Alike.l0 kq l0 l1 x5_1 = some r) ∧ Aside0 (kq ≤ k) ∧ Drawn0 w w')
  case atStart => exact ⟨(0), (by first | rfl | (simp; done) | (simp [*]; done)), H', ⟨Nat.le_refl _⟩, by repeat (first | exact Drawn0.refl _ | apply Drawn0.step)⟩
  case round =>
   clear H'
   try clear c1
   try clear p2
   try clear c3
   try clear c3b0
   try clear c3b1
   try clear c3b2
   obtain ⟨x5_1, rfl, HA, HK1, ⟨m1, rfl⟩⟩ := hrel
   cases gk with
   | zero => exact absurd HA.out (by simp [tallymanref7_Alike.l0])
   | succ k1 =>
    have H := HA.out
    clear HA
    simp only [tallymanref7_Alike.l0] at H
    by_cases c4 : x5_1 < (l0.length : Int)
    ·rw [if_pos c4] at H
     have c4b0 : decide (x5_1 < (l0.length : Int)) = true := decide_eq_true c4
     clear c4
     by_cases c5 : 0 ≤ x5_1
     ·rw [if_pos c5] at H
      have c5b0 : decide (0 ≤ x5_1) = true := decide_eq_true c5
      clear c5
      by_cases c6 : x5_1 < (l1.length : Int)
      ·rw [if_pos c6] at H
       have c6b0 : decide (x5_1 < (l1.length : Int)) = true := decide_eq_true c6
       clear c6
       by_cases c7 : ((rd_T45 l0 x5_1).f0).toList = ((rd_T45 l1 x5_1).f0).toList
       ·rw [if_pos c7] at H
        have c7b0 : (((rd_T45 l0 x5_1).f0).toList == ((rd_T45 l1 x5_1).f0).toList) = true := beq_iff_eq.mpr c7
        have c7b1 : (((rd_T45 l0 x5_1).f0).toList != ((rd_T45 l1 x5_1).f0).toList) = false := bne_eq_false_iff_eq.mpr c7
        clear c7
        by_cases c8 : (((rd_T45 l0 x5_1).f1) != ((rd_T45 l1 x5_1).f1)) = true
        ·rw [if_pos c8] at H
         have c8b0 : (((rd_T45 l0 x5_1).f1) != ((rd_T45 l1 x5_1).f1)) = true := c8
         (try (have c8b1 : decide (((rd_T45 l0 x5_1).f1) = ((rd_T45 l1 x5_1).f1)) = false := by simpa using c8))
         (try (have c8b2 : (((rd_T45 l0 x5_1).f1) == ((rd_T45 l1 x5_1).f1)) = false := by simpa using c8))
         (try (have c8b3 : ¬ (((rd_T45 l0 x5_1).f1) = ((rd_T45 l1 x5_1).f1)) := by simpa using c8))
         clear c8
         obtain rfl := Option.some.inj H
         have p270 : 0 ≤ (x5_1 : Int) := of_decide_eq_true (by first | (with_reducible assumption) | assumption)
         have q270 : x5_1 < (l0.length : Int) := of_decide_eq_true (by first | (with_reducible assumption) | assumption)
         obtain ⟨ad270, A270_2, c270_2, e270, hx270_0, hx270_1, hx270_2, hl270_2, hi270_2⟩ := at_T45 HR0.out x5_1 p270 q270
         cases e270
         have HR270_2 := Aside0.mk hi270_2
         have HC270_2 := Aside0.mk hl270_2
         clear hi270_2 hl270_2
         replace p270 := eq_true p270
         replace q270 := eq_true q270
         have p271 : 0 ≤ (x5_1 : Int) := of_decide_eq_true (by first | (with_reducible assumption) | assumption)
         have q271 : x5_1 < (l1.length : Int) := of_decide_eq_true (by first | (with_reducible assumption) | assumption)
         obtain ⟨ad271, A271_2, c271_2, e271, hx271_0, hx271_1, hx271_2, hl271_2, hi271_2⟩ := at_T45 HR1.out x5_1 p271 q271
         cases e271
         have HR271_2 := Aside0.mk hi271_2
         have HC271_2 := Aside0.mk hl271_2
         clear hi271_2 hl271_2
         replace p271 := eq_true p271
         replace q271 := eq_true q271
         have p272 : 0 ≤ (x5_1 : Int) := of_decide_eq_true (by first | (with_reducible assumption) | assumption)
         have q272 : x5_1 < (l0.length : Int) := of_decide_eq_true (by first | (with_reducible assumption) | assumption)
         obtain ⟨ad272, A272_2, c272_2, e272, hx272_0, hx272_1, hx272_2, hl272_2, hi272_2⟩ := at_T45 HR0.out x5_1 p272 q272
         obtain rfl : ad270 = ad272 := (by injection e272)
         have HR272_2 := Aside0.mk hi272_2
         have HC272_2 := Aside0.mk hl272_2
         clear hi272_2 hl272_2
         replace p272 := eq_true p272
         replace q272 := eq_true q272
         have ea_ := Option.some.inj (hx270_2.symm.trans hx272_2)
         injection ea_ with ea_ en_ ec_
         subst ea_
         subst ec_
         clear en_
         have p273 : 0 ≤ (x5_1 : Int) := of_decide_eq_true (by first | (with_reducible assumption) | assumption)
         have q273 : x5_1 < (l1.length : Int) := of_decide_eq_true (by first | (with_reducible assumption) | assumption)
         obtain ⟨ad273, A273_2, c273_2, e273, hx273_0, hx273_1, hx273_2, hl273_2, hi273_2⟩ := at_T45 HR1.out x5_1 p273 q273
         obtain rfl : ad271 = ad273 := (by injection e273)
         have HR273_2 := Aside0.mk hi273_2
         have HC273_2 := Aside0.mk hl273_2
         clear hi273_2 hl273_2
         replace p273 := eq_true p273
         replace q273 := eq_true q273
         have ea_ := Option.some.inj (hx271_2.symm.trans hx273_2)
         injection ea_ with ea_ en_ ec_
         subst ea_
         subst ec_
         clear en_
         go_wp2
         repeat (go_quiet (fail); try go_wp2)
         go_ret
         exact ⟨by first | rfl | (simp; done) | (simp [*]; done), by repeat (first | exact Drawn0.refl _ | apply Drawn0.step)⟩
        ·rw [if_neg c8] at H
         have c8b0 : (((rd_T45 l0 x5_1).f1) != ((rd_T45 l1 x5_1).f1)) = false := by simpa using c8
         (try (have c8b1 : decide (((rd_T45 l0 x5_1).f1) = ((rd_T45 l1 x5_1).f1)) = true := by simpa using c8))
         (try (have c8b2 : (((rd_T45 l0 x5_1).f1) == ((rd_T45 l1 x5_1).f1)) = true := by simpa using c8))
         clear c8
         by_cases c9 : (strOfNums ((rd_T45 l0 x5_1).f2)).toList = (strOfNums ((rd_T45 l1 x5_1).f2)).toList
         ·rw [if_pos c9] at H
          have c9b0 : ((strOfNums ((rd_T45 l0 x5_1).f2)).toList == (strOfNums ((rd_T45 l1 x5_1).f2)).toList) = true := beq_iff_eq.mpr c9
          have c9b1 : ((strOfNums ((rd_T45 l0 x5_1).f2)).toList != (strOfNums ((rd_T45 l1 x5_1).f2)).toList) = false := bne_eq_false_iff_eq.mpr c9
          clear c9
          have H' := Aside0.mk H
          clear H
          have p270 : 0 ≤ (x5_1 : Int) := of_decide_eq_true (by first | (with_reducible assumption) | assumption)
          have q270 : x5_1 < (l0.length : Int) := of_decide_eq_true (by first | (with_reducible assumption) | assumption)
          obtain ⟨ad270, A270_2, c270_2, e270, hx270_0, hx270_1, hx270_2, hl270_2, hi270_2⟩ := at_T45 HR0.out x5_1 p270 q270
          cases e270
          have HR270_2 := Aside0.mk hi270_2
          have HC270_2 := Aside0.mk hl270_2
          clear hi270_2 hl270_2
          replace p270 := eq_true p270
          replace q270 := eq_true q270
          have p271 : 0 ≤ (x5_1 : Int) := of_decide_eq_true (by first | (with_reducible assumption) | assumption)
          have q271 : x5_1 < (l1.length : Int) := of_decide_eq_true (by first | (with_reducible assumption) | assumption)
          obtain ⟨ad271, A271_2, c271_2, e271, hx271_0, hx271_1, hx271_2, hl271_2, hi271_2⟩ := at_T45 HR1.out x5_1 p271 q271
          cases e271
          have HR271_2 := Aside0.mk hi271_2
          have HC271_2 := Aside0.mk hl271_2
          clear hi271_2 hl271_2
          replace p271 := eq_true p271
          replace q271 := eq_true q271
          have p272 : 0 ≤ (x5_1 : Int) := of_decide_eq_true (by first | (with_reducible assumption) | assumption)
          have q272 : x5_1 < (l0.length : Int) := of_decide_eq_true (by first | (with_reducible assumption) | assumption)
          obtain ⟨ad272, A272_2, c272_2, e272, hx272_0, hx272_1, hx272_2, hl272_2, hi272_2⟩ := at_T45 HR0.out x5_1 p272 q272
          obtain rfl : ad270 = ad272 := (by injection e272)
          have HR272_2 := Aside0.mk hi272_2
          have HC272_2 := Aside0.mk hl272_2
          clear hi272_2 hl272_2
          replace p272 := eq_true p272
          replace q272 := eq_true q272
          have ea_ := Option.some.inj (hx270_2.symm.trans hx272_2)
          injection ea_ with ea_ en_ ec_
          subst ea_
          subst ec_
          clear en_
          have p273 : 0 ≤ (x5_1 : Int) := of_decide_eq_true (by first | (with_reducible assumption) | assumption)
          have q273 : x5_1 < (l1.length : Int) := of_decide_eq_true (by first | (with_reducible assumption) | assumption)
          obtain ⟨ad273, A273_2, c273_2, e273, hx273_0, hx273_1, hx273_2, hl273_2, hi273_2⟩ := at_T45 HR1.out x5_1 p273 q273
          obtain rfl : ad271 = ad273 := (by injection e273)
          have HR273_2 := Aside0.mk hi273_2
          have HC273_2 := Aside0.mk hl273_2
          clear hi273_2 hl273_2
          replace p273 := eq_true p273
          replace q273 := eq_true q273
          have ea_ := Option.some.inj (hx271_2.symm.trans hx273_2)
          injection ea_ with ea_ en_ ec_
          subst ea_
          subst ec_
          clear en_
          have p274 : 0 ≤ (x5_1 : Int) := of_decide_eq_true (by first | (with_reducible assumption) | assumption)
          have q274 : x5_1 < (l0.length : Int) := of_decide_eq_true (by first | (with_reducible assumption) | assumption)
          obtain ⟨ad274, A274_2, c274_2, e274, hx274_0, hx274_1, hx274_2, hl274_2, hi274_2⟩ := at_T45 HR0.out x5_1 p274 q274
          obtain rfl : ad270 = ad274 := (by injection e274)
          have HR274_2 := Aside0.mk hi274_2
          have HC274_2 := Aside0.mk hl274_2
          clear hi274_2 hl274_2
          replace p274 := eq_true p274
          replace q274 := eq_true q274
          have ea_ := Option.some.inj (hx270_2.symm.trans hx274_2)
          injection ea_ with ea_ en_ ec_
          subst ea_
          subst ec_
          clear en_
          have hcv10 := fun m_ => Kd.C_string (P := Tryz.prog) (A := A270_2) (c := c270_2) Tryz.underlying29 Tryz.underlying5 Tryz.underlying9 (Kd.C_drewN HR274_2.out m_)
          have p275 : 0 ≤ (x5_1 : Int) := of_decide_eq_true (by first | (with_reducible assumption) | assumption)
          have q275 : x5_1 < (l1.length : Int) := of_decide_eq_true (by first | (with_reducible assumption) | assumption)
          obtain ⟨ad275, A275_2, c275_2, e275, hx275_0, hx275_1, hx275_2, hl275_2, hi275_2⟩ := at_T45 HR1.out x5_1 p275 q275
          obtain rfl : ad271 = ad275 := (by injection e275)
          have HR275_2 := Aside0.mk hi275_2
          have HC275_2 := Aside0.mk hl275_2
          clear hi275_2 hl275_2
          replace p275 := eq_true p275
          replace q275 := eq_true q275
          have ea_ := Option.some.inj (hx271_2.symm.trans hx275_2)
          injection ea_ with ea_ en_ ec_
          subst ea_
          subst ec_
          clear en_
          have hcv11 := fun m_ => Kd.C_string (P := Tryz.prog) (A := A271_2) (c := c271_2) Tryz.underlying29 Tryz.underlying5 Tryz.underlying9 (Kd.C_drewN HR275_2.out m_)
          go_wp2
          repeat (go_quiet (fail); try go_wp2)
          go_roundg k1
          case measure => have := HK1.out; omega
          case rel => exact ⟨(wrap64 (x5_1 + 1)), (by first | rfl | (simp; done) | (simp [*]; done)), H', ⟨by have := HK1.out; omega⟩, by repeat (first | exact Drawn0.refl _ | apply Drawn0.step)⟩
         ·rw [if_neg c9] at H
          have c9b0 : ((strOfNums ((rd_T45 l0 x5_1).f2)).toList == (strOfNums ((rd_T45 l1 x5_1).f2)).toList) = false := beq_eq_false_iff_ne.mpr c9
          have c9b1 : ((strOfNums ((rd_T45 l0 x5_1).f2)).toList != (strOfNums ((rd_T45 l1 x5_1).f2)).toList) = true := bne_iff_ne.mpr c9
          obtain rfl := Option.some.inj H
          have p270 : 0 ≤ (x5_1 : Int) := of_decide_eq_true (by first | (with_reducible assumption) | assumption)
          have q270 : x5_1 < (l0.length : Int) := of_decide_eq_true (by first | (with_reducible assumption) | assumption)
          obtain ⟨ad270, A270_2, c270_2, e270, hx270_0, hx270_1, hx270_2, hl270_2, hi270_2⟩ := at_T45 HR0.out x5_1 p270 q270
          cases e270
          have HR270_2 := Aside0.mk hi270_2
          have HC270_2 := Aside0.mk hl270_2
          clear hi270_2 hl270_2
          replace p270 := eq_true p270
          replace q270 := eq_true q270
          have p271 : 0 ≤ (x5_1 : Int) := of_decide_eq_true (by first | (with_reducible assumption) | assumption)
          have q271 : x5_1 < (l1.length : Int) := of_decide_eq_true (by first | (with_reducible assumption) | assumption)
          obtain ⟨ad271, A271_2, c271_2, e271, hx271_0, hx271_1, hx271_2, hl271_2, hi271_2⟩ := at_T45 HR1.out x5_1 p271 q271
          cases e271
          have HR271_2 := Aside0.mk hi271_2
          have HC271_2 := Aside0.mk hl271_2
          clear hi271_2 hl271_2
          replace p271 := eq_true p271
          replace q271 := eq_true q271
          have p272 : 0 ≤ (x5_1 : Int) := of_decide_eq_true (by first | (with_reducible assumption) | assumption)
          have q272 : x5_1 < (l0.length : Int) := of_decide_eq_true (by first | (with_reducible assumption) | assumption)
          obtain ⟨ad272, A272_2, c272_2, e272, hx272_0, hx272_1, hx272_2, hl272_2, hi272_2⟩ := at_T45 HR0.out x5_1 p272 q272
          obtain rfl : ad270 = ad272 := (by injection e272)
          have HR272_2 := Aside0.mk hi272_2
          have HC272_2 := Aside0.mk hl272_2
          clear hi272_2 hl272_2
          replace p272 := eq_true p272
          replace q272 := eq_true q272
          have ea_ := Option.some.inj (hx270_2.symm.trans hx272_2)
          injection ea_ with ea_ en_ ec_
          subst ea_
          subst ec_
          clear en_
          have p273 : 0 ≤ (x5_1 : Int) := of_decide_eq_true (by first | (with_reducible assumption) | assumption)
          have q273 : x5_1 < (l1.length : Int) := of_decide_eq_true (by first | (with_reducible assumption) | assumption)
          obtain ⟨ad273, A273_2, c273_2, e273, hx273_0, hx273_1, hx273_2, hl273_2, hi273_2⟩ := at_T45 HR1.out x5_1 p273 q273
          obtain rfl : ad271 = ad273 := (by injection e273)
          have HR273_2 := Aside0.mk hi273_2
          have HC273_2 := Aside0.mk hl273_2
          clear hi273_2 hl273_2
          replace p273 := eq_true p273
          replace q273 := eq_true q273
          have ea_ := Option.some.inj (hx271_2.symm.trans hx273_2)
          injection ea_ with ea_ en_ ec_
          subst ea_
          subst ec_
          clear en_
          have p274 : 0 ≤ (x5_1 : Int) := of_decide_eq_true (by first | (with_reducible assumption) | assumption)
          have q274 : x5_1 < (l0.length : Int) := of_decide_eq_true (by first | (with_reducible assumption) | assumption)
          obtain ⟨ad274, A274_2, c274_2, e274, hx274_0, hx274_1, hx274_2, hl274_2, hi274_2⟩ := at_T45 HR0.out x5_1 p274 q274
          obtain rfl : ad270 = ad274 := (by injection e274)
          have HR274_2 := Aside0.mk hi274_2
          have HC274_2 := Aside0.mk hl274_2
          clear hi274_2 hl274_2
          replace p274 := eq_true p274
          replace q274 := eq_true q274
          have ea_ := Option.some.inj (hx270_2.symm.trans hx274_2)
          injection ea_ with ea_ en_ ec_
          subst ea_
          subst ec_
          clear en_
          have hcv12 := fun m_ => Kd.C_string (P := Tryz.prog) (A := A270_2) (c := c270_2) Tryz.underlying29 Tryz.underlying5 Tryz.underlying9 (Kd.C_drewN HR274_2.out m_)
          have p275 : 0 ≤ (x5_1 : Int) := of_decide_eq_true (by first | (with_reducible assumption) | assumption)
          have q275 : x5_1 < (l1.length : Int) := of_decide_eq_true (by first | (with_reducible assumption) | assumption)
          obtain ⟨ad275, A275_2, c275_2, e275, hx275_0, hx275_1, hx275_2, hl275_2, hi275_2⟩ := at_T45 HR1.out x5_1 p275 q275
          obtain rfl : ad271 = ad275 := (by injection e275)
          have HR275_2 := Aside0.mk hi275_2
          have HC275_2 := Aside0.mk hl275_2
          clear hi275_2 hl275_2
          replace p275 := eq_true p275
          replace q275 := eq_true q275
          have ea_ := Option.some.inj (hx271_2.symm.trans hx275_2)
          injection ea_ with ea_ en_ ec_
          subst ea_
          subst ec_
          clear en_
          have hcv13 := fun m_ => Kd.C_string (P := Tryz.prog) (A := A271_2) (c := c271_2) Tryz.underlying29 Tryz.underlying5 Tryz.underlying9 (Kd.C_drewN HR275_2.out m_)
          go_wp2
          repeat (go_quiet (fail); try go_wp2)
          go_ret
          exact ⟨by first | rfl | (simp; done) | (simp [*]; done), by repeat (first | exact Drawn0.refl _ | apply Drawn0.step)⟩
       ·rw [if_neg c7] at H
        have c7b0 : (((rd_T45 l0 x5_1).f0).toList == ((rd_T45 l1 x5_1).f0).toList) = false := beq_eq_false_iff_ne.mpr c7
        have c7b1 : (((rd_T45 l0 x5_1).f0).toList != ((rd_T45 l1 x5_1).f0).toList) = true := bne_iff_ne.mpr c7
        obtain rfl := Option.some.inj H
        have p270 : 0 ≤ (x5_1 : Int) := of_decide_eq_true (by first | (with_reducible assumption) | assumption)
        have q270 : x5_1 < (l0.length : Int) := of_decide_eq_true (by first | (with_reducible assumption) | assumption)
        obtain ⟨ad270, A270_2, c270_2, e270, hx270_0, hx270_1, hx270_2, hl270_2, hi270_2⟩ := at_T45 HR0.out x5_1 p270 q270
        cases e270
        have HR270_2 := Aside0.mk hi270_2
        have HC270_2 := Aside0.mk hl270_2
        clear hi270_2 hl270_2
        replace p270 := eq_true p270
        replace q270 := eq_true q270
        have p271 : 0 ≤ (x5_1 : Int) := of_decide_eq_true (by first | (with_reducible assumption) | assumption)
        have q271 : x5_1 < (l1.length : Int) := of_decide_eq_true (by first | (with_reducible assumption) | assumption)
        obtain ⟨ad271, A271_2, c271_2, e271, hx271_0, hx271_1, hx271_2, hl271_2, hi271_2⟩ := at_T45 HR1.out x5_1 p271 q271
        cases e271
        have HR271_2 := Aside0.mk hi271_2
        have HC271_2 := Aside0.mk hl271_2
        clear hi271_2 hl271_2
        replace p271 := eq_true p271
        replace q271 := eq_true q271
        go_wp2
        repeat (go_quiet (fail); try go_wp2)
        go_ret
        exact ⟨by first | rfl | (simp; done) | (simp [*]; done), by repeat (first | exact Drawn0.refl _ | apply Drawn0.step)⟩
      ·rw [if_neg c6] at H
       exact absurd H (by simp)
     ·rw [if_neg c5] at H
      exact absurd H (by simp)
    ·rw [if_neg c4] at H
     have c4b0 : decide (x5_1 < (l0.length : Int)) = false := decide_eq_false c4
     clear c4
     obtain rfl := Option.some.inj H
     go_wp2
     repeat (go_quiet (fail); try go_wp2)
     go_ret
     exact ⟨by first | rfl | (simp; done) | (simp [*]; done), by repeat (first | exact Drawn0.refl _ | apply Drawn0.step)⟩
 ·rw [if_neg c3] at H
  have c3b0 : ((l0.length : Int) == (l1.length : Int)) = false := beq_eq_false_iff_ne.mpr c3
  have c3b1 : ((l0.length : Int) != (l1.length : Int)) = true := bne_iff_ne.mpr c3
  have c3b2 : (l0.length == l1.length) = false := by first | simpa using c3 | (simp at c3 ⊢; omega)
  obtain rfl := Option.some.inj H
  go_enter Tryz.func16, Tryz.ntmps16
  go_wp2
  repeat (go_quiet (fail); try go_wp2)
  go_ret
  exact ⟨by first | rfl | (simp; done) | (simp [*]; done), by repeat (first | exact Drawn0.refl _ | apply Drawn0.step)⟩
def tallymanref7_Bytes.l0 : Nat → List (S45) → Int → Int → Option (Int)
 | 0, _, _, _ => none
 | k + 1, x0, x3, x4 => if x4 < (x0.length : Int) then (if 0 ≤ x4 then (tallymanref7_Bytes.l0 k x0 (wrap64 (x3 + (((rd_T45 x0 x4).f2).length : Int))) (wrap64 (x4 + 1))) else (none)) else (some x3)
def tallymanref7_Bytes.f (k : Nat) (l0 : List (S45)) : Option (Int) := tallymanref7_Bytes.l0 k l0 0 0
theorem tallymanref7_Bytes.calls (k : Nat) (A0 : Option Addr) (c0 : Nat) (l0 : List (S45)) (r : Int) (w : World) (hr0 : Kd.C k45 w A0 l0.length l0) (hc0 : l0.length ≤ c0) (h : tallymanref7_Bytes.f k l0 = some r) :
  Calls Tryz.prog 23 #[.slice A0 l0.length c0] w fun e w' => e = .returned (.int .i64 r) ∧ Drawn0 w w' := by
 have HR0 := Aside0.mk hr0
 have HC0 := Aside0.mk hc0
 clear hr0 hc0
 have H : (tallymanref7_Bytes.l0 k l0 0 0) = some r := h
 clear h
 have H' := Aside0.mk H
 clear H
 go_enter Tryz.func23, Tryz.ntmps23
 go_wp2
 go_loopg [3, 4] k (fun kq v3 v4 w' => ∃ (x3_1 : Int) (x4_1 : Int), v3 = .int .i64 x3_1 ∧ v4 = .int .i64 x4_1 ∧ Aside0 (tallymanref7_Bytes.l0 kq l0 x3_1 x4_1 = some r) ∧ Aside0 (kq ≤ k) ∧ Drawn0 w w')
 case atStart => exact ⟨(0), (0), (by first | rfl | (simp; done) | (simp [*]; done)), (by first | rfl | (simp; done) | (simp [*]; done)), H', ⟨Nat.le_refl _⟩, by repeat (first | exact Drawn0.refl _ | apply Drawn0.step)⟩
 case round =>
  clear H'
  obtain ⟨x3_1, x4_1, rfl, rfl, HA, HK1, ⟨m1, rfl⟩⟩ := hrel
  cases gk with
  | zero => exact absurd HA.out (by simp [tallymanref7_Bytes.l0])
  | succ k1 =>
   have H := HA.out
   clear HA
   simp only [tallymanref7_Bytes.l0] at H
   by_cases c2 : x4_1 < (l0.length : Int)
   ·rw [if_pos c2] at H
    have c2b0 : decide (x4_1 < (l0.length : Int)) = true := decide_eq_true c2
    clear c2
    by_cases c3 : 0 ≤ x4_1
    ·rw [if_pos c3] at H
     have c3b0 : decide (0 ≤ x4_1) = true := decide_eq_true c3
     clear c3
     have H' := Aside0.mk H
     clear H
     have p157 : 0 ≤ (x4_1 : Int) := of_decide_eq_true (by first | (with_reducible assumption) | assumption)
     have q157 : x4_1 < (l0.length : Int) := of_decide_eq_true (by first | (with_reducible assumption) | assumption)
     obtain ⟨ad157, A157_2, c157_2, e157, hx157_0, hx157_1, hx157_2, hl157_2, hi157_2⟩ := at_T45 HR0.out x4_1 p157 q157
     cases e157
     have HR157_2 := Aside0.mk hi157_2
     have HC157_2 := Aside0.mk hl157_2
     clear hi157_2 hl157_2
     replace p157 := eq_true p157
     replace q157 := eq_true q157
     go_wp2
     go_roundg k1
     case measure => have := HK1.out; omega
     case rel => exact ⟨(wrap64 (x3_1 + (((rd_T45 l0 x4_1).f2).length : Int))), (wrap64 (x4_1 + 1)), (by first | rfl | (simp; done) | (simp [*]; done)), (by first | rfl | (simp; done) | (simp [*]; done)), H', ⟨by have := HK1.out; omega⟩, by repeat (first | exact Drawn0.refl _ | apply Drawn0.step)⟩
    ·rw [if_neg c3] at H
     exact absurd H (by simp)
   ·rw [if_neg c2] at H
    have c2b0 : decide (x4_1 < (l0.length : Int)) = false := decide_eq_false c2
    clear c2
    obtain rfl := Option.some.inj H
    go_wp2
    go_ret
    exact ⟨by first | rfl | (simp; done) | (simp [*]; done), by repeat (first | exact Drawn0.refl _ | apply Drawn0.step)⟩
def tallymanref7_At.l0 : Nat → List (S45) → ByteArray → Int → Option (Int)
 | 0, _, _, _ => none
 | k + 1, x0, x1, x5 => if x5 < (x0.length : Int) then (if 0 ≤ x5 then (if ((rd_T45 x0 x5).f0).toList = x1.toList then (some x5) else (tallymanref7_At.l0 k x0 x1 (wrap64 (x5 + 1)))) else (none)) else (some (-1))
def tallymanref7_At.f (k : Nat) (l0 : List (S45)) (a1 : ByteArray) : Option (Int) := tallymanref7_At.l0 k l0 a1 0
theorem tallymanref7_At.calls (k : Nat) (A0 : Option Addr) (c0 : Nat) (l0 : List (S45)) (a1 : ByteArray) (r : Int) (w : World) (hr0 : Kd.C k45 w A0 l0.length l0) (hc0 : l0.length ≤ c0) (h : tallymanref7_At.f k l0 a1 = some r) :
  Calls Tryz.prog 51 #[.slice A0 l0.length c0, .string a1] w fun e w' => e = .returned (.int .i64 r) ∧ Drawn0 w w' := by
 have HR0 := Aside0.mk hr0
 have HC0 := Aside0.mk hc0
 clear hr0 hc0
 have H : (tallymanref7_At.l0 k l0 a1 0) = some r := h
 clear h
 have H' := Aside0.mk H
 clear H
 go_enter Tryz.func51, Tryz.ntmps51
 go_wp2
 go_loopg [5] k (fun kq v5 w' => ∃ (x5_1 : Int), v5 = .int .i64 x5_1 ∧ Aside0 (tallymanref7_At.l0 kq l0 a1 x5_1 = some r) ∧ Aside0 (kq ≤ k) ∧ Drawn0 w w')
 case atStart => exact ⟨(0), (by first | rfl | (simp; done) | (simp [*]; done)), H', ⟨Nat.le_refl _⟩, by repeat (first | exact Drawn0.refl _ | apply Drawn0.step)⟩
 case round =>
  clear H'
  try clear p2
  obtain ⟨x5_1, rfl, HA, HK1, ⟨m1, rfl⟩⟩ := hrel
  cases gk with
  | zero => exact absurd HA.out (by simp [tallymanref7_At.l0])
  | succ k1 =>
   have H := HA.out
   clear HA
   simp only [tallymanref7_At.l0] at H
   by_cases c3 : x5_1 < (l0.length : Int)
   ·rw [if_pos c3] at H
    have c3b0 : decide (x5_1 < (l0.length : Int)) = true := decide_eq_true c3
    clear c3
    by_cases c4 : 0 ≤ x5_1
    ·rw [if_pos c4] at H
     have c4b0 : decide (0 ≤ x5_1) = true := decide_eq_true c4
     clear c4
     by_cases c5 : ((rd_T45 l0 x5_1).f0).toList = a1.toList
     ·rw [if_pos c5] at H
      have c5b0 : (((rd_T45 l0 x5_1).f0).toList == a1.toList) = true := beq_iff_eq.mpr c5
      have c5b1 : (((rd_T45 l0 x5_1).f0).toList != a1.toList) = false := bne_eq_false_iff_eq.mpr c5
      clear c5
      obtain rfl := Option.some.inj H
      have p158 : 0 ≤ (x5_1 : Int) := of_decide_eq_true (by first | (with_reducible assumption) | assumption)
      have q158 : x5_1 < (l0.length : Int) := of_decide_eq_true (by first | (with_reducible assumption) | assumption)
      obtain ⟨ad158, A158_2, c158_2, e158, hx158_0, hx158_1, hx158_2, hl158_2, hi158_2⟩ := at_T45 HR0.out x5_1 p158 q158
      cases e158
      have HR158_2 := Aside0.mk hi158_2
      have HC158_2 := Aside0.mk hl158_2
      clear hi158_2 hl158_2
      replace p158 := eq_true p158
      replace q158 := eq_true q158
      go_wp2
      go_ret
      exact ⟨by first | rfl | (simp; done) | (simp [*]; done), by repeat (first | exact Drawn0.refl _ | apply Drawn0.step)⟩
     ·rw [if_neg c5] at H
      have c5b0 : (((rd_T45 l0 x5_1).f0).toList == a1.toList) = false := beq_eq_false_iff_ne.mpr c5
      have c5b1 : (((rd_T45 l0 x5_1).f0).toList != a1.toList) = true := bne_iff_ne.mpr c5
      have H' := Aside0.mk H
      clear H
      have p158 : 0 ≤ (x5_1 : Int) := of_decide_eq_true (by first | (with_reducible assumption) | assumption)
      have q158 : x5_1 < (l0.length : Int) := of_decide_eq_true (by first | (with_reducible assumption) | assumption)
      obtain ⟨ad158, A158_2, c158_2, e158, hx158_0, hx158_1, hx158_2, hl158_2, hi158_2⟩ := at_T45 HR0.out x5_1 p158 q158
      cases e158
      have HR158_2 := Aside0.mk hi158_2
      have HC158_2 := Aside0.mk hl158_2
      clear hi158_2 hl158_2
      replace p158 := eq_true p158
      replace q158 := eq_true q158
      go_wp2
      go_roundg k1
      case measure => have := HK1.out; omega
      case rel => exact ⟨(wrap64 (x5_1 + 1)), (by first | rfl | (simp; done) | (simp [*]; done)), H', ⟨by have := HK1.out; omega⟩, by repeat (first | exact Drawn0.refl _ | apply Drawn0.step)⟩
    ·rw [if_neg c4] at H
     exact absurd H (by simp)
   ·rw [if_neg c3] at H
    have c3b0 : decide (x5_1 < (l0.length : Int)) = false := decide_eq_false c3
    clear c3
    obtain rfl := Option.some.inj H
    go_wp2
    go_ret
    exact ⟨by first | rfl | (simp; done) | (simp [*]; done), by repeat (first | exact Drawn0.refl _ | apply Drawn0.step)⟩
end Go.Proofs.YtidlldfghkaeeaaGreatDoor.P
