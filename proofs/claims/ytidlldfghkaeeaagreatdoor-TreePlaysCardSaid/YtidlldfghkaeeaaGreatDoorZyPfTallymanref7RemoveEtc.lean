/- Put together by pack2.py: PfTallymanref7Remove, PfTreeCount, EntRow, DirMap, TreeList, PthUp, TreeGood -/
import Derived.Test.YtidlldfghkaeeaaGreatDoorZyRefNamesEtc
import Derived.Test.YtidlldfghkaeeaaGreatDoorZyPfTallymanref7InsideEtc
import Derived.Test.YtidlldfghkaeeaaGreatDoorZyPfTallymanref7WithoutEtc
import Derived.Lib.AppendZerosOnto
import Derived.Lib.Overlaps
import Derived.Laws.CopyRow
import Derived.Maps.Own
import Derived.Maps.OwnOps
import Derived.Maps.Views
import Derived.StringKeys
import Derived.Test.YtidlldfghkaeeaaGreatDoorZyLaidKEtc
import Derived.Test.YtidlldfghkaeeaaGreatDoorZyW0
set_option linter.unusedVariables false
set_option linter.unusedSimpArgs false
set_option maxHeartbeats 8000000
set_option maxRecDepth 100000
section
namespace Go.Proofs.YtidlldfghkaeeaaGreatDoor.P
open Go.RowKit Go.Proofs.YtidlldfghkaeeaaGreatDoorW.PrintWords Go.Proofs.YtidlldfghkaeeaaGreatDoorW.PrintLast Go.Proofs.YtidlldfghkaeeaaGreatDoorW.PrintMore
attribute [local go_sem] max2_int min2_int max_two min_two max_three min_three max_four min_four
def tallymanref7_Remove.l0 : Nat → List (S45) → ByteArray → Int → Option ((List (S45)) × Int)
 | 0, _, _, _ => none
 | k + 1, x0, x1, x8 => if x8 < (x0.length : Int) then (if 0 ≤ x8 then ((tallymanref7_Under.f ((rd_T45 x0 x8).f0) x1).bind fun t249 => (if t249 = true then (some (x0, 8)) else (tallymanref7_Remove.l0 k x0 x1 (wrap64 (x8 + 1))))) else (none)) else ((tallymanref7_without.f k x0 x1).bind fun t250 => (some (t250, 0)))
def tallymanref7_Remove.f (k : Nat) (l0 : List (S45)) (a1 : ByteArray) : Option ((List (S45)) × Int) := (tallymanref7_Find.f k l0 a1).bind fun bt241 => (if bt241.2.2.2 = 0 then (tallymanref7_Remove.l0 k l0 a1 0) else (some (l0, bt241.2.2.2)))
theorem tallymanref7_Remove.calls (k : Nat) (P0_ : Nat → Prop) (A0 : Option Addr) (c0 : Nat) (l0 : List (S45)) (a1 : ByteArray) (r1 : List (S45)) (r2 : Int) (w : World) (hs0 : Kd.V k45 45 w w.heap.size (fun k_ => P0_ k_) (.slice A0 l0.length c0) l0) (h : tallymanref7_Remove.f k l0 a1 = some (r1, r2)) :
  Calls Tryz.prog 11 #[.slice A0 l0.length c0, .string a1] w fun e w' => ∃ v0_ : Value, e = .returned (.tuple #[v0_, .int .i64 r2]) ∧ Kd.V k45 45 w' w.heap.size (fun k_ => (P0_ k_ ∨ w.heap.size ≤ k_)) v0_ r1 ∧ Below w.heap.size w w' := by
 have hu45 := Tryz.underlying45
 have HO0 := xa_ (show Kd.V k45 45 w w.heap.size (fun k_ => (P0_ k_ ∨ w.heap.size ≤ k_)) (.slice A0 l0.length c0) l0 from Kd.V_mono hs0 (fun k_ hk => .inl hk))
 have HB := xa_ (Below.refl w.heap.size w)
 have H : ((tallymanref7_Find.f k l0 a1).bind fun bt241 => (if bt241.2.2.2 = 0 then (tallymanref7_Remove.l0 k l0 a1 0) else (some (l0, bt241.2.2.2)))) = some (r1, r2) := h
 clear h
 replace H := Option.bind_eq_some_iff.mp H
 obtain ⟨⟨t241, t242, t243, t246⟩, A30, H⟩ := H
 replace H : (if t246 = 0 then (tallymanref7_Remove.l0 k l0 a1 0) else (some (l0, t246))) = some (r1, r2) := H
 have A3 := Aside0.mk A30
 clear A30
 by_cases c4 : t246 = 0
 ·rw [if_pos c4] at H
  have c4b0 : (t246 == 0) = true := beq_iff_eq.mpr c4
  have c4b1 : (t246 != 0) = false := bne_eq_false_iff_eq.mpr c4
  clear c4
  have H' := Aside0.mk H
  clear H
  go_enter Tryz.func11, Tryz.ntmps11
  go_wp2_with (first | ((with_reducible refine gate_callee (f := 15) rfl ?_); refine goesL_ (some 12) rfl rfl Tryz.func15 (by kernel_rfl) rfl #[.slice A0 l0.length c0, .string a1] rfl (by (try simp only [ca_]); first | done | rfl) ?_; (with_reducible refine (tallymanref7_Find.calls k (fun k_ => (P0_ k_ ∨ w.heap.size ≤ k_)) _ _ l0 a1 t241 t242 t243 t246 _ ?side1 A3.out).mono ?_); (case side1 => exact HO0.out); rintro e w5 ⟨v244, rfl, ho0, hb⟩; refine ⟨_, rfl, ?_⟩; replace HO0 := xa_ (Kd.V_below (xV_ HO0.out) hb); replace HO245 := xa_ (Kd.V_lower (Kd.V_mono (ok' := fun k_ => (P0_ k_ ∨ w.heap.size ≤ k_)) ho0 (fun k_ hk_ => Or.elim hk_ (fun hs_ => hs_) (fun hn_ => (.inr (Nat.le_trans (below_size (xw_ HB.out)) hn_))))) (below_size (xw_ HB.out))); replace HB := xa_ (below_step (xw_ HB.out) hb); (try clear hb); (try clear hb2); (try clear hk); (try clear hi); (try clear ho0)) | ((with_reducible refine gate_dst (N := 6) rfl ?_); refine box_event ?hg (N := 6) ?hd (cs := #[.string (⟨#[]⟩ : ByteArray), .bool false, .slice none 0 0]) (t := 45) ?hr ?_; (case hd => rfl); (case hg => rfl); (case hr => first | (go_simp; done) | (go_simp; rfl)); intro gb247 hg w6 hbox hb; have BK247 := xa_ (hbox); have GW247 := xa_ ((by rw [hg]; exact (below_size (xw_ HB.out)) : w.heap.size ≤ gb247)); have GE247 := xa_ ((by rw [hg]; exact (below_size (xw_ HB.out)) : w.heap.size ≤ gb247)); replace HO0 := xa_ (Kd.V_below (Kd.V_elderB (xV_ HO0.out) gb247 (Nat.le_of_eq hg.symm)) hb); replace HO245 := xa_ (Kd.V_below (Kd.V_elderB (xV_ HO245.out) gb247 (Nat.le_of_eq hg.symm)) hb); replace HB := xa_ (below_step (xw_ HB.out) hb); clear hb hbox hg; have hcz7_0 : w6.cell? ⟨gb247, 0, none⟩ = some (.string (⟨#[]⟩ : ByteArray)) := (blk_cell BK247.out 0).trans rfl; have hcz7_1 : w6.cell? ⟨gb247, 1, none⟩ = some (.bool false) := (blk_cell BK247.out 1).trans rfl; have hcz7_2 : w6.cell? ⟨gb247, 2, none⟩ = some (.slice none 0 0) := (blk_cell BK247.out 2).trans rfl; have hfz7_0 := blk_frozen BK247.out 0; have hfz7_1 := blk_frozen BK247.out 1; have hfz7_2 := blk_frozen BK247.out 2; obtain ⟨Ao8, co8, eo8⟩ := Kd.V_slice HO245.out; subst eo8))
  go_loopg [8] k (fun kq v8 w' => ∃ (x8_1 : Int), v8 = .int .i64 x8_1 ∧ Aside0 (tallymanref7_Remove.l0 kq l0 a1 x8_1 = some (r1, r2)) ∧ Aside0 (kq ≤ k) ∧ Aside0 (Kd.V k45 45 w' w.heap.size (fun k_ => (P0_ k_ ∨ w.heap.size ≤ k_) ∧ k_ ≠ gb247) (.slice A0 l0.length c0) l0) ∧ Aside0 (Kd.V (Kd.int .u8) 5 w' w.heap.size (fun k_ => (P0_ k_ ∨ w.heap.size ≤ k_) ∧ k_ ≠ gb247) (.slice Ao8 t243.length co8) t243) ∧ Aside0 (w'.heap[gb247]? = some (.cells #[.string t241, .bool t242, (.slice Ao8 t243.length co8)] 45 (0, 0))) ∧ Aside0 (Below w.heap.size w w'))
  case atStart => exact ⟨(0), (by first | rfl | (simp; done) | (simp [*]; done)), H', ⟨Nat.le_refl _⟩, ⟨by (with_reducible repeat (first | apply Kd.V_alloc | apply Kd.V_drewN | apply Kd.V_drew)); exact Kd.V_mono (vf_ (vf_ (vf_ (Kd.V_mono HO0.out (fun k_ hk => (⟨hk, hk.2⟩ : _ ∧ k_ ≠ gb247)))))) (fun _ hk => ⟨hk.1.1, hk.1.2⟩)⟩, ⟨by (with_reducible repeat (first | apply Kd.V_alloc | apply Kd.V_drewN | apply Kd.V_drew)); exact Kd.V_mono (vf_ (vf_ (vf_ (Kd.V_mono HO245.out (fun k_ hk => (⟨hk, hk.2⟩ : _ ∧ k_ ≠ gb247)))))) (fun _ hk => ⟨hk.1.1, hk.1.2⟩)⟩, ⟨by (with_reducible repeat (first | refine blk_drewN ?_ _ | refine blk_drew ?_ | refine blk_alloc ?_ _)); refine blk_put (cs := #[.string t241, .bool t242, .slice none 0 0]) ?_ 2 _ rfl; (with_reducible repeat (first | refine blk_drewN ?_ _ | refine blk_drew ?_ | refine blk_alloc ?_ _)); refine blk_put (cs := #[.string t241, .bool false, .slice none 0 0]) ?_ 1 _ rfl; (with_reducible repeat (first | refine blk_drewN ?_ _ | refine blk_drew ?_ | refine blk_alloc ?_ _)); refine blk_put (cs := #[.string (⟨#[]⟩ : ByteArray), .bool false, .slice none 0 0]) ?_ 0 _ rfl; (with_reducible repeat (first | refine blk_drewN ?_ _ | refine blk_drew ?_ | refine blk_alloc ?_ _)); exact BK247.out⟩, ⟨by repeat (first | (with_reducible first | exact HB.out | apply below_alloc | apply pw_below_drewN | apply below_drew1 | refine below_set ?_ GE247.out) | exact HB.out)⟩⟩
  case round =>
   clear H'
   try clear c1
   try clear p2
   try clear c4
   try clear c4b0
   try clear c4b1
   try clear hcz7_0
   try clear hcz7_1
   try clear hcz7_2
   try clear hfz7_0
   try clear hfz7_1
   try clear hfz7_2
   obtain ⟨x8_1, rfl, HA, HK1, HO_0, HO_248002, BK247, HB⟩ := hrel
   cases gk with
   | zero => exact absurd HA.out (by simp [tallymanref7_Remove.l0])
   | succ k1 =>
    have H := HA.out
    clear HA
    simp only [tallymanref7_Remove.l0] at H
    by_cases c9 : x8_1 < (l0.length : Int)
    ·rw [if_pos c9] at H
     have c9b0 : decide (x8_1 < (l0.length : Int)) = true := decide_eq_true c9
     clear c9
     by_cases c10 : 0 ≤ x8_1
     ·rw [if_pos c10] at H
      have c10b0 : decide (0 ≤ x8_1) = true := decide_eq_true c10
      clear c10
      replace H := Option.bind_eq_some_iff.mp H
      obtain ⟨t249, A110, H⟩ := H
      replace H : (if t249 = true then (some (l0, 8)) else (tallymanref7_Remove.l0 k1 l0 a1 (wrap64 (x8_1 + 1)))) = some (r1, r2) := H
      have A11 := Aside0.mk A110
      clear A110
      by_cases c12 : t249 = true
      ·subst c12
       have H1 : (some (l0, 8)) = some (r1, r2) := by rw [if_pos rfl] at H; exact H
       clear H
       have H := H1
       clear H1
       simp only [Option.some.injEq, Prod.mk.injEq] at H
       obtain ⟨rfl, rfl⟩ := H
       have p248 : 0 ≤ (x8_1 : Int) := of_decide_eq_true (by first | (with_reducible assumption) | assumption)
       have q248 : x8_1 < (l0.length : Int) := of_decide_eq_true (by first | (with_reducible assumption) | assumption)
       obtain ⟨ad248, A248_2, c248_2, e248, hx248_0, hx248_1, hx248_2, hl248_2, hi248_2⟩ := at_T45 (Kd.V_reads' HO_0.out).2.2 x8_1 p248 q248
       cases e248
       obtain ⟨ce248, hce248, hMe248, hcc248⟩ := Kd.V_get HO_0.out z45 x8_1 p248 (by first | exact q248 | exact of_decide_eq_true (by first | (with_reducible assumption) | assumption) | (have e_ := (Kd.V_reads' HO_0.out).1; omega))
       obtain ⟨ua248_2, uc248_2, rfl, ul248_2, ge248_2⟩ := k45_openF hMe248
       have hv248_2 := hcc248 2 _ rfl
       rw [add_field _ _ 2 (by omega)] at hv248_2
       replace hv248_2 := Option.some.inj (hv248_2.symm.trans hx248_2)
       injection hv248_2 with hva_ hvn_ hvc_
       rw [hva_] at ge248_2
       rw [hvc_] at ul248_2
       have HL248_2 := xa_ (show Kd.V (Kd.int .u8) 5 _ w.heap.size _ _ ((rd_T45 l0 x8_1).f2) from Kd.V_mk ul248_2 ge248_2)
       clear hva_ hvn_ hvc_ ge248_2 ul248_2
       clear hcc248 hce248
       have HR248_2 := Aside0.mk hi248_2
       have HC248_2 := Aside0.mk hl248_2
       clear hi248_2 hl248_2
       replace p248 := eq_true p248
       replace q248 := eq_true q248
       go_wp2_with (first | ((with_reducible refine gate_callee (f := 56) rfl ?_); refine goesL_ (some 31) rfl rfl Tryz.func56 (by kernel_rfl) rfl #[.string ((rd_T45 l0 x8_1).f0), .string a1] rfl (by (try simp only [ca_]); first | done | rfl) ?_; (with_reducible refine (tallymanref7_Under.calls ((rd_T45 l0 x8_1).f0) a1 true _ A11.out).mono ?_); rintro e w13 ⟨rfl, hb⟩; refine ⟨_, rfl, ?_⟩; replace HO_0 := xa_ (Kd.V_below (xV_ HO_0.out) hb); replace HO_248002 := xa_ (Kd.V_below (xV_ HO_248002.out) hb); replace HL248_2 := xa_ (Kd.V_below (xV_ HL248_2.out) hb); replace BK247 := xa_ (blk_below (xb_ BK247.out) hb); replace HR248_2 := xa_ (Kd.C_below (by repeat (first | (with_reducible exact HR248_2.out) | (with_reducible refine Kd.C_alloc ?_ _) | (with_reducible refine Kd.C_drewN ?_ _) | (with_reducible refine Kd.C_drew ?_) | exact HR248_2.out)) hb); replace HB := xa_ (below_step (xw_ HB.out) hb); (try clear hb); (try clear hb2); (try clear hk); (try clear hi)))
       go_ret2
       exact ⟨_, by first | rfl | (simp [*, errW_none, errW_some] <;> rfl), by (with_reducible repeat (first | apply Kd.V_alloc | apply Kd.V_drewN | apply Kd.V_drew)); exact Kd.V_mono HO_0.out (fun _ hk => hk.1), by repeat (first | (with_reducible first | exact HB.out | apply below_alloc | apply pw_below_drewN | apply below_drew1 | refine below_set ?_ GE247.out) | exact HB.out)⟩
      ·replace c12 := Bool.eq_false_iff.mpr c12
       subst c12
       have H1 : (tallymanref7_Remove.l0 k1 l0 a1 (wrap64 (x8_1 + 1))) = some (r1, r2) := by rw [if_neg (show ¬ (false = true) by decide)] at H; exact H
       clear H
       have H := H1
       clear H1
       have H' := Aside0.mk H
       clear H
       have p248 : 0 ≤ (x8_1 : Int) := of_decide_eq_true (by first | (with_reducible assumption) | assumption)
       have q248 : x8_1 < (l0.length : Int) := of_decide_eq_true (by first | (with_reducible assumption) | assumption)
       obtain ⟨ad248, A248_2, c248_2, e248, hx248_0, hx248_1, hx248_2, hl248_2, hi248_2⟩ := at_T45 (Kd.V_reads' HO_0.out).2.2 x8_1 p248 q248
       cases e248
       obtain ⟨ce248, hce248, hMe248, hcc248⟩ := Kd.V_get HO_0.out z45 x8_1 p248 (by first | exact q248 | exact of_decide_eq_true (by first | (with_reducible assumption) | assumption) | (have e_ := (Kd.V_reads' HO_0.out).1; omega))
       obtain ⟨ua248_2, uc248_2, rfl, ul248_2, ge248_2⟩ := k45_openF hMe248
       have hv248_2 := hcc248 2 _ rfl
       rw [add_field _ _ 2 (by omega)] at hv248_2
       replace hv248_2 := Option.some.inj (hv248_2.symm.trans hx248_2)
       injection hv248_2 with hva_ hvn_ hvc_
       rw [hva_] at ge248_2
       rw [hvc_] at ul248_2
       have HL248_2 := xa_ (show Kd.V (Kd.int .u8) 5 _ w.heap.size _ _ ((rd_T45 l0 x8_1).f2) from Kd.V_mk ul248_2 ge248_2)
       clear hva_ hvn_ hvc_ ge248_2 ul248_2
       clear hcc248 hce248
       have HR248_2 := Aside0.mk hi248_2
       have HC248_2 := Aside0.mk hl248_2
       clear hi248_2 hl248_2
       replace p248 := eq_true p248
       replace q248 := eq_true q248
       go_wp2_with (first | ((with_reducible refine gate_callee (f := 56) rfl ?_); refine goesL_ (some 31) rfl rfl Tryz.func56 (by kernel_rfl) rfl #[.string ((rd_T45 l0 x8_1).f0), .string a1] rfl (by (try simp only [ca_]); first | done | rfl) ?_; (with_reducible refine (tallymanref7_Under.calls ((rd_T45 l0 x8_1).f0) a1 false _ A11.out).mono ?_); rintro e w14 ⟨rfl, hb⟩; refine ⟨_, rfl, ?_⟩; replace HO_0 := xa_ (Kd.V_below (xV_ HO_0.out) hb); replace HO_248002 := xa_ (Kd.V_below (xV_ HO_248002.out) hb); replace HL248_2 := xa_ (Kd.V_below (xV_ HL248_2.out) hb); replace BK247 := xa_ (blk_below (xb_ BK247.out) hb); replace HR248_2 := xa_ (Kd.C_below (by repeat (first | (with_reducible exact HR248_2.out) | (with_reducible refine Kd.C_alloc ?_ _) | (with_reducible refine Kd.C_drewN ?_ _) | (with_reducible refine Kd.C_drew ?_) | exact HR248_2.out)) hb); replace HB := xa_ (below_step (xw_ HB.out) hb); (try clear hb); (try clear hb2); (try clear hk); (try clear hi)))
       go_roundg k1
       case measure => have := HK1.out; omega
       case rel => exact ⟨(wrap64 (x8_1 + 1)), (by first | rfl | (simp; done) | (simp [*]; done)), H', ⟨by have := HK1.out; omega⟩, ⟨by (with_reducible repeat (first | apply Kd.V_alloc | apply Kd.V_drewN | apply Kd.V_drew)); exact HO_0.out⟩, ⟨by (with_reducible repeat (first | apply Kd.V_alloc | apply Kd.V_drewN | apply Kd.V_drew)); exact HO_248002.out⟩, ⟨by (with_reducible repeat (first | refine blk_drewN ?_ _ | refine blk_drew ?_ | refine blk_alloc ?_ _)); exact BK247.out⟩, ⟨by repeat (first | (with_reducible first | exact HB.out | apply below_alloc | apply pw_below_drewN | apply below_drew1 | refine below_set ?_ GE247.out) | exact HB.out)⟩⟩
     ·rw [if_neg c10] at H
      exact absurd H (by simp)
    ·rw [if_neg c9] at H
     have c9b0 : decide (x8_1 < (l0.length : Int)) = false := decide_eq_false c9
     clear c9
     replace H := Option.bind_eq_some_iff.mp H
     obtain ⟨t250, A150, H⟩ := H
     replace H : (some (t250, 0)) = some (r1, r2) := H
     have A15 := Aside0.mk A150
     clear A150
     simp only [Option.some.injEq, Prod.mk.injEq] at H
     obtain ⟨rfl, rfl⟩ := H
     go_wp2_with (first | ((with_reducible refine gate_callee (f := 57) rfl ?_); refine goesL_ (some 35) rfl rfl Tryz.func57 (by kernel_rfl) rfl #[.slice A0 l0.length c0, .string a1] rfl (by (try simp only [ca_]); first | done | rfl) ?_; (with_reducible refine (tallymanref7_without.calls k1 (fun k_ => ((P0_ k_ ∨ w.heap.size ≤ k_) ∧ k_ ≠ gb247)) _ _ l0 a1 t250 _ ?side1 A15.out).mono ?_); (case side1 => exact HO_0.out); rintro e w16 ⟨v251, rfl, ho0, hb⟩; refine ⟨_, rfl, ?_⟩; replace HO_0 := xa_ (Kd.V_elder' (xV_ HO_0.out) (Kd.N_base ho0) hb); replace HO_248002 := xa_ (Kd.V_elder' (xV_ HO_248002.out) (Kd.N_base ho0) hb); replace HO252 := xa_ (Kd.N_lower (Kd.N_mono (ok' := fun k_ => (P0_ k_ ∨ w.heap.size ≤ k_) ∧ k_ ≠ gb247) ho0 (fun k_ hk_ => ⟨Or.elim hk_ (fun hs_ => hs_.1) (fun hn_ => (.inr (Nat.le_trans (below_size (xw_ HB.out)) hn_))), Or.elim hk_ (fun hs_ => hs_.2) (fun hn_ => (Kd.freshB (xb_ BK247.out) k_ hn_))⟩)) (below_size (xw_ HB.out))); replace BK247 := xa_ (blk_below (xb_ BK247.out) hb); replace HB := xa_ (below_step (xw_ HB.out) hb); (try clear hb); (try clear hb2); (try clear hk); (try clear hi); (try clear ho0)))
     go_ret2
     exact ⟨_, by first | rfl | (simp [*, errW_none, errW_some] <;> rfl), Kd.N_V (by (with_reducible repeat (first | apply Kd.N_alloc | apply Kd.N_drewN | apply Kd.N_drew)); exact Kd.N_mono HO252.out (fun _ hk => hk.1)), by repeat (first | (with_reducible first | exact HB.out | apply below_alloc | apply pw_below_drewN | apply below_drew1 | refine below_set ?_ GE247.out) | exact HB.out)⟩
 ·rw [if_neg c4] at H
  have c4b0 : (t246 == 0) = false := beq_eq_false_iff_ne.mpr c4
  have c4b1 : (t246 != 0) = true := bne_iff_ne.mpr c4
  simp only [Option.some.injEq, Prod.mk.injEq] at H
  obtain ⟨rfl, rfl⟩ := H
  go_enter Tryz.func11, Tryz.ntmps11
  go_wp2_with (first | ((with_reducible refine gate_callee (f := 15) rfl ?_); refine goesL_ (some 12) rfl rfl Tryz.func15 (by kernel_rfl) rfl #[.slice A0 l0.length c0, .string a1] rfl (by (try simp only [ca_]); first | done | rfl) ?_; (with_reducible refine (tallymanref7_Find.calls k (fun k_ => (P0_ k_ ∨ w.heap.size ≤ k_)) _ _ l0 a1 t241 t242 t243 t246 _ ?side1 A3.out).mono ?_); (case side1 => exact HO0.out); rintro e w17 ⟨v244, rfl, ho0, hb⟩; refine ⟨_, rfl, ?_⟩; replace HO0 := xa_ (Kd.V_below (xV_ HO0.out) hb); replace HO245 := xa_ (Kd.V_lower (Kd.V_mono (ok' := fun k_ => (P0_ k_ ∨ w.heap.size ≤ k_)) ho0 (fun k_ hk_ => Or.elim hk_ (fun hs_ => hs_) (fun hn_ => (.inr (Nat.le_trans (below_size (xw_ HB.out)) hn_))))) (below_size (xw_ HB.out))); replace HB := xa_ (below_step (xw_ HB.out) hb); (try clear hb); (try clear hb2); (try clear hk); (try clear hi); (try clear ho0)) | ((with_reducible refine gate_dst (N := 6) rfl ?_); refine box_event ?hg (N := 6) ?hd (cs := #[.string (⟨#[]⟩ : ByteArray), .bool false, .slice none 0 0]) (t := 45) ?hr ?_; (case hd => rfl); (case hg => rfl); (case hr => first | (go_simp; done) | (go_simp; rfl)); intro gb247 hg w18 hbox hb; have BK247 := xa_ (hbox); have GW247 := xa_ ((by rw [hg]; exact (below_size (xw_ HB.out)) : w.heap.size ≤ gb247)); have GE247 := xa_ ((by rw [hg]; exact (below_size (xw_ HB.out)) : w.heap.size ≤ gb247)); replace HO0 := xa_ (Kd.V_below (Kd.V_elderB (xV_ HO0.out) gb247 (Nat.le_of_eq hg.symm)) hb); replace HO245 := xa_ (Kd.V_below (Kd.V_elderB (xV_ HO245.out) gb247 (Nat.le_of_eq hg.symm)) hb); replace HB := xa_ (below_step (xw_ HB.out) hb); clear hb hbox hg; have hcz19_0 : w18.cell? ⟨gb247, 0, none⟩ = some (.string (⟨#[]⟩ : ByteArray)) := (blk_cell BK247.out 0).trans rfl; have hcz19_1 : w18.cell? ⟨gb247, 1, none⟩ = some (.bool false) := (blk_cell BK247.out 1).trans rfl; have hcz19_2 : w18.cell? ⟨gb247, 2, none⟩ = some (.slice none 0 0) := (blk_cell BK247.out 2).trans rfl; have hfz19_0 := blk_frozen BK247.out 0; have hfz19_1 := blk_frozen BK247.out 1; have hfz19_2 := blk_frozen BK247.out 2; obtain ⟨Ao20, co20, eo20⟩ := Kd.V_slice HO245.out; subst eo20))
  go_ret2
  exact ⟨_, by first | rfl | (simp [*, errW_none, errW_some] <;> rfl), by (with_reducible repeat (first | apply Kd.V_alloc | apply Kd.V_drewN | apply Kd.V_drew)); exact Kd.V_mono (vf_ (vf_ (vf_ (Kd.V_mono HO0.out (fun k_ hk => (⟨hk, hk.2⟩ : _ ∧ k_ ≠ gb247)))))) (fun _ hk => hk.1.1), by repeat (first | (with_reducible first | exact HB.out | apply below_alloc | apply pw_below_drewN | apply below_drew1 | refine below_set ?_ GE247.out) | exact HB.out)⟩
def tree_count.l0 : Nat → Int → List (S42) → Int → Int → Option (Int)
 | 0, _, _, _, _ => none
 | k + 1, x3, x6, x7, x8 => if x8 < x7 then (if 0 ≤ x8 then (if x8 < (x6.length : Int) then (tree_count.l0 k (wrap64 (x3 + (((rd_T42 x6 x8).f2).length : Int))) x6 x7 (wrap64 (x8 + 1))) else (none)) else (none)) else (some x3)
def tree_count.f (k : Nat) (l0 : List (S42)) : Option (Int) := tree_count.l0 k 0 l0 (l0.length : Int) 0
theorem tree_count.calls (k : Nat) (A0 : Option Addr) (c0 : Nat) (l0 : List (S42)) (r : Int) (w : World) (hr0 : Kd.C k42 w A0 l0.length l0) (hc0 : l0.length ≤ c0) (h : tree_count.f k l0 = some r) :
  Calls Tryz.prog 59 #[.slice A0 l0.length c0] w fun e w' => e = .returned (.int .i64 r) ∧ Below w.heap.size w w' := by
 have hu42 := Tryz.underlying42
 have HR0 := Aside0.mk hr0
 have HC0 := Aside0.mk hc0
 clear hr0 hc0
 have HB := xa_ (Below.refl w.heap.size w)
 have H : (tree_count.l0 k 0 l0 (l0.length : Int) 0) = some r := h
 clear h
 have H' := Aside0.mk H
 clear H
 go_enter Tryz.func59, Tryz.ntmps59
 go_wp2
 go_loopg [3, 8] k (fun kq v3 v8 w' => ∃ (x3_1 : Int) (x8_1 : Int), v3 = .int .i64 x3_1 ∧ v8 = .int .i64 x8_1 ∧ Aside0 (tree_count.l0 kq x3_1 l0 (l0.length : Int) x8_1 = some r) ∧ Aside0 (kq ≤ k) ∧ Aside0 (Below w.heap.size w w'))
 case atStart => exact ⟨(0), (0), (by first | rfl | (simp; done) | (simp [*]; done)), (by first | rfl | (simp; done) | (simp [*]; done)), H', ⟨Nat.le_refl _⟩, ⟨by repeat (first | (with_reducible first | exact HB.out | apply below_alloc | apply pw_below_drewN | apply below_drew1) | exact HB.out)⟩⟩
 case round =>
  clear H'
  obtain ⟨x3_1, x8_1, rfl, rfl, HA, HK1, HB⟩ := hrel
  cases gk with
  | zero => exact absurd HA.out (by simp [tree_count.l0])
  | succ k1 =>
   have H := HA.out
   clear HA
   simp only [tree_count.l0] at H
   by_cases c2 : x8_1 < (l0.length : Int)
   ·rw [if_pos c2] at H
    have c2b0 : decide (x8_1 < (l0.length : Int)) = true := decide_eq_true c2
    clear c2
    by_cases c3 : 0 ≤ x8_1
    ·rw [if_pos c3] at H
     have c3b0 : decide (0 ≤ x8_1) = true := decide_eq_true c3
     clear c3
     by_cases c4 : x8_1 < (l0.length : Int)
     ·rw [if_pos c4] at H
      have c4b0 : decide (x8_1 < (l0.length : Int)) = true := decide_eq_true c4
      clear c4
      have H' := Aside0.mk H
      clear H
      have p101 : 0 ≤ (x8_1 : Int) := of_decide_eq_true (by first | (with_reducible assumption) | assumption)
      have q101 : x8_1 < (l0.length : Int) := of_decide_eq_true (by first | (with_reducible assumption) | assumption)
      obtain ⟨ad101, A101_2, c101_2, e101, hx101_0, hx101_1, hx101_2, hl101_2, hi101_2⟩ := at_T42 HR0.out x8_1 p101 q101
      cases e101
      replace hx101_0 := (HB.out.cell (World.block_lt_of_cell? w _ hx101_0)).trans hx101_0
      replace hx101_1 := (HB.out.cell (World.block_lt_of_cell? w _ hx101_1)).trans hx101_1
      replace hx101_2 := (HB.out.cell (World.block_lt_of_cell? w _ hx101_2)).trans hx101_2
      have HR101_2 := Aside0.mk hi101_2
      have HC101_2 := Aside0.mk hl101_2
      clear hi101_2 hl101_2
      replace p101 := eq_true p101
      replace q101 := eq_true q101
      go_wp2_with (first | ((with_reducible refine gate_dst (N := 5) rfl ?_); refine box_event ?hg (N := 5) ?hd (cs := #[.string (⟨#[]⟩ : ByteArray), .bool false, .slice none 0 0]) (t := 42) ?hr ?_; (case hd => rfl); (case hg => rfl); (case hr => first | (go_simp; done) | (go_simp; rfl)); intro gb102 hg w5 hbox hb; have BK102 := xa_ (hbox); have GW102 := xa_ ((by rw [hg]; exact (below_size (xw_ HB.out)) : w.heap.size ≤ gb102)); have GE102 := xa_ ((by rw [hg]; exact (below_size (xw_ HB.out)) : w.heap.size ≤ gb102)); replace HB := xa_ (below_step (xw_ HB.out) hb); clear hb hbox hg; have hcz6_0 : w5.cell? ⟨gb102, 0, none⟩ = some (.string (⟨#[]⟩ : ByteArray)) := (blk_cell BK102.out 0).trans rfl; have hcz6_1 : w5.cell? ⟨gb102, 1, none⟩ = some (.bool false) := (blk_cell BK102.out 1).trans rfl; have hcz6_2 : w5.cell? ⟨gb102, 2, none⟩ = some (.slice none 0 0) := (blk_cell BK102.out 2).trans rfl; have hfz6_0 := blk_frozen BK102.out 0; have hfz6_1 := blk_frozen BK102.out 1; have hfz6_2 := blk_frozen BK102.out 2))
      go_roundg k1
      case measure => have := HK1.out; omega
      case rel => exact ⟨(wrap64 (x3_1 + (((rd_T42 l0 x8_1).f2).length : Int))), (wrap64 (x8_1 + 1)), (by first | rfl | (simp; done) | (simp [*]; done)), (by first | rfl | (simp; done) | (simp [*]; done)), H', ⟨by have := HK1.out; omega⟩, ⟨by repeat (first | (with_reducible first | exact HB.out | apply below_alloc | apply pw_below_drewN | apply below_drew1 | refine below_set ?_ GE102.out) | exact HB.out)⟩⟩
     ·rw [if_neg c4] at H
      exact absurd H (by simp)
    ·rw [if_neg c3] at H
     exact absurd H (by simp)
   ·rw [if_neg c2] at H
    have c2b0 : decide (x8_1 < (l0.length : Int)) = false := decide_eq_false c2
    clear c2
    obtain rfl := Option.some.inj H
    go_wp2
    go_ret
    exact ⟨by first | rfl | (simp [*, errW_none, errW_some] <;> rfl), by repeat (first | (with_reducible first | exact HB.out | apply below_alloc | apply pw_below_drewN | apply below_drew1) | exact HB.out)⟩
end Go.Proofs.YtidlldfghkaeeaaGreatDoor.P
end
section
namespace Go.Proofs.YtidlldfghkaeeaaGreatDoor.P
open Go.RowKit Go.Proofs.YtidlldfghkaeeaaGreatDoorW.PrintWords Go.Proofs.YtidlldfghkaeeaaGreatDoorW.PrintLast Go.Proofs.YtidlldfghkaeeaaGreatDoorW.PrintMore
theorem infoE : (Tryz.prog.info? 42).map (fun i => (i.zero, i.size, i.bytes)) = some (some (.agg #[.string ⟨#[]⟩, .bool false, .slice none 0 0]), 3, 48) := by kernel_rfl
theorem sizeE : (Tryz.prog.info? 42).map (·.size) = some 3 := by kernel_rfl
def Rw (r : List Value) : Prop := r.length = 3 ∧ ∀ u ∈ r, u.oneCell' = true
theorem flat_len : ∀ {rows : List (List Value)}, (∀ r ∈ rows, r.length = 3) → rows.flatten.length = rows.length * 3
 | [], _ => rfl
 | r :: rows, h => by
  have h1 := h r List.mem_cons_self
  have h2 := flat_len (rows := rows) fun x hx => h x (List.mem_cons_of_mem _ hx)
  rw [List.flatten_cons, List.length_append, h1, h2, List.length_cons]
  omega
theorem flat_take : ∀ {rows : List (List Value)} (i : Nat), (∀ r ∈ rows, r.length = 3) → rows.flatten.take (i * 3) = (rows.take i).flatten
 | rows, 0, _ => by simp
 | [], i + 1, _ => by simp
 | r :: rows, i + 1, h => by
  have h1 := h r List.mem_cons_self
  rw [List.flatten_cons, List.take_succ_cons, List.flatten_cons, List.take_append, List.take_of_length_le (by omega), show (i + 1) * 3 - r.length = i * 3 by omega, flat_take i fun x hx => h x (List.mem_cons_of_mem _ hx)]
theorem flat_drop : ∀ {rows : List (List Value)} (i : Nat), (∀ r ∈ rows, r.length = 3) → rows.flatten.drop (i * 3) = (rows.drop i).flatten
 | rows, 0, _ => by simp
 | [], i + 1, _ => by simp
 | r :: rows, i + 1, h => by
  have h1 := h r List.mem_cons_self
  rw [List.flatten_cons, List.drop_succ_cons, List.drop_append, List.drop_eq_nil_of_le (by omega), List.nil_append, show (i + 1) * 3 - r.length = i * 3 by omega, flat_drop i fun x hx => h x (List.mem_cons_of_mem _ hx)]
theorem reps_flat : ∀ {rows : List (List Value)} {inner : List Value}, Reps (fun x cs => cs = x ∧ cs.length = 3 ∧ ∀ u ∈ cs, u.oneCell' = true) 3 rows inner → inner = rows.flatten ∧ ∀ r ∈ rows, Rw r
 | [], inner, h => by
  have := h.1
  rw [List.length_nil, Nat.zero_mul] at this
  exact ⟨List.length_eq_zero_iff.1 this, by simp⟩
 | r :: rows, inner, h => by
  have h0 := h.2 0 r rfl
  rw [Nat.zero_mul, List.drop_zero] at h0
  have h1 : Reps (fun x cs => cs = x ∧ cs.length = 3 ∧ ∀ u ∈ cs, u.oneCell' = true) 3 rows (inner.drop 3) := by
   refine ⟨by rw [List.length_drop, h.1, List.length_cons]; omega, fun j p hj => ?_⟩
   have := h.2 (j + 1) p (by simpa using hj)
   rwa [show (j + 1) * 3 = 3 + j * 3 by omega, ← List.drop_drop] at this
  obtain ⟨e, hr⟩ := reps_flat h1
  refine ⟨?_, fun x hx => ?_⟩
  ·rw [List.flatten_cons, ← e, ← h0.1, List.take_append_drop]
  ·rcases List.mem_cons.1 hx with rfl | hx
   ·exact ⟨by rw [← h0.1]; exact h0.2.1, by rw [← h0.1]; exact h0.2.2⟩
   ·exact hr x hx
theorem flat_reps {rows : List (List Value)} (h : ∀ r ∈ rows, Rw r) : Reps (fun x cs => cs = x ∧ cs.length = 3 ∧ ∀ u ∈ cs, u.oneCell' = true) 3 rows rows.flatten := by
 have h3 : ∀ r ∈ rows, r.length = 3 := fun r hr => (h r hr).1
 refine ⟨flat_len h3, fun j p hj => ?_⟩
 obtain ⟨hl, hp⟩ := List.getElem?_eq_some_iff.1 hj
 have hm : p ∈ rows := hp ▸ List.getElem_mem hl
 have hpw := h p hm
 have e : (rows.flatten.drop (j * 3)).take 3 = p := by
  rw [flat_drop j h3, List.drop_eq_getElem_cons hl, hp, List.flatten_cons, List.take_append, List.take_of_length_le (by rw [hpw.1]; exact Nat.le_refl _), hpw.1]
  simp
 rw [e]
 exact ⟨rfl, hpw⟩
structure NB (W : World) (base : Nat) (ok : Nat → Prop) (g n cap : Nat) (rows : List (List Value)) (tail : List Value) (xs : List S42) : Prop where
 hb : W.heap[g]? = some (.cells (rows.flatten ++ tail).toArray 42 (0, 0))
 hg : base ≤ g
 hok : ok g
 hn : n = xs.length
 hc : n ≤ cap
 hm : cap ≤ maxLen
 hl : rows.length = n
 hw : ∀ r ∈ rows, Rw r
 ht : tail.length = (cap - n) * 3
 hf : ∀ (j : Nat) (x : S42) (c : List Value), xs[j]? = some x → rows[j]? = some c → Kd.FK k42 W (fun k => ok k ∧ k ≠ g) x c
theorem N_NB {W : World} {base : Nat} {ok : Nat → Prop} {g n cap : Nat} {xs : List S42} (h : Kd.N k42 42 W base ok (.slice (some ⟨g, 0, none⟩) n cap) xs) : ∃ rows tail, NB W base ok g n cap rows tail xs := by
 have hn := (Kd.N_reads' h).1
 obtain ⟨h0, rows, hl, hR, hf⟩ := h
 obtain ⟨_, inner, ⟨hil, hv⟩, hr⟩ := hR
 obtain ⟨e, hw⟩ := reps_flat hr
 rcases hv with ⟨hv, _⟩ | ⟨g', cap', cur, hv, hB, hb, h1, h2, h3, h4⟩
 ·cases hv
 ·injection hv with hg _ hc
  injection hg with hg
  injection hg with hg
  subst hg
  subst hc
  refine ⟨rows, cur.toList.drop (rows.length * 3), ?_, hB, h0 _ rfl, hn, by omega, h2, by omega, hw, ?_, fun j x c hx hc => Kd.FK_mono (hf j x c hx hc) fun k hk => ⟨hk.1, fun e => hk.2 (by rw [e]; rfl)⟩⟩
  ·rw [← e, ← h4]
   have : cur.toList.take (rows.length * (Kd.raw k42.sz).sz) ++ cur.toList.drop (rows.length * 3) = cur.toList := List.take_append_drop _ _
   rw [this]
   exact hb
  ·have : cur.size = cap * 3 := h3
   rw [List.length_drop, Array.length_toList, this]
   omega
theorem NB_N {W : World} {base : Nat} {ok : Nat → Prop} {g n cap : Nat} {rows : List (List Value)} {tail : List Value} {xs : List S42} (h : NB W base ok g n cap rows tail xs) : Kd.N k42 42 W base ok (.slice (some ⟨g, 0, none⟩) n cap) xs := by
 have h3 : ∀ r ∈ rows, r.length = 3 := fun r hr => (h.hw r hr).1
 have hfl := flat_len h3
 have hl := h.hl
 have hc := h.hc
 refine ⟨fun k hk => ?_, rows, by rw [h.hl, h.hn], ⟨fun k hk => hk.symm, rows.flatten, ⟨hfl, .inr ⟨g, cap, _, by rw [h.hl], h.hg, h.hb, by omega, h.hm, ?_, ?_⟩⟩, flat_reps h.hw⟩, fun j x c hx hc => Kd.FK_mono (h.hf j x c hx hc) fun k hk => ⟨hk.1, fun e => hk.2 ?_⟩⟩
 ·have : k = g := by simpa [Value.ownBlock] using hk.symm
  rw [this]
  exact h.hok
 ·rw [List.size_toArray, List.length_append, hfl, h.ht, hl]
  show n * 3 + (cap - n) * 3 = cap * 3
  omega
 ·show (rows.flatten ++ tail).take (rows.length * 3) = rows.flatten
  rw [← hfl]
  exact List.take_left
 ·have : g = k := by simpa [Value.ownBlock] using e.symm
  exact this.symm
theorem run_copy3 (w : World) (ty : TypeId) (g o dLen dCap : Nat) (a : Addr) (sLen sCap : Nat) (cur : Array Value) (cs : List Value)
  (hg : w.heap[g]? = some (.cells cur 42 (0, 0))) (hn : cs.length = Nat.min sLen dLen * 3)
  (hsrc : ∀ j v, cs[j]? = some v → w.cell? (a.add j) = some v) (hfit : o + cs.length ≤ cur.size) (h1 : ∀ v ∈ cs, v.oneCell' = true) :
  (Builtin.copy_ #[24, 24] ty #[.slice (some ⟨g, o, none⟩) dLen dCap, .slice (some a) sLen sCap]).run Tryz.prog w =
   .ok (goInt (Nat.min sLen dLen)) (w.setRow g (cur.toList.take o ++ cs ++ cur.toList.drop (o + cs.length)).toArray) := by
 have hl := run_loadCells_list (P := Tryz.prog) w a cs hsrc
 have hst := run_storeCells_at Tryz.prog g o 42 cs 0 cur w hg (by simpa using hfit) h1
 have hs := sizeE
 cases hq : Tryz.prog.info? 42 with
 | none => simp [hq] at hs
 | some i =>
  have hi : i.size = 3 := by simpa [hq] using hs
  simp [Builtin.copy_, run_underlying Tryz.underlying24, Builtin.lenOf, Builtin.firstCells, sizeOf, typeInfo, hq, hi, ← hn, hl, hst]
theorem run_low (W : World) (g n c m : Nat) (hm : m < c) (hn : m ≤ n) : (Instr.slice 24 (.slice (some ⟨g, 0, none⟩) n c) (some (.int .i64 (m : Int))) none none).run Tryz.prog W = .ok (.slice (some ⟨g, m * 3, none⟩) (n - m) (c - m)) W := by
 have hs := sizeE
 cases hq : Tryz.prog.info? 42 with
 | none => simp [hq] at hs
 | some i =>
  have hi : i.size = 3 := by simpa [hq] using hs
  have hel : Tryz.prog.elem 24 = 42 := by simp [Program.elem, Tryz.underlying24]
  have hu : Tryz.prog.underlying 24 = some (.slice (Tryz.prog.elem 24)) := by rw [hel]; exact Tryz.underlying24
  rw [run_slice_l W 24 _ n c hu .i64 (m : Int) (Int.natCast_nonneg _) (by omega), hel]
  simp [sizeOf, typeInfo, hq, hi, sliced, Result.andThen, show ¬ c = m by omega, add_at]
theorem run_high (W : World) (A : Option Addr) (n c m : Nat) (hm : m ≤ c) : (Instr.slice 24 (.slice A n c) none (some (.int .i64 (m : Int))) none).run Tryz.prog W = .ok (.slice A m c) W := by
 have hs := sizeE
 cases hq : Tryz.prog.info? 42 with
 | none => simp [hq] at hs
 | some i =>
  have hi : i.size = 3 := by simpa [hq] using hs
  have hel : Tryz.prog.elem 24 = 42 := by simp [Program.elem, Tryz.underlying24]
  have hu : Tryz.prog.underlying 24 = some (.slice (Tryz.prog.elem 24)) := by rw [hel]; exact Tryz.underlying24
  rw [run_slice_h W 24 A n c hu .i64 (m : Int) (by omega) (by omega), hel]
  have h0 : (fun x : Addr => x.add 0) = id := funext fun x => by simp [Addr.add]
  simp [sizeOf, typeInfo, hq, hi, sliced, Result.andThen, h0]
theorem ks : Go.Maps.Keyed Tryz.prog 9 := Go.Maps.string_keyed Tryz.underlying9
def MapIs (W : World) (b n : Nat) (g : ByteArray → Bool) : Prop := ∃ D : DataW Unit, W.ownsMap Tryz.prog 9 (plainElem Tryz.prog 4) b n D ∧ ∀ s : ByteArray, D.atKey (.string s.data.toList) (.lit (.bool false)) = .lit (.bool (g s))
theorem MapIs.keep {W W' : World} {b n : Nat} {g : ByteArray → Bool} (h : MapIs W b n g) (hk : W'.heap[b]? = W.heap[b]?) : MapIs W' b n g := by
 obtain ⟨D, ⟨es, clock, hb, F, hs, hD⟩, h2⟩ := h
 exact ⟨D, ⟨es, clock, hk.trans hb, F, hs, hD⟩, h2⟩
theorem MapIs.lt {W : World} {b n : Nat} {g : ByteArray → Bool} (h : MapIs W b n g) : b < W.heap.size := by
 obtain ⟨D, h1, _⟩ := h
 exact h1.lt
theorem MapIs.below {W W' : World} {b n : Nat} {g : ByteArray → Bool} (h : MapIs W b n g) (hb : Below W.heap.size W W') : MapIs W' b n g := h.keep (hb.block b h.lt)
theorem MapIs.made (W : World) : MapIs (W.alloc (.map #[] 0)) W.heap.size 0 (fun _ => false) := ⟨_, World.ownsMap_made W _ _ _, fun s => rfl⟩
theorem MapIs.congr {W : World} {b n : Nat} {g g' : ByteArray → Bool} (h : MapIs W b n g) (hg : ∀ s, g s = g' s) : MapIs W b n g' := by
 obtain ⟨D, h1, h2⟩ := h
 exact ⟨D, h1, fun s => by rw [h2, hg]⟩
theorem MapIs.look {W : World} {b n : Nat} {g : ByteArray → Bool} (h : MapIs W b n g) {s : ByteArray} (hs : s.size ≤ maxLen) : (Instr.lookup 102 (.map (some b)) (.string s) false).run Tryz.prog W = .ok (.bool (g s)) W := by
 obtain ⟨D, h1, h2⟩ := h
 have hz : (zeroValue 4).run Tryz.prog W = .ok (.bool false) W := by
  have h4 : (Tryz.prog.info? 4).map (·.zero) = some (some (.bool false)) := by kernel_rfl
  cases hq : Tryz.prog.info? 4 with
  | none => simp [hq] at h4
  | some i =>
   have hi : i.zero = some (.bool false) := by simpa [hq] using h4
   simp [zeroValue, typeInfo, hq, hi]
 obtain ⟨v, ps, hrun, hv⟩ := h1.lookup ks Tryz.underlying102 hz (plainElem_bool Tryz.underlying4 false) (Go.WideMaps.keyOf_string_mk Tryz.underlying9 hs)
 rw [h2] at hv
 rw [hrun]
 have hu := Tryz.underlying4
 cases v <;> simp [plainElem, hu] at hv
 rw [hv.1]
theorem MapIs.update {W : World} {b n : Nat} {g : ByteArray → Bool} (h : MapIs W b n g) {s : ByteArray} (hs : s.size ≤ maxLen) (hn : n < maxLen) (x : Bool) : ∃ W', (Instr.mapUpdate 102 (.map (some b)) (.string s) (.bool x)).run Tryz.prog W = .ok () W' ∧ MapIs W' b (n + 1) (fun z => if z = s then x else g z) ∧ W.grownBy W' (some b) := by
 obtain ⟨D, h1, h2⟩ := h
 obtain ⟨W', hrun, hown, hg⟩ := h1.update ks Tryz.underlying102 hn (Go.WideMaps.keyOf_string_mk Tryz.underlying9 hs) (plainElem_bool Tryz.underlying4 x)
 refine ⟨W', hrun, ⟨_, hown, fun z => ?_⟩, hg⟩
 have hm : Go.Maps.IsMap D := by
  obtain ⟨es, clock, _, _, _, rfl⟩ := h1
  exact ⟨_, rfl⟩
 by_cases hz : z = s
 ·subst hz
  show _ = DataW.lit (Lit.bool (if z = z then x else g z))
  rw [if_pos rfl]
  exact Go.Maps.atKey_put_same (k := .string z.data.toList) hm (show Go.WideAt.IsKeyLit (.string z.data.toList) from trivial) _ _
 ·show _ = DataW.lit (Lit.bool (if z = s then x else g z))
  have hne : (Lit.string z.data.toList) ≠ .string s.data.toList := by
   intro e
   injection e with e
   exact hz (ByteArray.ext (Array.toList_inj.1 e))
  rw [if_neg hz, Go.Maps.atKey_put_other hne, h2]
section
variable {ops : Array Oper} {op : Oper} {rest : List Oper} {a : Act} {Q : Exit → Act → World → Prop}
theorem insert_dir {W : World} {b n : Nat} {g : ByteArray → Bool} (h : MapIs W b n g) (hgd : op.guard = none) (m x v : Operand) (hop : op.op = Op.insert 102 m x v) {s : ByteArray} {y : Bool} (hm : a.eval m = .map (some b)) (hx : a.eval x = .string s) (hv : a.eval v = .bool y) (hs : s.size ≤ maxLen) (hn : n < maxLen)
  (hK : ∀ W', MapIs W' b (n + 1) (fun z => if z = s then y else g z) → W.grownBy W' (some b) → wpList Tryz.prog ops Q rest (a.put op.dst undef) W') : wpList Tryz.prog ops Q (op :: rest) a W := by
 refine wpList_plain hgd fun K' hK' => ?_
 obtain ⟨W', hrun, r1, r2⟩ := h.update hs hn y
 unfold Oper.wp
 simp [execOp, hop, hm, hx, hv, hrun, Result.andThen]
 exact hK' _ _ (hK W' r1 r2)
theorem update_dir {W : World} {b n : Nat} {g : ByteArray → Bool} (h : MapIs W b n g) (hgd : op.guard = none) (m x v : Operand) (hop : op.op = Op.mapUpdate 102 m x v) {s : ByteArray} {y : Bool} (hm : a.eval m = .map (some b)) (hx : a.eval x = .string s) (hv : a.eval v = .bool y) (hs : s.size ≤ maxLen) (hn : n < maxLen)
  (hK : ∀ W', MapIs W' b (n + 1) (fun z => if z = s then y else g z) → W.grownBy W' (some b) → wpList Tryz.prog ops Q rest (a.put op.dst undef) W') : wpList Tryz.prog ops Q (op :: rest) a W := by
 refine wpList_plain hgd fun K' hK' => ?_
 obtain ⟨W', hrun, r1, r2⟩ := h.update hs hn y
 unfold Oper.wp
 simp [execOp, hop, hm, hx, hv, hrun, Result.andThen]
 exact hK' _ _ (hK W' r1 r2)
end
end Go.Proofs.YtidlldfghkaeeaaGreatDoor.P
end
section
namespace Go.Proofs.YtidlldfghkaeeaaGreatDoor.P
open Go.RowKit
def ltP (a b : ByteArray) : Prop := cL (sp a.data.toList) (sp b.data.toList) < 0
instance (a b : ByteArray) : Decidable (ltP a b) := by unfold ltP; exact inferInstance
theorem ltP_irr (a : ByteArray) : ¬ ltP a a := by
 unfold ltP
 rw [cL_eq.2 rfl]
 omega
theorem ltP_trans {a b c : ByteArray} (h1 : ltP a b) (h2 : ltP b c) : ltP a c := cL_ntrans h1 h2
theorem ltP_asym {a b : ByteArray} (h1 : ltP a b) : ¬ ltP b a := fun h2 => ltP_irr a (ltP_trans h1 h2)
theorem ltP_tri (a b : ByteArray) : ltP a b ∨ a = b ∨ ltP b a := by
 unfold ltP
 rw [cL_anti (sp a.data.toList) (sp b.data.toList)]
 by_cases h : cL (sp a.data.toList) (sp b.data.toList) = 0
 ·exact .inr (.inl (ByteArray.ext (Array.toList_inj.1 (sp_inj (cL_eq.1 h)))))
 ·omega
theorem ltP_ne {a b : ByteArray} (h : ltP a b) : a ≠ b := fun e => ltP_irr b (e ▸ h)
section
variable {α : Type} (key : α → ByteArray)
def Srt (l : List α) : Prop := l.Pairwise fun a b => ltP (key a) (key b)
def lowB (p : ByteArray) : List α → Nat
 | [] => 0
 | x :: l => if ltP (key x) p then lowB p l + 1 else 0
variable {key}
theorem lowB_le (p : ByteArray) : ∀ l : List α, lowB key p l ≤ l.length
 | [] => Nat.le_refl _
 | x :: l => by
  unfold lowB
  have := lowB_le p l
  split
  ·rw [List.length_cons]; omega
  ·omega
theorem lowB_lt {p : ByteArray} : ∀ {l : List α} {i : Nat} (h : i < lowB key p l) (hi : i < l.length), ltP (key l[i]) p
 | x :: l, i, h, hi => by
  unfold lowB at h
  split at h
  ·rename_i hx
   cases i with
   | zero => exact hx
   | succ i => exact lowB_lt (l := l) (by omega) _
  ·omega
theorem lowB_ge {p : ByteArray} : ∀ {l : List α} {i : Nat} (hs : Srt key l) (h : lowB key p l ≤ i) (hi : i < l.length), ¬ ltP (key l[i]) p
 | x :: l, i, hs, h, hi => by
  unfold lowB at h
  have h1 := List.pairwise_cons.1 hs
  split at h
  ·rename_i hx
   cases i with
   | zero => omega
   | succ i => exact lowB_ge (l := l) h1.2 (by omega) _
  ·rename_i hx
   cases i with
   | zero => exact hx
   | succ i => exact fun hc => hx (ltP_trans (h1.1 _ (List.getElem_mem _)) hc)
theorem lowB_uniq {p : ByteArray} {l : List α} {i : Nat} (hs : Srt key l) (hl : i ≤ l.length) (h1 : ∀ j (hj : j < l.length), j < i → ltP (key l[j]) p) (h2 : ∀ j (hj : j < l.length), i ≤ j → ¬ ltP (key l[j]) p) : i = lowB key p l := by
 have hb := lowB_le (key := key) p l
 rcases Nat.lt_trichotomy i (lowB key p l) with h | h | h
 ·exact absurd (lowB_lt h (by omega)) (h2 i (by omega) (Nat.le_refl _))
 ·exact h
 ·exact absurd (h1 _ (by omega) h) (lowB_ge hs (Nat.le_refl _) (by omega))
theorem lowB_at {p : ByteArray} {l : List α} (hs : Srt key l) : (∃ h : lowB key p l < l.length, key l[lowB key p l] = p) ↔ ∃ e ∈ l, key e = p := by
 constructor
 ·rintro ⟨h, e⟩
  exact ⟨_, List.getElem_mem h, e⟩
 ·rintro ⟨e, he, hk⟩
  obtain ⟨j, hj, rfl⟩ := List.mem_iff_getElem.1 he
  have h0 : ¬ j < lowB key p l := fun h => ltP_irr p (hk ▸ lowB_lt h hj)
  have h1 : lowB key p l < l.length := by omega
  refine ⟨h1, ?_⟩
  rcases Nat.lt_or_ge (lowB key p l) j with h2 | h2
  ·have h3 := List.pairwise_iff_getElem.1 hs _ _ h1 hj h2
   rw [hk] at h3
   exact absurd h3 (lowB_ge hs (Nat.le_refl _) h1)
  ·obtain rfl : j = lowB key p l := by omega
   exact hk
theorem srt_key {l : List α} (hs : Srt key l) {a b : α} (ha : a ∈ l) (hb : b ∈ l) (h : key a = key b) : a = b := by
 obtain ⟨i, hi, rfl⟩ := List.mem_iff_getElem.1 ha
 obtain ⟨j, hj, rfl⟩ := List.mem_iff_getElem.1 hb
 rcases Nat.lt_trichotomy i j with h1 | h1 | h1
 ·exact absurd h (ltP_ne (List.pairwise_iff_getElem.1 hs _ _ hi hj h1))
 ·subst h1; rfl
 ·exact absurd h.symm (ltP_ne (List.pairwise_iff_getElem.1 hs _ _ hj hi h1))
theorem srt_ext {l1 l2 : List α} (h1 : Srt key l1) (h2 : Srt key l2) (hm : ∀ x, x ∈ l1 ↔ x ∈ l2) : l1 = l2 := by
 have n1 : l1.Nodup := h1.imp fun {a b} h (e : a = b) => ltP_irr (key b) (by rw [e] at h; exact h)
 have n2 : l2.Nodup := h2.imp fun {a b} h (e : a = b) => ltP_irr (key b) (by rw [e] at h; exact h)
 exact List.Perm.eq_of_pairwise (le := fun a b => ltP (key a) (key b)) (fun _ _ _ _ h1 h2 => absurd h2 (ltP_asym h1)) h1 h2 ((List.perm_ext_iff_of_nodup n1 n2).2 hm)
variable (key)
def insE (e : α) : List α → List α
 | [] => [e]
 | x :: l => if ltP (key x) (key e) then x :: insE e l else if key x = key e then e :: l else e :: x :: l
def delE (p : ByteArray) (l : List α) : List α := l.filter fun e => decide (key e ≠ p)
variable {key}
theorem insE_set {e : α} : ∀ {l : List α} {i : Nat} (h : i = lowB key (key e) l) (hi : i < l.length) (hk : key l[i] = key e), l.set i e = insE key e l
 | x :: l, i, h, hi, hk => by
  unfold lowB at h
  unfold insE
  split at h
  ·rename_i hx
   subst h
   rw [if_pos hx, List.set_cons_succ]
   rw [insE_set (l := l) rfl (by simpa using hi) (by simpa using hk)]
  ·rename_i hx
   subst h
   rw [if_neg hx, if_pos (show key x = key e from hk)]
   rfl
theorem insE_new {e : α} : ∀ {l : List α} {i : Nat} (h : i = lowB key (key e) l) (hk : ∀ hi : i < l.length, key l[i] ≠ key e), l.take i ++ e :: l.drop i = insE key e l
 | [], i, h, hk => by
  simp [insE]
 | x :: l, i, h, hk => by
  unfold lowB at h
  unfold insE
  split at h
  ·rename_i hx
   subst h
   rw [if_pos hx, List.take_succ_cons, List.drop_succ_cons, List.cons_append]
   rw [insE_new (l := l) rfl (fun hi => hk (Nat.succ_lt_succ hi))]
  ·rename_i hx
   subst h
   rw [if_neg hx, if_neg (show ¬ key x = key e from hk (Nat.succ_pos _))]
   rfl
theorem insE_mem {e y : α} : ∀ {l : List α} (hs : Srt key l), y ∈ insE key e l ↔ y = e ∨ (y ∈ l ∧ key y ≠ key e)
 | [], _ => by simp [insE]
 | x :: l, hs => by
  have h1 := List.pairwise_cons.1 hs
  have ih := insE_mem (e := e) (y := y) h1.2
  unfold insE
  split
  ·rename_i hx
   rw [List.mem_cons, ih, List.mem_cons]
   constructor
   ·rintro (rfl | h | h)
    ·exact .inr ⟨.inl rfl, ltP_ne hx⟩
    ·exact .inl h
    ·exact .inr ⟨.inr h.1, h.2⟩
   ·rintro (h | ⟨rfl | h, h2⟩)
    ·exact .inr (.inl h)
    ·exact .inl rfl
    ·exact .inr (.inr ⟨h, h2⟩)
  ·rename_i hx
   split
   ·rename_i hk
    rw [List.mem_cons, List.mem_cons]
    constructor
    ·rintro (h | h)
     ·exact .inl h
     ·exact .inr ⟨.inr h, fun e2 => ltP_ne (h1.1 y h) (hk.trans e2.symm)⟩
    ·rintro (h | ⟨rfl | h, h2⟩)
     ·exact .inl h
     ·exact absurd hk h2
     ·exact .inr h
   ·rename_i hk
    rw [List.mem_cons, List.mem_cons]
    have hlt : ltP (key e) (key x) := by
     rcases ltP_tri (key x) (key e) with h | h | h
     ·exact absurd h hx
     ·exact absurd h hk
     ·exact h
    constructor
    ·rintro (h | rfl | h)
     ·exact .inl h
     ·exact .inr ⟨.inl rfl, hk⟩
     ·exact .inr ⟨.inr h, fun e2 => ltP_irr (key e) (by have h3 := ltP_trans hlt (h1.1 y h); rwa [e2] at h3)⟩
    ·rintro (h | ⟨h, h2⟩)
     ·exact .inl h
     ·exact .inr h
theorem insE_srt {e : α} : ∀ {l : List α} (hs : Srt key l), Srt key (insE key e l)
 | [], _ => by
  unfold insE
  exact List.pairwise_singleton _ _
 | x :: l, hs => by
  have h1 := List.pairwise_cons.1 hs
  unfold insE
  split
  ·rename_i hx
   refine List.pairwise_cons.2 ⟨fun y hy => ?_, insE_srt h1.2⟩
   rcases (insE_mem h1.2).1 hy with rfl | hy
   ·exact hx
   ·exact h1.1 y hy.1
  ·rename_i hx
   split
   ·rename_i hk
    exact List.pairwise_cons.2 ⟨fun y hy => by rw [← hk]; exact h1.1 y hy, h1.2⟩
   ·rename_i hk
    have hlt : ltP (key e) (key x) := by
     rcases ltP_tri (key x) (key e) with h | h | h
     ·exact absurd h hx
     ·exact absurd h hk
     ·exact h
    refine List.pairwise_cons.2 ⟨fun y hy => ?_, hs⟩
    rcases List.mem_cons.1 hy with rfl | hy
    ·exact hlt
    ·exact ltP_trans hlt (h1.1 y hy)
theorem delE_mem {p : ByteArray} {l : List α} {y : α} : y ∈ delE key p l ↔ y ∈ l ∧ key y ≠ p := by
 unfold delE
 rw [List.mem_filter, decide_eq_true_eq]
theorem delE_srt {p : ByteArray} {l : List α} (hs : Srt key l) : Srt key (delE key p l) := hs.sublist List.filter_sublist
theorem delE_none {p : ByteArray} {l : List α} (h : ∀ y ∈ l, key y ≠ p) : delE key p l = l := List.filter_eq_self.2 fun y hy => decide_eq_true (h y hy)
theorem erase_del {p : ByteArray} {l : List α} {i : Nat} (hs : Srt key l) (hi : i < l.length) (hk : key l[i] = p) : l.take i ++ l.drop (i + 1) = delE key p l := by
 refine srt_ext (key := key) ?_ (delE_srt hs) fun y => ?_
 ·refine hs.sublist ?_
  conv => rhs; rw [← List.take_append_drop i l]
  exact List.Sublist.append (List.Sublist.refl _) (by rw [show i + 1 = i + 1 from rfl, ← List.drop_drop]; exact List.drop_sublist _ _)
 ·rw [delE_mem]
  have hl : l = l.take i ++ l[i] :: l.drop (i + 1) := by rw [← List.drop_eq_getElem_cons hi, List.take_append_drop]
  have hp := List.pairwise_append.1 (hl ▸ hs : Srt key (l.take i ++ l[i] :: l.drop (i + 1)))
  have hp2 := List.pairwise_cons.1 hp.2.1
  constructor
  ·intro h
   rcases List.mem_append.1 h with h | h
   ·exact ⟨List.mem_of_mem_take h, fun e => ltP_irr p (by have := hp.2.2 y h _ List.mem_cons_self; rwa [e, hk] at this)⟩
   ·exact ⟨List.mem_of_mem_drop h, fun e => ltP_irr p (by have := hp2.1 y h; rwa [e, hk] at this)⟩
  ·rintro ⟨h, h2⟩
   rw [hl] at h
   rcases List.mem_append.1 h with h | h
   ·exact List.mem_append_left _ h
   ·rcases List.mem_cons.1 h with h | h
    ·exact absurd (h ▸ hk) h2
    ·exact List.mem_append_right _ h
end
theorem bext' {a b : ByteArray} (h : a.data.toList = b.data.toList) : a = b := ByteArray.ext (Array.toList_inj.1 h)
theorem jn_snoc : ∀ (xs : List (List UInt8)) (y : List UInt8), xs ≠ [] → jn (xs ++ [y]) = jn xs ++ 47 :: y
 | [], _, h => absurd rfl h
 | [x], y, _ => rfl
 | x :: z :: xs, y, _ => by
  have := jn_snoc (z :: xs) y (by simp)
  rw [List.cons_append] at this
  rw [List.cons_append, List.cons_append, jn, jn, this]
  simp
def upL (p : List UInt8) : List UInt8 := jn (sp p).dropLast
def upB (p : ByteArray) : ByteArray := ⟨(upL p.data.toList).toArray⟩
theorem upB_data (p : ByteArray) : (upB p).data.toList = upL p.data.toList := rfl
theorem sp_jn : ∀ (xs : List (List UInt8)), xs ≠ [] → (∀ x ∈ xs, 47 ∉ x) → sp (jn xs) = xs
 | [], h, _ => absurd rfl h
 | [x], _, h => sp_none x (h x List.mem_cons_self)
 | x :: y :: xs, _, h => by
  rw [jn, sp_app, sp_jn (y :: xs) (by simp) (fun z hz => h z (List.mem_cons_of_mem _ hz)), sp_none x (h x List.mem_cons_self)]
  rfl
theorem upL_one {p : List UInt8} (h : 47 ∉ p) : upL p = [] := by
 unfold upL
 rw [sp_none p h]
 rfl
theorem upL_more {u x : List UInt8} (h : 47 ∉ x) : upL (u ++ 47 :: x) = u := by
 unfold upL
 rw [sp_app, sp_none x h, List.dropLast_concat, jn_sp]
theorem up_cases {p : List UInt8} (hg : Gd p) : (upL p = [] ∧ 47 ∉ p ∧ p ≠ []) ∨ ∃ x, 47 ∉ x ∧ x ≠ [] ∧ p = upL p ++ 47 :: x ∧ sp p = sp (upL p) ++ [x] ∧ upL p ≠ [] ∧ Gd (upL p) := by
 have hs : ∀ x ∈ sp p, 47 ∉ x := fun x hx => sp_mem p x hx
 have hne := sp_ne p
 obtain ⟨ys, y, e⟩ : ∃ ys y, sp p = ys ++ [y] := ⟨_, _, (List.dropLast_concat_getLast hne).symm⟩
 have hup : upL p = jn ys := by
  unfold upL
  rw [e, List.dropLast_concat]
 have hy := hg.2 y (by rw [e]; simp)
 cases ys with
 | nil =>
  refine .inl ⟨hup, ?_, ?_⟩
  ·have h1 := hs y (by rw [e]; simp)
   have h2 : p = y := by rw [← jn_sp p, e]; rfl
   rwa [h2]
  ·rintro rfl
   have h2 : ([] : List UInt8) ∈ sp [] := by simp [sp]
   exact (hg.2 _ h2).1 rfl
 | cons z zs =>
  have hsu : sp (upL p) = z :: zs := by
   rw [hup]
   exact sp_jn _ (by simp) fun x hx => hs x (by rw [e]; exact List.mem_append_left _ hx)
  refine .inr ⟨y, hs y (by rw [e]; simp), hy.1, ?_, by rw [hsu, e], ?_, ?_⟩
  ·rw [hup, ← jn_snoc _ _ (by simp), ← e, jn_sp]
  ·intro h0
   rw [h0] at hsu
   have : z = [] := by
    have h3 : sp [] = [[]] := rfl
    rw [h3] at hsu
    injection hsu with h4 _
    exact h4.symm
   exact (hg.2 z (by rw [e]; simp)).1 this
  ·refine ⟨?_, fun x hx => hg.2 x ?_⟩
   ·have := hg.1
    rw [e, List.length_append, List.length_singleton] at this
    rw [hsu]
    omega
   ·rw [hsu] at hx
    rw [e]
    exact List.mem_append_left _ hx
theorem jn_len : ∀ xs : List (List UInt8), (∀ x ∈ xs, x.length ≤ 16) → (jn xs).length ≤ 17 * xs.length
 | [], _ => Nat.le_refl _
 | [x], h => by
  have := h x List.mem_cons_self
  simp only [jn, List.length_singleton]
  omega
 | x :: y :: xs, h => by
  have h1 := h x List.mem_cons_self
  have h2 := jn_len (y :: xs) (fun z hz => h z (List.mem_cons_of_mem _ hz))
  simp only [jn, List.length_append, List.length_cons] at h2 ⊢
  omega
theorem gd_len {p : List UInt8} (hg : Gd p) : p.length ≤ 68 := by
 have h := jn_len (sp p) (fun x hx => (hg.2 x hx).2.1)
 rw [jn_sp] at h
 have := hg.1
 omega
theorem up_lt {p : ByteArray} (hg : Gd p.data.toList) : ltP (upB p) p := by
 unfold ltP
 rw [upB_data]
 rcases up_cases hg with ⟨h1, h2, h3⟩ | ⟨x, _, _, _, h2, _⟩
 ·rw [h1, sp_none _ h2]
  have : c1 [] p.data.toList = -1 := by
   refine c1_lt.2 ?_
   cases e : p.data.toList with
   | nil => exact absurd e h3
   | cons a l => rfl
  simp [sp, cL, this]
 ·rw [h2, cL_longer]
  decide
section
variable {α : Type} (pth : α → ByteArray) (dir : α → Bool) (byt : α → List Int)
def nB (l : List α) : Nat := (l.map fun e => (byt e).length).sum
def okE (l : List α) (e : α) : Prop := Gd (pth e).data.toList ∧ (dir e = true → byt e = []) ∧ (byt e).length ≤ 2048 ∧ (upL (pth e).data.toList = [] ∨ ∃ d ∈ l, pth d = upB (pth e) ∧ dir d = true)
def GT (l : List α) : Prop := l.length ≤ 40 ∧ nB byt l ≤ 16384 ∧ Srt pth l ∧ ∀ e ∈ l, okE pth dir byt l e
end
section
variable {α : Type} {pth : α → ByteArray} {dir : α → Bool} {byt : α → List Int}
theorem nB_cons (x : α) (l : List α) : nB byt (x :: l) = (byt x).length + nB byt l := by simp [nB]
theorem nB_filter (f : α → Bool) (l : List α) : nB byt (l.filter f) ≤ nB byt l := by
 induction l with
 | nil => exact Nat.le_refl _
 | cons x l ih =>
  rw [List.filter_cons]
  split
  ·rw [nB_cons, nB_cons]; omega
  ·rw [nB_cons]; omega
theorem GT_nil : GT pth dir byt ([] : List α) := ⟨by simp, by simp [nB], List.Pairwise.nil, by simp⟩
def room (pth : α → ByteArray) (dir : α → Bool) (l : List α) (p : ByteArray) : Int :=
 if upL p.data.toList = [] then 0 else match l.find? (fun e => decide (pth e = upB p)) with
  | none => 1
  | some d => if dir d = true then 0 else 4
end
end Go.Proofs.YtidlldfghkaeeaaGreatDoor.P
end
