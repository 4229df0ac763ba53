/- Put together by pack2.py: PfTallymanref7Without, PfTallymanref7Move -/
import Derived.Test.YtidlldfghkaeeaaGreatDoorZyRefNamesEtc
import Derived.Test.YtidlldfghkaeeaaGreatDoorZyPfTallymanref7InsideEtc
import Derived.Test.YtidlldfghkaeeaaGreatDoorZyPfTallymanref7GoodTree
import Derived.Test.YtidlldfghkaeeaaGreatDoorZyPfTallymanref7MakeEtc
import Derived.Test.YtidlldfghkaeeaaGreatDoorZyW0
set_option linter.unusedVariables false
set_option linter.unusedSimpArgs false
set_option maxHeartbeats 8000000
set_option maxRecDepth 100000
namespace Go.Proofs.YtidlldfghkaeeaaGreatDoor.P
open Go.RowKit Go.Proofs.YtidlldfghkaeeaaGreatDoorW.PrintWords Go.Proofs.YtidlldfghkaeeaaGreatDoorW.PrintLast Go.Proofs.YtidlldfghkaeeaaGreatDoorW.PrintMore
attribute [local go_sem] max2_int min2_int max_two min_two max_three min_three max_four min_four
def tallymanref7_without.l0 : Nat → List (S45) → ByteArray → List (S45) → Int → Option ((List (S45)))
 | 0, _, _, _, _ => none
 | k + 1, x0, x1, x5, x6 => if x6 < (x0.length : Int) then (if 0 ≤ x6 then (if ((rd_T45 x0 x6).f0).toList = x1.toList then (tallymanref7_without.l0 k x0 x1 x5 (wrap64 (x6 + 1))) else (if x5.length < 2932031007402 then (tallymanref7_without.l0 k x0 x1 (x5 ++ [(⟨(rd_T45 x0 x6).f0, (rd_T45 x0 x6).f1, (rd_T45 x0 x6).f2⟩ : S45)]) (wrap64 (x6 + 1))) else (none))) else (none)) else (some x5)
def tallymanref7_without.f (k : Nat) (l0 : List (S45)) (a1 : ByteArray) : Option ((List (S45))) := tallymanref7_without.l0 k l0 a1 ([] : List (S45)) 0
theorem tallymanref7_without.calls (k : Nat) (P0_ : Nat → Prop) (A0 : Option Addr) (c0 : Nat) (l0 : List (S45)) (a1 : ByteArray) (r : List (S45)) (w : World) (hs0 : Kd.V k45 45 w w.heap.size (fun k_ => P0_ k_) (.slice A0 l0.length c0) l0) (h : tallymanref7_without.f k l0 a1 = some r) :
  Calls Tryz.prog 57 #[.slice A0 l0.length c0, .string a1] w fun e w' => ∃ v0_ : Value, e = .returned (v0_) ∧ Kd.N k45 45 w' w.heap.size (fun k_ => (P0_ k_ ∨ w.heap.size ≤ k_)) v0_ r ∧ Below w.heap.size w w' := by
 have hu45 := Tryz.underlying45
 have HO0 := xa_ (show Kd.V k45 45 w w.heap.size (fun k_ => (P0_ k_ ∨ w.heap.size ≤ k_)) (.slice A0 l0.length c0) l0 from Kd.V_mono hs0 (fun k_ hk => .inl hk))
 have HB := xa_ (Below.refl w.heap.size w)
 have H : (tallymanref7_without.l0 k l0 a1 ([] : List (S45)) 0) = some r := h
 clear h
 have H' := Aside0.mk H
 clear H
 go_enter Tryz.func57, Tryz.ntmps57
 go_wp2
 go_loopg [5, 6] k (fun kq v5 v6 w' => ∃ (x5_1 : List (S45)) (x6_1 : Int), v6 = .int .i64 x6_1 ∧ Aside0 (tallymanref7_without.l0 kq l0 a1 x5_1 x6_1 = some r) ∧ Aside0 (kq ≤ k) ∧ Aside0 (Kd.V k45 45 w' w.heap.size (fun k_ => (P0_ k_ ∨ w.heap.size ≤ k_) ∧ some k_ ≠ (v5 : Value).ownBlock) (.slice A0 l0.length c0) l0) ∧ Aside0 (Kd.N k45 45 w' w.heap.size (fun k_ => (P0_ k_ ∨ w.heap.size ≤ k_)) v5 x5_1) ∧ Aside0 (Below w.heap.size w w'))
 case atStart => exact ⟨(([] : List (S45))), (0), (by first | rfl | (simp; done) | (simp [*]; done)), H', ⟨Nat.le_refl _⟩, ⟨by (with_reducible repeat (first | apply Kd.V_alloc | apply Kd.V_drewN | apply Kd.V_drew)); exact Kd.V_mono HO0.out (fun _ hk => ⟨hk, (by simp [Value.ownBlock])⟩)⟩, ⟨by first | exact Kd.S_nil _ _ _ _ _ | exact Kd.N_nil _ _ _ _ _ | exact Kd.V_nil _ _ _ _ _ | exact Kd.Q_nil _ _ _ _ _ | exact Kd.R_nil _ _ _ _ _⟩, ⟨by repeat (first | (with_reducible first | exact HB.out | apply below_alloc | apply pw_below_drewN | apply below_drew1) | exact HB.out)⟩⟩
 case round =>
  clear H'
  try clear p2
  obtain ⟨x5_1, x6_1, rfl, HA, HK1, HO_0, HO_5, HB⟩ := hrel
  cases gk with
  | zero => exact absurd HA.out (by simp [tallymanref7_without.l0])
  | succ k1 =>
   have H := HA.out
   clear HA
   simp only [tallymanref7_without.l0] at H
   by_cases c3 : x6_1 < (l0.length : Int)
   ·rw [if_pos c3] at H
    have c3b0 : decide (x6_1 < (l0.length : Int)) = true := decide_eq_true c3
    clear c3
    by_cases c4 : 0 ≤ x6_1
    ·rw [if_pos c4] at H
     have c4b0 : decide (0 ≤ x6_1) = true := decide_eq_true c4
     clear c4
     by_cases c5 : ((rd_T45 l0 x6_1).f0).toList = a1.toList
     ·rw [if_pos c5] at H
      have c5b0 : (((rd_T45 l0 x6_1).f0).toList == a1.toList) = true := beq_iff_eq.mpr c5
      have c5b1 : (((rd_T45 l0 x6_1).f0).toList != a1.toList) = false := bne_eq_false_iff_eq.mpr c5
      clear c5
      have H' := Aside0.mk H
      clear H
      have p236 : 0 ≤ (x6_1 : Int) := of_decide_eq_true (by first | (with_reducible assumption) | assumption)
      have q236 : x6_1 < (l0.length : Int) := of_decide_eq_true (by first | (with_reducible assumption) | assumption)
      obtain ⟨ad236, A236_2, c236_2, e236, hx236_0, hx236_1, hx236_2, hl236_2, hi236_2⟩ := at_T45 (Kd.V_reads' HO_0.out).2.2 x6_1 p236 q236
      cases e236
      obtain ⟨ce236, hce236, hMe236, hcc236⟩ := Kd.V_get HO_0.out z45 x6_1 p236 (by first | exact q236 | exact of_decide_eq_true (by first | (with_reducible assumption) | assumption) | (have e_ := (Kd.V_reads' HO_0.out).1; omega))
      obtain ⟨ua236_2, uc236_2, rfl, ul236_2, ge236_2⟩ := k45_openF hMe236
      have hv236_2 := hcc236 2 _ rfl
      rw [add_field _ _ 2 (by omega)] at hv236_2
      replace hv236_2 := Option.some.inj (hv236_2.symm.trans hx236_2)
      injection hv236_2 with hva_ hvn_ hvc_
      rw [hva_] at ge236_2
      rw [hvc_] at ul236_2
      have HL236_2 := xa_ (show Kd.V (Kd.int .u8) 5 _ w.heap.size _ _ ((rd_T45 l0 x6_1).f2) from Kd.V_mk ul236_2 ge236_2)
      clear hva_ hvn_ hvc_ ge236_2 ul236_2
      clear hcc236 hce236
      have HR236_2 := Aside0.mk hi236_2
      have HC236_2 := Aside0.mk hl236_2
      clear hi236_2 hl236_2
      replace p236 := eq_true p236
      replace q236 := eq_true q236
      go_wp2
      go_roundg k1
      case measure => have := HK1.out; omega
      case rel => exact ⟨(x5_1), (wrap64 (x6_1 + 1)), (by first | rfl | (simp; done) | (simp [*]; done)), H', ⟨by have := HK1.out; omega⟩, ⟨by (with_reducible repeat (first | apply Kd.V_alloc | apply Kd.V_drewN | apply Kd.V_drew)); exact HO_0.out⟩, ⟨by (with_reducible repeat (first | apply Kd.N_alloc | apply Kd.N_drewN | apply Kd.N_drew)); exact HO_5.out⟩, ⟨by repeat (first | (with_reducible first | exact HB.out | apply below_alloc | apply pw_below_drewN | apply below_drew1) | exact HB.out)⟩⟩
     ·rw [if_neg c5] at H
      have c5b0 : (((rd_T45 l0 x6_1).f0).toList == a1.toList) = false := beq_eq_false_iff_ne.mpr c5
      have c5b1 : (((rd_T45 l0 x6_1).f0).toList != a1.toList) = true := bne_iff_ne.mpr c5
      by_cases c6 : x5_1.length < 2932031007402
      ·rw [if_pos c6] at H
       have LMc6 := Aside0.mk c6
       clear c6
       obtain ⟨y238, hy238⟩ : ∃ y_ : List (S45), y_ = (x5_1 ++ [(⟨(rd_T45 l0 x6_1).f0, (rd_T45 l0 x6_1).f1, (rd_T45 l0 x6_1).f2⟩ : S45)]) := ⟨_, rfl⟩
       replace H : (tallymanref7_without.l0 k1 l0 a1 y238 (wrap64 (x6_1 + 1))) = some r := by first | (rw [hy238]; with_reducible exact H) | (have H2_ := (Option.bind_some _ _).symm.trans H; rw [hy238]; with_reducible exact H2_) | (have H2_ := (Option.bind_some _ _).symm.trans H; with_reducible exact H2_) | with_reducible exact H | (rw [hy238]; exact H) | exact H
       have Ny238 := Aside0.mk hy238
       clear hy238
       have H' := Aside0.mk H
       clear H
       have p236 : 0 ≤ (x6_1 : Int) := of_decide_eq_true (by first | (with_reducible assumption) | assumption)
       have q236 : x6_1 < (l0.length : Int) := of_decide_eq_true (by first | (with_reducible assumption) | assumption)
       obtain ⟨ad236, A236_2, c236_2, e236, hx236_0, hx236_1, hx236_2, hl236_2, hi236_2⟩ := at_T45 (Kd.V_reads' HO_0.out).2.2 x6_1 p236 q236
       cases e236
       obtain ⟨ce236, hce236, hMe236, hcc236⟩ := Kd.V_get HO_0.out z45 x6_1 p236 (by first | exact q236 | exact of_decide_eq_true (by first | (with_reducible assumption) | assumption) | (have e_ := (Kd.V_reads' HO_0.out).1; omega))
       obtain ⟨ua236_2, uc236_2, rfl, ul236_2, ge236_2⟩ := k45_openF hMe236
       have hv236_2 := hcc236 2 _ rfl
       rw [add_field _ _ 2 (by omega)] at hv236_2
       replace hv236_2 := Option.some.inj (hv236_2.symm.trans hx236_2)
       injection hv236_2 with hva_ hvn_ hvc_
       rw [hva_] at ge236_2
       rw [hvc_] at ul236_2
       have HL236_2 := xa_ (show Kd.V (Kd.int .u8) 5 _ w.heap.size _ _ ((rd_T45 l0 x6_1).f2) from Kd.V_mk ul236_2 ge236_2)
       clear hva_ hvn_ hvc_ ge236_2 ul236_2
       clear hcc236 hce236
       have HR236_2 := Aside0.mk hi236_2
       have HC236_2 := Aside0.mk hl236_2
       clear hi236_2 hl236_2
       replace p236 := eq_true p236
       replace q236 := eq_true q236
       have p237 : 0 ≤ (x6_1 : Int) := of_decide_eq_true (by first | (with_reducible assumption) | assumption)
       have q237 : x6_1 < (l0.length : Int) := of_decide_eq_true (by first | (with_reducible assumption) | assumption)
       obtain ⟨ad237, A237_2, c237_2, e237, hx237_0, hx237_1, hx237_2, hl237_2, hi237_2⟩ := at_T45 (Kd.V_reads' HO_0.out).2.2 x6_1 p237 q237
       obtain rfl : ad236 = ad237 := (by injection e237)
       obtain ⟨ce237, hce237, hMe237, hcc237⟩ := Kd.V_get HO_0.out z45 x6_1 p237 (by first | exact q237 | exact of_decide_eq_true (by first | (with_reducible assumption) | assumption) | (have e_ := (Kd.V_reads' HO_0.out).1; omega))
       obtain ⟨ua237_2, uc237_2, rfl, ul237_2, ge237_2⟩ := k45_openF hMe237
       have hv237_2 := hcc237 2 _ rfl
       rw [add_field _ _ 2 (by omega)] at hv237_2
       replace hv237_2 := Option.some.inj (hv237_2.symm.trans hx237_2)
       injection hv237_2 with hva_ hvn_ hvc_
       rw [hva_] at ge237_2
       rw [hvc_] at ul237_2
       have HL237_2 := xa_ (show Kd.V (Kd.int .u8) 5 _ w.heap.size _ _ ((rd_T45 l0 x6_1).f2) from Kd.V_mk ul237_2 ge237_2)
       clear hva_ hvn_ hvc_ ge237_2 ul237_2
       clear hcc237 hce237
       have HR237_2 := Aside0.mk hi237_2
       have HC237_2 := Aside0.mk hl237_2
       clear hi237_2 hl237_2
       replace p237 := eq_true p237
       replace q237 := eq_true q237
       have ea_ := Option.some.inj (hx236_2.symm.trans hx237_2)
       injection ea_ with ea_ en_ ec_
       subst ea_
       subst ec_
       clear en_
       go_wp2_with (first | ((with_reducible refine gate_builtin (b := .append) (xs := #[.tmp 20, .tmp 25]) rfl ?_); at_builtin; refine Kd.N_append k45 (w0 := w) w.heap.size rfl (.tmp 20) (.tmp 25) 28 45 (.agg #[(.string ⟨#[]⟩), (.bool false), (.slice none 0 0)]) 48 rfl Tryz.underlying28 info45 rfl (by decide) (by omega) u5 x5_1 (⟨(rd_T45 l0 x6_1).f0, (rd_T45 l0 x6_1).f1, (rd_T45 l0 x6_1).f2⟩ : S45) [.string ((rd_T45 l0 x6_1).f0), .bool ((rd_T45 l0 x6_1).f1), .slice A236_2 ((rd_T45 l0 x6_1).f2).length c236_2] (fun k_ => (P0_ k_ ∨ w.heap.size ≤ k_)) (fun k_ => ((fun k_ => (P0_ k_ ∨ w.heap.size ≤ k_))) k_ ∧ some k_ ≠ (u5 : Value).ownBlock) rfl rfl ?aP (fun _ hk => hk) ?aF ?aO ?aB ?aS ?aL ?_; (case aP => exact (k45_mkF _ _ (⟨(rd_T45 l0 x6_1).f0, (rd_T45 l0 x6_1).f1, (rd_T45 l0 x6_1).f2⟩ : S45) (Kd.V_reads' (Kd.V_mono (ok' := (fun k_ => ((fun k_ => (P0_ k_ ∨ w.heap.size ≤ k_))) k_ ∧ some k_ ≠ (u5 : Value).ownBlock)) (HL237_2.out) (fun k_ hk => ⟨hk.1, hk.2⟩))).2.1 (Kd.V_F (Kd.V_mono (ok' := (fun k_ => ((fun k_ => (P0_ k_ ∨ w.heap.size ≤ k_))) k_ ∧ some k_ ≠ (u5 : Value).ownBlock)) (HL237_2.out) (fun k_ hk => ⟨hk.1, hk.2⟩))))); (case aB => exact (xw_ HB.out)); (case aF => exact (fun k_ hk => (.inr (Nat.le_trans (below_size (xw_ HB.out)) hk)))); (case aO => exact (xN_ HO_5.out)); (case aS => exact (below_size (xw_ HB.out))); (case aL => have := LMc6.out; omega); intro v239 w7 ho hb hg hat; rw [← Ny238.out] at ho; replace HO_0 := xa_ (Kd.V_afterv (ok := (fun k_ => (P0_ k_ ∨ w.heap.size ≤ k_))) (xV_ HO_0.out) hg hat); replace HL236_2 := xa_ (Kd.V_afterv (ok := (fun k_ => (P0_ k_ ∨ w.heap.size ≤ k_))) (xV_ HL236_2.out) hg hat); replace HL237_2 := xa_ (Kd.V_afterv (ok := (fun k_ => (P0_ k_ ∨ w.heap.size ≤ k_))) (xV_ HL237_2.out) hg hat); replace HB := xa_ (hb); replace HO240 := xa_ (ho); clear ho hb hg hat))
       go_roundg k1
       case measure => have := HK1.out; omega
       case rel => exact ⟨(y238), (wrap64 (x6_1 + 1)), (by first | rfl | (simp; done) | (simp [*]; done)), H', ⟨by have := HK1.out; omega⟩, ⟨by (with_reducible repeat (first | apply Kd.V_alloc | apply Kd.V_drewN | apply Kd.V_drew)); exact HO_0.out⟩, ⟨by (with_reducible repeat (first | apply Kd.N_alloc | apply Kd.N_drewN | apply Kd.N_drew)); exact HO240.out⟩, ⟨by repeat (first | (with_reducible first | exact HB.out | apply below_alloc | apply pw_below_drewN | apply below_drew1) | exact HB.out)⟩⟩
      ·rw [if_neg c6] at H
       exact absurd H (by simp)
    ·rw [if_neg c4] at H
     exact absurd H (by simp)
   ·rw [if_neg c3] at H
    have c3b0 : decide (x6_1 < (l0.length : Int)) = false := decide_eq_false c3
    clear c3
    obtain rfl := Option.some.inj H
    go_wp2
    go_ret
    exact ⟨_, by first | rfl | (simp [*, errW_none, errW_some] <;> rfl), by (with_reducible repeat (first | apply Kd.N_alloc | apply Kd.N_drewN | apply Kd.N_drew)); exact HO_5.out, by repeat (first | (with_reducible first | exact HB.out | apply below_alloc | apply pw_below_drewN | apply below_drew1) | exact HB.out)⟩
def tallymanref7_Move.j0 : Nat → List (S45) → ByteArray → ByteArray → Bool → Option ((List (S45)) × Int)
 | 0, _, _, _, _ => none
 | k + 1, x0, x1, x2, x22 => if x22 = true then (some (x0, 4)) else ((tallymanref7_Find.f k x0 x1).bind fun bt256 => (if bt256.2.2.2 = 0 then (if bt256.2.1 = true then (some (x0, 7)) else (if x1.toList = x2.toList then (some (x0, 0)) else ((tallymanref7_without.f k x0 x1).bind fun t263 => ((tallymanref7_Put.f k t263 x2 bt256.2.2.1).bind fun bt266 => (if bt266.2 = 0 then (some (bt266.1, 0)) else (some (x0, bt266.2))))))) else (some (x0, bt256.2.2.2))))
def tallymanref7_Move.f (k : Nat) (l0 : List (S45)) (a1 : ByteArray) (a2 : ByteArray) : Option ((List (S45)) × Int) := (tallymanref7_GoodTree.f k l0).bind fun t253 => (if t253 = true then ((tallymanref7_Good.f a1).bind fun t254 => (if t254 = true then ((tallymanref7_Good.f a2).bind fun t255 => (tallymanref7_Move.j0 k l0 a1 a2 (!t255))) else (tallymanref7_Move.j0 k l0 a1 a2 true))) else (some (l0, 1)))
def tallymanref7_Move.T12 : Bool × List (List Nat × List Nat) := (true, [([], []), ([], []), ([0, 1], [0, 1]), ([], []), ([], []), ([4], [4]), ([2, 3, 5, 2], [2, 3, 5]), ([6], [6]), ([7], [7]), ([7], [7]), ([8, 6, 0, 1, 2, 3, 4, 5, 6, 7, 8], [8]), ([9, 10, 0, 1, 2, 3, 4, 5, 6, 7, 8, 9, 10], [9])])
def tallymanref7_Move.B12 : List Nat := [0, 0, 3, 0, 0, 16, 63, 127, 255, 255, 511, 2047]
theorem tallymanref7_Move.tab12 : rtab .any (opsOf Tryz.f13 12) = tallymanref7_Move.T12 := by kernel_rfl
theorem tallymanref7_Move.bits12 : waitsOk tallymanref7_Move.T12.2 tallymanref7_Move.B12 = true := by kernel_rfl
theorem tallymanref7_Move.calls (k : Nat) (P0_ : Nat → Prop) (A0 : Option Addr) (c0 : Nat) (l0 : List (S45)) (a1 : ByteArray) (a2 : ByteArray) (r1 : List (S45)) (r2 : Int) (w : World) (hs0 : Kd.V k45 45 w w.heap.size (fun k_ => P0_ k_) (.slice A0 l0.length c0) l0) (h : tallymanref7_Move.f k l0 a1 a2 = some (r1, r2)) :
  Calls Tryz.prog 13 #[.slice A0 l0.length c0, .string a1, .string a2] w fun e w' => ∃ v0_ : Value, e = .returned (.tuple #[v0_, .int .i64 r2]) ∧ Kd.V k45 45 w' w.heap.size (fun k_ => (P0_ k_ ∨ w.heap.size ≤ k_)) v0_ r1 ∧ Below w.heap.size w w' := by
 have hu45 := Tryz.underlying45
 have HO0 := xa_ (show Kd.V k45 45 w w.heap.size (fun k_ => (P0_ k_ ∨ w.heap.size ≤ k_)) (.slice A0 l0.length c0) l0 from Kd.V_mono hs0 (fun k_ hk => .inl hk))
 have HB := xa_ (Below.refl w.heap.size w)
 have H : ((tallymanref7_GoodTree.f k l0).bind fun t253 => (if t253 = true then ((tallymanref7_Good.f a1).bind fun t254 => (if t254 = true then ((tallymanref7_Good.f a2).bind fun t255 => (tallymanref7_Move.j0 k l0 a1 a2 (!t255))) else (tallymanref7_Move.j0 k l0 a1 a2 true))) else (some (l0, 1)))) = some (r1, r2) := h
 clear h
 replace H := Option.bind_eq_some_iff.mp H
 obtain ⟨t253, A40, H⟩ := H
 replace H : (if t253 = true then ((tallymanref7_Good.f a1).bind fun t254 => (if t254 = true then ((tallymanref7_Good.f a2).bind fun t255 => (tallymanref7_Move.j0 k l0 a1 a2 (!t255))) else (tallymanref7_Move.j0 k l0 a1 a2 true))) else (some (l0, 1))) = some (r1, r2) := H
 have A4 := Aside0.mk A40
 clear A40
 by_cases c5 : t253 = true
 ·subst c5
  have H1 : ((tallymanref7_Good.f a1).bind fun t254 => (if t254 = true then ((tallymanref7_Good.f a2).bind fun t255 => (tallymanref7_Move.j0 k l0 a1 a2 (!t255))) else (tallymanref7_Move.j0 k l0 a1 a2 true))) = some (r1, r2) := by rw [if_pos rfl] at H; exact H
  clear H
  have H := H1
  clear H1
  have HC6 := Aside0.mk H
  clear H
  go_enter Tryz.func13, Tryz.ntmps13
  go_upto_region 3 with (first | ((with_reducible refine gate_callee (f := 48) rfl ?_); refine goesL_ (some 12) rfl rfl Tryz.func48 (by kernel_rfl) rfl #[.slice A0 l0.length c0] rfl (by (try simp only [ca_]); first | done | rfl) ?_; (with_reducible refine (tallymanref7_GoodTree.calls k _ _ l0 true _ ?side1 ?side2 A4.out).mono ?_); (case side1 => exact xC_ (Kd.V_reads' HO0.out).2.2); (case side2 => exact (Kd.V_reads' HO0.out).2.1); rintro e w7 ⟨rfl, hb⟩; refine ⟨_, rfl, ?_⟩; replace HO0 := xa_ (Kd.V_below (xV_ HO0.out) hb); replace HB := xa_ (below_step (xw_ HB.out) hb); (try clear hb); (try clear hb2); (try clear hk); (try clear hi)))
  (try simp only [Act.put, List.setIfInBounds_toArray, List.set_cons_zero, List.set_cons_succ])
  go_cut [22] (fun v22 wc => ∃ (kq : Nat) (x22_5 : Bool), v22 = .bool x22_5 ∧ Aside0 (tallymanref7_Move.j0 kq l0 a1 a2 x22_5 = some (r1, r2)) ∧ Aside0 (kq ≤ k) ∧ Aside0 (Kd.V k45 45 wc w.heap.size (fun k_ => (P0_ k_ ∨ w.heap.size ≤ k_)) (.slice A0 l0.length c0) l0) ∧ Aside0 (Below w.heap.size w wc))
  case first =>
   have H := HC6.out
   clear HC6
   replace H := Option.bind_eq_some_iff.mp H
   obtain ⟨t254, A80, H⟩ := H
   replace H : (if t254 = true then ((tallymanref7_Good.f a2).bind fun t255 => (tallymanref7_Move.j0 k l0 a1 a2 (!t255))) else (tallymanref7_Move.j0 k l0 a1 a2 true)) = some (r1, r2) := H
   have A8 := Aside0.mk A80
   clear A80
   by_cases c9 : t254 = true
   ·subst c9
    have H1 : ((tallymanref7_Good.f a2).bind fun t255 => (tallymanref7_Move.j0 k l0 a1 a2 (!t255))) = some (r1, r2) := by rw [if_pos rfl] at H; exact H
    clear H
    have H := H1
    clear H1
    replace H := Option.bind_eq_some_iff.mp H
    obtain ⟨t255, A100, H⟩ := H
    replace H : (tallymanref7_Move.j0 k l0 a1 a2 (!t255)) = some (r1, r2) := H
    have A10 := Aside0.mk A100
    clear A100
    have H' := Aside0.mk H
    clear H
    go_wp2_with (first | ((with_reducible refine gate_callee (f := 49) rfl ?_); refine goesL_ (some 16) rfl rfl Tryz.func49 (by kernel_rfl) rfl #[.string a1] rfl (by (try simp only [ca_]); first | done | rfl) ?_; (with_reducible refine (tallymanref7_Good.calls a1 true _ A8.out).mono ?_); rintro e w11 ⟨rfl, hb⟩; refine ⟨_, rfl, ?_⟩; replace HO0 := xa_ (Kd.V_below (xV_ HO0.out) hb); replace HB := xa_ (below_step (xw_ HB.out) hb); (try clear hb); (try clear hb2); (try clear hk); (try clear hi)) | (go_at_call 49; (with_reducible refine (tallymanref7_Good.calls a2 t255 _ A10.out).mono ?_); rintro e w12 ⟨rfl, hb⟩; replace HO0 := xa_ (Kd.V_below (xV_ HO0.out) hb); replace HB := xa_ (below_step (xw_ HB.out) hb); (try clear hb); (try clear hb2); (try clear hk); (try clear hi)))
    go_meet
    case rel => exact ⟨_, (!t255), (by first | rfl | (simp; done) | (simp [*]; done)), H', ⟨by first | omega | exact Nat.le_refl _⟩, ⟨by (with_reducible repeat (first | apply Kd.V_alloc | apply Kd.V_drewN | apply Kd.V_drew)); exact HO0.out⟩, ⟨by repeat (first | (with_reducible first | exact HB.out | apply below_alloc | apply pw_below_drewN | apply below_drew1) | exact HB.out)⟩⟩
   ·replace c9 := Bool.eq_false_iff.mpr c9
    subst c9
    have H1 : (tallymanref7_Move.j0 k l0 a1 a2 true) = some (r1, r2) := by rw [if_neg (show ¬ (false = true) by decide)] at H; exact H
    clear H
    have H := H1
    clear H1
    have H' := Aside0.mk H
    clear H
    go_wp2_with (first | ((with_reducible refine gate_callee (f := 49) rfl ?_); refine goesL_ (some 16) rfl rfl Tryz.func49 (by kernel_rfl) rfl #[.string a1] rfl (by (try simp only [ca_]); first | done | rfl) ?_; (with_reducible refine (tallymanref7_Good.calls a1 false _ A8.out).mono ?_); rintro e w13 ⟨rfl, hb⟩; refine ⟨_, rfl, ?_⟩; replace HO0 := xa_ (Kd.V_below (xV_ HO0.out) hb); replace HB := xa_ (below_step (xw_ HB.out) hb); (try clear hb); (try clear hb2); (try clear hk); (try clear hi)))
    go_meet
    case rel => exact ⟨_, (true), (by first | rfl | (simp; done) | (simp [*]; done)), H', ⟨by first | omega | exact Nat.le_refl _⟩, ⟨by (with_reducible repeat (first | apply Kd.V_alloc | apply Kd.V_drewN | apply Kd.V_drew)); exact HO0.out⟩, ⟨by repeat (first | (with_reducible first | exact HB.out | apply below_alloc | apply pw_below_drewN | apply below_drew1) | exact HB.out)⟩⟩
  case rest =>
   clear HC6
   try clear c1
   try clear p2
   try clear c4
   try clear c5
   try clear c9
   try clear c13
   obtain ⟨kq, x22_5, rfl, HA, HJ5, HO_0, HB⟩ := hcut
   cases kq with
   | zero => exact absurd HA.out (by simp [tallymanref7_Move.j0])
   | succ kj5 =>
    have H := HA.out
    clear HA
    simp only [tallymanref7_Move.j0] at H
    by_cases c14 : x22_5 = true
    ·subst c14
     have H1 : (some (l0, 4)) = some (r1, r2) := by rw [if_pos rfl] at H; exact H
     clear H
     have H := H1
     clear H1
     simp only [Option.some.injEq, Prod.mk.injEq] at H
     obtain ⟨rfl, rfl⟩ := H
     go_wp2
     go_ret2
     exact ⟨_, by first | rfl | (simp [*, errW_none, errW_some] <;> rfl), by (with_reducible repeat (first | apply Kd.V_alloc | apply Kd.V_drewN | apply Kd.V_drew)); exact HO_0.out, by repeat (first | (with_reducible first | exact HB.out | apply below_alloc | apply pw_below_drewN | apply below_drew1) | exact HB.out)⟩
    ·replace c14 := Bool.eq_false_iff.mpr c14
     subst c14
     have H1 : ((tallymanref7_Find.f kj5 l0 a1).bind fun bt256 => (if bt256.2.2.2 = 0 then (if bt256.2.1 = true then (some (l0, 7)) else (if a1.toList = a2.toList then (some (l0, 0)) else ((tallymanref7_without.f kj5 l0 a1).bind fun t263 => ((tallymanref7_Put.f kj5 t263 a2 bt256.2.2.1).bind fun bt266 => (if bt266.2 = 0 then (some (bt266.1, 0)) else (some (l0, bt266.2))))))) else (some (l0, bt256.2.2.2)))) = some (r1, r2) := by rw [if_neg (show ¬ (false = true) by decide)] at H; exact H
     clear H
     have H := H1
     clear H1
     replace H := Option.bind_eq_some_iff.mp H
     obtain ⟨⟨t256, t257, t258, t261⟩, A150, H⟩ := H
     replace H : (if t261 = 0 then (if t257 = true then (some (l0, 7)) else (if a1.toList = a2.toList then (some (l0, 0)) else ((tallymanref7_without.f kj5 l0 a1).bind fun t263 => ((tallymanref7_Put.f kj5 t263 a2 t258).bind fun bt266 => (if bt266.2 = 0 then (some (bt266.1, 0)) else (some (l0, bt266.2))))))) else (some (l0, t261))) = some (r1, r2) := H
     have A15 := Aside0.mk A150
     clear A150
     by_cases c16 : t261 = 0
     ·rw [if_pos c16] at H
      have c16b0 : (t261 == 0) = true := beq_iff_eq.mpr c16
      have c16b1 : (t261 != 0) = false := bne_eq_false_iff_eq.mpr c16
      clear c16
      by_cases c17 : t257 = true
      ·subst c17
       have H1 : (some (l0, 7)) = some (r1, r2) := by rw [if_pos rfl] at H; exact H
       clear H
       have H := H1
       clear H1
       simp only [Option.some.injEq, Prod.mk.injEq] at H
       obtain ⟨rfl, rfl⟩ := H
       go_wp2_with (first | ((with_reducible refine gate_callee (f := 15) rfl ?_); refine goesL_ (some 27) rfl rfl Tryz.func15 (by kernel_rfl) rfl #[.slice A0 l0.length c0, .string a1] rfl (by (try simp only [ca_]); first | done | rfl) ?_; (with_reducible refine (tallymanref7_Find.calls kj5 (fun k_ => (P0_ k_ ∨ w.heap.size ≤ k_)) _ _ l0 a1 t256 true t258 t261 _ ?side1 A15.out).mono ?_); (case side1 => exact HO_0.out); rintro e w18 ⟨v259, rfl, ho0, hb⟩; refine ⟨_, rfl, ?_⟩; replace HO_0 := xa_ (Kd.V_below (xV_ HO_0.out) hb); replace HO260 := xa_ (Kd.V_lower (Kd.V_mono (ok' := fun k_ => (P0_ k_ ∨ w.heap.size ≤ k_)) ho0 (fun k_ hk_ => Or.elim hk_ (fun hs_ => hs_) (fun hn_ => (.inr (Nat.le_trans (below_size (xw_ HB.out)) hn_))))) (below_size (xw_ HB.out))); replace HB := xa_ (below_step (xw_ HB.out) hb); (try clear hb); (try clear hb2); (try clear hk); (try clear hi); (try clear ho0)) | ((with_reducible refine gate_dst (N := 8) rfl ?_); refine box_event ?hg (N := 8) ?hd (cs := #[.string (⟨#[]⟩ : ByteArray), .bool false, .slice none 0 0]) (t := 45) ?hr ?_; (case hd => rfl); (case hg => rfl); (case hr => first | (go_simp; done) | (go_simp; rfl)); intro gb262 hg w19 hbox hb; have BK262 := xa_ (hbox); have GW262 := xa_ ((by rw [hg]; exact (below_size (xw_ HB.out)) : w.heap.size ≤ gb262)); have GE262 := xa_ ((by rw [hg]; exact (below_size (xw_ HB.out)) : w.heap.size ≤ gb262)); replace HO_0 := xa_ (Kd.V_below (Kd.V_elderB (xV_ HO_0.out) gb262 (Nat.le_of_eq hg.symm)) hb); replace HO260 := xa_ (Kd.V_below (Kd.V_elderB (xV_ HO260.out) gb262 (Nat.le_of_eq hg.symm)) hb); replace HB := xa_ (below_step (xw_ HB.out) hb); clear hb hbox hg; have hcz20_0 : w19.cell? ⟨gb262, 0, none⟩ = some (.string (⟨#[]⟩ : ByteArray)) := (blk_cell BK262.out 0).trans rfl; have hcz20_1 : w19.cell? ⟨gb262, 1, none⟩ = some (.bool false) := (blk_cell BK262.out 1).trans rfl; have hcz20_2 : w19.cell? ⟨gb262, 2, none⟩ = some (.slice none 0 0) := (blk_cell BK262.out 2).trans rfl; have hfz20_0 := blk_frozen BK262.out 0; have hfz20_1 := blk_frozen BK262.out 1; have hfz20_2 := blk_frozen BK262.out 2; obtain ⟨Ao21, co21, eo21⟩ := Kd.V_slice HO260.out; subst eo21))
       go_ret2
       exact ⟨_, by first | rfl | (simp [*, errW_none, errW_some] <;> rfl), by (with_reducible repeat (first | apply Kd.V_alloc | apply Kd.V_drewN | apply Kd.V_drew)); exact Kd.V_mono (vf_ (vf_ (vf_ (Kd.V_mono HO_0.out (fun k_ hk => (⟨hk, hk.2⟩ : _ ∧ k_ ≠ gb262)))))) (fun _ hk => hk.1.1), by repeat (first | (with_reducible first | exact HB.out | apply below_alloc | apply pw_below_drewN | apply below_drew1 | refine below_set ?_ GE262.out) | exact HB.out)⟩
      ·replace c17 := Bool.eq_false_iff.mpr c17
       subst c17
       have H1 : (if a1.toList = a2.toList then (some (l0, 0)) else ((tallymanref7_without.f kj5 l0 a1).bind fun t263 => ((tallymanref7_Put.f kj5 t263 a2 t258).bind fun bt266 => (if bt266.2 = 0 then (some (bt266.1, 0)) else (some (l0, bt266.2)))))) = some (r1, r2) := by rw [if_neg (show ¬ (false = true) by decide)] at H; exact H
       clear H
       have H := H1
       clear H1
       by_cases c22 : a1.toList = a2.toList
       ·rw [if_pos c22] at H
        have c22b0 : (a1.toList == a2.toList) = true := beq_iff_eq.mpr c22
        have c22b1 : (a1.toList != a2.toList) = false := bne_eq_false_iff_eq.mpr c22
        clear c22
        simp only [Option.some.injEq, Prod.mk.injEq] at H
        obtain ⟨rfl, rfl⟩ := H
        go_wp2_with (first | ((with_reducible refine gate_callee (f := 15) rfl ?_); refine goesL_ (some 27) rfl rfl Tryz.func15 (by kernel_rfl) rfl #[.slice A0 l0.length c0, .string a1] rfl (by (try simp only [ca_]); first | done | rfl) ?_; (with_reducible refine (tallymanref7_Find.calls kj5 (fun k_ => (P0_ k_ ∨ w.heap.size ≤ k_)) _ _ l0 a1 t256 false t258 t261 _ ?side1 A15.out).mono ?_); (case side1 => exact HO_0.out); rintro e w23 ⟨v259, rfl, ho0, hb⟩; refine ⟨_, rfl, ?_⟩; replace HO_0 := xa_ (Kd.V_below (xV_ HO_0.out) hb); replace HO260 := xa_ (Kd.V_lower (Kd.V_mono (ok' := fun k_ => (P0_ k_ ∨ w.heap.size ≤ k_)) ho0 (fun k_ hk_ => Or.elim hk_ (fun hs_ => hs_) (fun hn_ => (.inr (Nat.le_trans (below_size (xw_ HB.out)) hn_))))) (below_size (xw_ HB.out))); replace HB := xa_ (below_step (xw_ HB.out) hb); (try clear hb); (try clear hb2); (try clear hk); (try clear hi); (try clear ho0)) | ((with_reducible refine gate_dst (N := 8) rfl ?_); refine box_event ?hg (N := 8) ?hd (cs := #[.string (⟨#[]⟩ : ByteArray), .bool false, .slice none 0 0]) (t := 45) ?hr ?_; (case hd => rfl); (case hg => rfl); (case hr => first | (go_simp; done) | (go_simp; rfl)); intro gb262 hg w24 hbox hb; have BK262 := xa_ (hbox); have GW262 := xa_ ((by rw [hg]; exact (below_size (xw_ HB.out)) : w.heap.size ≤ gb262)); have GE262 := xa_ ((by rw [hg]; exact (below_size (xw_ HB.out)) : w.heap.size ≤ gb262)); replace HO_0 := xa_ (Kd.V_below (Kd.V_elderB (xV_ HO_0.out) gb262 (Nat.le_of_eq hg.symm)) hb); replace HO260 := xa_ (Kd.V_below (Kd.V_elderB (xV_ HO260.out) gb262 (Nat.le_of_eq hg.symm)) hb); replace HB := xa_ (below_step (xw_ HB.out) hb); clear hb hbox hg; have hcz25_0 : w24.cell? ⟨gb262, 0, none⟩ = some (.string (⟨#[]⟩ : ByteArray)) := (blk_cell BK262.out 0).trans rfl; have hcz25_1 : w24.cell? ⟨gb262, 1, none⟩ = some (.bool false) := (blk_cell BK262.out 1).trans rfl; have hcz25_2 : w24.cell? ⟨gb262, 2, none⟩ = some (.slice none 0 0) := (blk_cell BK262.out 2).trans rfl; have hfz25_0 := blk_frozen BK262.out 0; have hfz25_1 := blk_frozen BK262.out 1; have hfz25_2 := blk_frozen BK262.out 2; obtain ⟨Ao26, co26, eo26⟩ := Kd.V_slice HO260.out; subst eo26))
        go_ret2
        exact ⟨_, by first | rfl | (simp [*, errW_none, errW_some] <;> rfl), by (with_reducible repeat (first | apply Kd.V_alloc | apply Kd.V_drewN | apply Kd.V_drew)); exact Kd.V_mono (vf_ (vf_ (vf_ (Kd.V_mono HO_0.out (fun k_ hk => (⟨hk, hk.2⟩ : _ ∧ k_ ≠ gb262)))))) (fun _ hk => hk.1.1), by repeat (first | (with_reducible first | exact HB.out | apply below_alloc | apply pw_below_drewN | apply below_drew1 | refine below_set ?_ GE262.out) | exact HB.out)⟩
       ·rw [if_neg c22] at H
        have c22b0 : (a1.toList == a2.toList) = false := beq_eq_false_iff_ne.mpr c22
        have c22b1 : (a1.toList != a2.toList) = true := bne_iff_ne.mpr c22
        replace H := Option.bind_eq_some_iff.mp H
        obtain ⟨t263, A270, H⟩ := H
        replace H : ((tallymanref7_Put.f kj5 t263 a2 t258).bind fun bt266 => (if bt266.2 = 0 then (some (bt266.1, 0)) else (some (l0, bt266.2)))) = some (r1, r2) := H
        have A27 := Aside0.mk A270
        clear A270
        replace H := Option.bind_eq_some_iff.mp H
        obtain ⟨⟨t266, t269⟩, A280, H⟩ := H
        replace H : (if t269 = 0 then (some (t266, 0)) else (some (l0, t269))) = some (r1, r2) := H
        have A28 := Aside0.mk A280
        clear A280
        by_cases c29 : t269 = 0
        ·rw [if_pos c29] at H
         have c29b0 : (t269 == 0) = true := beq_iff_eq.mpr c29
         have c29b1 : (t269 != 0) = false := bne_eq_false_iff_eq.mpr c29
         clear c29
         simp only [Option.some.injEq, Prod.mk.injEq] at H
         obtain ⟨rfl, rfl⟩ := H
         try go_wp2_with (first | ((with_reducible refine gate_callee (f := 15) rfl ?_); refine goesL_ (some 27) rfl rfl Tryz.func15 (by kernel_rfl) rfl #[.slice A0 l0.length c0, .string a1] rfl (by (try simp only [ca_]); first | done | rfl) ?_; (with_reducible refine (tallymanref7_Find.calls kj5 (fun k_ => (P0_ k_ ∨ w.heap.size ≤ k_)) _ _ l0 a1 t256 false t258 t261 _ ?side1 A15.out).mono ?_); (case side1 => exact HO_0.out); rintro e w30 ⟨v259, rfl, ho0, hb⟩; refine ⟨_, rfl, ?_⟩; replace HO_0 := xa_ (Kd.V_below (xV_ HO_0.out) hb); replace HO260 := xa_ (Kd.V_lower (Kd.V_mono (ok' := fun k_ => (P0_ k_ ∨ w.heap.size ≤ k_)) ho0 (fun k_ hk_ => Or.elim hk_ (fun hs_ => hs_) (fun hn_ => (.inr (Nat.le_trans (below_size (xw_ HB.out)) hn_))))) (below_size (xw_ HB.out))); replace HB := xa_ (below_step (xw_ HB.out) hb); (try clear hb); (try clear hb2); (try clear hk); (try clear hi); (try clear ho0)) | ((with_reducible refine gate_dst (N := 8) rfl ?_); refine box_event ?hg (N := 8) ?hd (cs := #[.string (⟨#[]⟩ : ByteArray), .bool false, .slice none 0 0]) (t := 45) ?hr ?_; (case hd => rfl); (case hg => rfl); (case hr => first | (go_simp; done) | (go_simp; rfl)); intro gb262 hg w31 hbox hb; have BK262 := xa_ (hbox); have GW262 := xa_ ((by rw [hg]; exact (below_size (xw_ HB.out)) : w.heap.size ≤ gb262)); have GE262 := xa_ ((by rw [hg]; exact (below_size (xw_ HB.out)) : w.heap.size ≤ gb262)); replace HO_0 := xa_ (Kd.V_below (Kd.V_elderB (xV_ HO_0.out) gb262 (Nat.le_of_eq hg.symm)) hb); replace HO260 := xa_ (Kd.V_below (Kd.V_elderB (xV_ HO260.out) gb262 (Nat.le_of_eq hg.symm)) hb); replace HB := xa_ (below_step (xw_ HB.out) hb); clear hb hbox hg; have hcz32_0 : w31.cell? ⟨gb262, 0, none⟩ = some (.string (⟨#[]⟩ : ByteArray)) := (blk_cell BK262.out 0).trans rfl; have hcz32_1 : w31.cell? ⟨gb262, 1, none⟩ = some (.bool false) := (blk_cell BK262.out 1).trans rfl; have hcz32_2 : w31.cell? ⟨gb262, 2, none⟩ = some (.slice none 0 0) := (blk_cell BK262.out 2).trans rfl; have hfz32_0 := blk_frozen BK262.out 0; have hfz32_1 := blk_frozen BK262.out 1; have hfz32_2 := blk_frozen BK262.out 2; obtain ⟨Ao33, co33, eo33⟩ := Kd.V_slice HO260.out; subst eo33))
         have n0_ : Aside0 (Kd.V k45 45 (((w31.setCell ⟨gb262, 0, none⟩ (.string t256)).setCell ⟨gb262, 1, none⟩ (.bool false)).setCell ⟨gb262, 2, none⟩ (.slice Ao33 t258.length co33)) w.heap.size (fun k_ => (P0_ k_ ∨ w.heap.size ≤ k_) ∧ k_ ≠ gb262) (.slice A0 l0.length c0) l0) := ⟨by (with_reducible repeat (first | apply Kd.V_alloc | apply Kd.V_drewN | apply Kd.V_drew)); exact Kd.V_mono (vf_ (vf_ (vf_ (Kd.V_mono HO_0.out (fun k_ hk => (⟨hk, hk.2⟩ : _ ∧ k_ ≠ gb262)))))) (fun _ hk => ⟨hk.1.1, hk.1.2⟩)⟩
         have n1_ : Aside0 (Kd.V (Kd.int .u8) 5 (((w31.setCell ⟨gb262, 0, none⟩ (.string t256)).setCell ⟨gb262, 1, none⟩ (.bool false)).setCell ⟨gb262, 2, none⟩ (.slice Ao33 t258.length co33)) w.heap.size (fun k_ => (P0_ k_ ∨ w.heap.size ≤ k_) ∧ k_ ≠ gb262) (.slice Ao33 t258.length co33) t258) := ⟨by (with_reducible repeat (first | apply Kd.V_alloc | apply Kd.V_drewN | apply Kd.V_drew)); exact Kd.V_mono (vf_ (vf_ (vf_ (Kd.V_mono HO260.out (fun k_ hk => (⟨hk, hk.2⟩ : _ ∧ k_ ≠ gb262)))))) (fun _ hk => ⟨hk.1.1, hk.1.2⟩)⟩
         have n2_ : Aside0 ((((w31.setCell ⟨gb262, 0, none⟩ (.string t256)).setCell ⟨gb262, 1, none⟩ (.bool false)).setCell ⟨gb262, 2, none⟩ (.slice Ao33 t258.length co33)).heap[gb262]? = some (.cells #[.string t256, .bool false, .slice Ao33 t258.length co33] 45 (0, 0))) := ⟨by (with_reducible repeat (first | refine blk_drewN ?_ _ | refine blk_drew ?_ | refine blk_alloc ?_ _)); refine blk_put (cs := #[.string t256, .bool false, .slice none 0 0]) ?_ 2 _ rfl; (with_reducible repeat (first | refine blk_drewN ?_ _ | refine blk_drew ?_ | refine blk_alloc ?_ _)); refine blk_put (cs := #[.string t256, .bool false, .slice none 0 0]) ?_ 1 _ rfl; (with_reducible repeat (first | refine blk_drewN ?_ _ | refine blk_drew ?_ | refine blk_alloc ?_ _)); refine blk_put (cs := #[.string (⟨#[]⟩ : ByteArray), .bool false, .slice none 0 0]) ?_ 0 _ rfl; (with_reducible repeat (first | refine blk_drewN ?_ _ | refine blk_drew ?_ | refine blk_alloc ?_ _)); exact BK262.out⟩
         have n3_ : Aside0 (Below w.heap.size w (((w31.setCell ⟨gb262, 0, none⟩ (.string t256)).setCell ⟨gb262, 1, none⟩ (.bool false)).setCell ⟨gb262, 2, none⟩ (.slice Ao33 t258.length co33))) := ⟨by repeat (first | (with_reducible first | exact HB.out | apply below_alloc | apply pw_below_drewN | apply below_drew1 | refine below_set ?_ GE262.out) | exact HB.out)⟩
         (try clear HO_0)
         (try clear HO260)
         (try clear BK262)
         (try clear HB)
         generalize (((w31.setCell ⟨gb262, 0, none⟩ (.string t256)).setCell ⟨gb262, 1, none⟩ (.bool false)).setCell ⟨gb262, 2, none⟩ (.slice Ao33 t258.length co33)) = w34 at n0_ n1_ n2_ n3_ ⊢
         have HO_0 := n0_
         have HO260 := n1_
         have BK262 := n2_
         have HB := n3_
         clear n0_ n1_ n2_ n3_
         have n0_ := xa_ (Kd.V_drew HO_0.out)
         have n1_ := xa_ (Kd.V_drew HO260.out)
         have n2_ := xa_ (blk_drew BK262.out)
         have n3_ := xa_ (below_drew1 HB.out)
         clear HO_0
         clear HO260
         clear BK262
         clear HB
         have HO_0 := n0_
         have HO260 := n1_
         have BK262 := n2_
         have HB := n3_
         clear n0_ n1_ n2_ n3_
         refine start_ (n := 12) (S := fun w' => w'.cell? ⟨gb262, 0, none⟩ = some (.string t256) ∧ w'.cell? ⟨gb262, 1, none⟩ = some (.bool false) ∧ w'.cell? ⟨gb262, 2, none⟩ = some (.slice Ao33 t258.length co33)) (ds := []) (bs_ 12 0x0) (by kernel_rfl) rfl rfl ⟨(blk_cell BK262.out 0).trans rfl, (blk_cell BK262.out 1).trans rfl, (blk_cell BK262.out 2).trans rfl⟩ (fun hHeld => ?_); refine with_tabW tallymanref7_Move.tab12 tallymanref7_Move.bits12 (fun HT_ HW_ => ?_)
         generalize w34.drew = w35 at HO_0 HO260 BK262 HB hHeld ⊢
         refine pl_ [(0, some 42, 0x1), (1, some 43, 0x3), (3, some 45, 0xb), (4, some 46, 0x1b), (5, some 47, 0x3b)] ?_; iterate 5 (first | (refine pq_ (v := ?_) (a' := ?_) HT_.out rfl rfl (by kernel_rfl) (fun _ _ _ h => h) (Or.inl ⟨by rfl, ?_⟩) ?_ ?_; rotate_left; (intro w'; go_simp; with_reducible rfl); rotate_left; (simp only [nm_]; rfl)) | (refine tq_ (v := ?_) (a' := ?_) HT_.out HW_.out rfl rfl (by kernel_rfl) (fun _ _ _ h => h) (Or.inl ⟨by rfl, ?_⟩) hHeld ?_ ?_; rotate_left; (rintro w' ⟨s0, s1, s2⟩; go_simp; with_reducible rfl); rotate_left; (simp only [nm_]; rfl)))
         refine ql_ ?_
         refine one_ (i := 2) (N := some 44) (bs_ 12 0x3f) rfl rfl (one_of HT_.out (by kernel_rfl)) (by decide) (fun K hK => ?_)
         refine goes_ Tryz.func57 (by kernel_rfl) rfl #[.slice A0 l0.length c0, .string a1] (by rfl) rfl rfl (by (try simp only [ca_]); first | done | rfl) ?_
         with_reducible refine (tallymanref7_without.calls kj5 (fun k_ => ((P0_ k_ ∨ w.heap.size ≤ k_) ∧ k_ ≠ gb262)) _ _ l0 a1 t263 _ ?side1 A27.out).mono ?_
         (case side1 => exact HO_0.out)
         rintro e w36 ⟨v264, rfl, ho0, hb⟩
         refine ⟨_, rfl, ?_⟩
         have n0_ := xa_ (Kd.V_elder' (xV_ HO_0.out) (Kd.N_base ho0) hb)
         have n1_ := xa_ (Kd.V_elder' (xV_ HO260.out) (Kd.N_base ho0) hb)
         have n2_ := xa_ (Kd.N_lower (Kd.N_mono (ok' := fun k_ => (P0_ k_ ∨ w.heap.size ≤ k_) ∧ k_ ≠ gb262) ho0 (fun k_ hk_ => ⟨Or.elim hk_ (fun hs_ => hs_.1) (fun hn_ => (.inr (Nat.le_trans (below_size (xw_ HB.out)) hn_))), Or.elim hk_ (fun hs_ => hs_.2) (fun hn_ => (Kd.freshB (xb_ BK262.out) k_ hn_))⟩)) (below_size (xw_ HB.out)))
         have n3_ := xa_ (blk_below (xb_ BK262.out) hb)
         have n4_ := xa_ (below_step (xw_ HB.out) hb)
         clear HO_0
         clear HO260
         clear BK262
         clear HB
         have HO_0 := n0_
         have HO260 := n1_
         have HO265 := n2_
         have BK262 := n3_
         have HB := n4_
         clear n0_ n1_ n2_ n3_ n4_
         (try clear hb)
         (try clear hb2)
         (try clear hk)
         (try clear hi)
         (try clear ho0)
         obtain ⟨Ao37, co37, eo37⟩ := Kd.N_slice HO265.out
         (first | subst eo37 | (injection eo37 with f1_ f2_ f3_; have f4_ := f1_.symm; have f5_ := f3_.symm; clear f1_ f2_ f3_; subst f4_; subst f5_))
         refine hK.out _ _ ⟨(blk_cell BK262.out 0).trans rfl, (blk_cell BK262.out 1).trans rfl, (blk_cell BK262.out 2).trans rfl⟩ (fun hHeld => ?_)
         clear hK K
         refine norm_ (a' := ?_) ?_ ?_
         rotate_left
         ·show Act.put _ (some 44) _ = _
          simp only [nm_]
          rfl
         refine one_ (i := 6) (N := some 48) (bs_ 12 0x7f) rfl rfl (one_of HT_.out (by kernel_rfl)) (by decide) (fun K hK => ?_)
         refine goes_ Tryz.func7 (by kernel_rfl) rfl #[.slice Ao37 t263.length co37, .string a2, .slice Ao33 t258.length co33] (by rfl) rfl rfl (by (try simp only [ca_]); first | done | rfl) ?_
         with_reducible refine (tallymanref7_Put.calls kj5 (fun k_ => ((P0_ k_ ∨ w.heap.size ≤ k_) ∧ k_ ≠ gb262)) _ _ t263 a2 _ _ t258 t266 t269 _ ?side1 ?side2 ?side3 A28.out).mono ?_
         (case side1 => exact Kd.N_V (HO265.out))
         (case side2 => exact xC_ (Kd.V_reads' HO260.out).2.2)
         (case side3 => exact (Kd.V_reads' HO260.out).2.1)
         rintro e w38 ⟨v267, rfl, ho0, hb⟩
         refine ⟨_, rfl, ?_⟩
         have n0_ := xa_ (Kd.V_below (xV_ HO_0.out) hb)
         have n1_ := xa_ (Kd.V_below (xV_ HO260.out) hb)
         have n2_ := xa_ (Kd.N_below (xN_ HO265.out) hb)
         have n3_ := xa_ (Kd.V_lower (Kd.V_mono (ok' := fun k_ => (P0_ k_ ∨ w.heap.size ≤ k_) ∧ k_ ≠ gb262) ho0 (fun k_ hk_ => ⟨Or.elim hk_ (fun hs_ => hs_.1) (fun hn_ => (.inr (Nat.le_trans (below_size (xw_ HB.out)) hn_))), Or.elim hk_ (fun hs_ => hs_.2) (fun hn_ => (Kd.freshB (xb_ BK262.out) k_ hn_))⟩)) (below_size (xw_ HB.out)))
         have n4_ := xa_ (blk_below (xb_ BK262.out) hb)
         have n5_ := xa_ (below_step (xw_ HB.out) hb)
         clear HO_0
         clear HO260
         clear HO265
         clear BK262
         clear HB
         have HO_0 := n0_
         have HO260 := n1_
         have HO265 := n2_
         have HO268 := n3_
         have BK262 := n4_
         have HB := n5_
         clear n0_ n1_ n2_ n3_ n4_ n5_
         (try clear hb)
         (try clear hb2)
         (try clear hk)
         (try clear hi)
         (try clear ho0)
         refine hK.out _ _ ⟨(blk_cell BK262.out 0).trans rfl, (blk_cell BK262.out 1).trans rfl, (blk_cell BK262.out 2).trans rfl⟩ (fun hHeld => ?_)
         clear hK K
         refine norm_ (a' := ?_) ?_ ?_
         rotate_left
         ·show Act.put _ (some 48) _ = _
          simp only [nm_]
          rfl
         refine pl_ [(7, some 41, 0xff), (8, some 49, 0x1ff), (9, some 50, 0x3ff), (10, some 10, 0x7ff), (11, some 9, 0xfff)] ?_; iterate 5 (refine pq_ (v := ?_) (a' := ?_) HT_.out rfl rfl (by kernel_rfl) (fun _ _ _ h => h) (Or.inl ⟨by rfl, ?_⟩) ?_ ?_; rotate_left; (intro w'; go_simp; with_reducible rfl); rotate_left; (simp only [nm_]; rfl))
         refine ql_ ?_
         refine done_ (done_of HT_.out (by kernel_rfl)) ?_
         try go_wp2
         go_ret2
         exact ⟨_, by first | rfl | (simp [*, errW_none, errW_some] <;> rfl), by (with_reducible repeat (first | apply Kd.V_alloc | apply Kd.V_drewN | apply Kd.V_drew)); exact Kd.V_mono HO268.out (fun _ hk => hk.1), by repeat (first | (with_reducible first | exact HB.out | apply below_alloc | apply pw_below_drewN | apply below_drew1 | refine below_set ?_ GE262.out) | exact HB.out)⟩
        ·rw [if_neg c29] at H
         have c29b0 : (t269 == 0) = false := beq_eq_false_iff_ne.mpr c29
         have c29b1 : (t269 != 0) = true := bne_iff_ne.mpr c29
         simp only [Option.some.injEq, Prod.mk.injEq] at H
         obtain ⟨rfl, rfl⟩ := H
         try go_wp2_with (first | ((with_reducible refine gate_callee (f := 15) rfl ?_); refine goesL_ (some 27) rfl rfl Tryz.func15 (by kernel_rfl) rfl #[.slice A0 l0.length c0, .string a1] rfl (by (try simp only [ca_]); first | done | rfl) ?_; (with_reducible refine (tallymanref7_Find.calls kj5 (fun k_ => (P0_ k_ ∨ w.heap.size ≤ k_)) _ _ l0 a1 t256 false t258 t261 _ ?side1 A15.out).mono ?_); (case side1 => exact HO_0.out); rintro e w39 ⟨v259, rfl, ho0, hb⟩; refine ⟨_, rfl, ?_⟩; replace HO_0 := xa_ (Kd.V_below (xV_ HO_0.out) hb); replace HO260 := xa_ (Kd.V_lower (Kd.V_mono (ok' := fun k_ => (P0_ k_ ∨ w.heap.size ≤ k_)) ho0 (fun k_ hk_ => Or.elim hk_ (fun hs_ => hs_) (fun hn_ => (.inr (Nat.le_trans (below_size (xw_ HB.out)) hn_))))) (below_size (xw_ HB.out))); replace HB := xa_ (below_step (xw_ HB.out) hb); (try clear hb); (try clear hb2); (try clear hk); (try clear hi); (try clear ho0)) | ((with_reducible refine gate_dst (N := 8) rfl ?_); refine box_event ?hg (N := 8) ?hd (cs := #[.string (⟨#[]⟩ : ByteArray), .bool false, .slice none 0 0]) (t := 45) ?hr ?_; (case hd => rfl); (case hg => rfl); (case hr => first | (go_simp; done) | (go_simp; rfl)); intro gb262 hg w40 hbox hb; have BK262 := xa_ (hbox); have GW262 := xa_ ((by rw [hg]; exact (below_size (xw_ HB.out)) : w.heap.size ≤ gb262)); have GE262 := xa_ ((by rw [hg]; exact (below_size (xw_ HB.out)) : w.heap.size ≤ gb262)); replace HO_0 := xa_ (Kd.V_below (Kd.V_elderB (xV_ HO_0.out) gb262 (Nat.le_of_eq hg.symm)) hb); replace HO260 := xa_ (Kd.V_below (Kd.V_elderB (xV_ HO260.out) gb262 (Nat.le_of_eq hg.symm)) hb); replace HB := xa_ (below_step (xw_ HB.out) hb); clear hb hbox hg; have hcz41_0 : w40.cell? ⟨gb262, 0, none⟩ = some (.string (⟨#[]⟩ : ByteArray)) := (blk_cell BK262.out 0).trans rfl; have hcz41_1 : w40.cell? ⟨gb262, 1, none⟩ = some (.bool false) := (blk_cell BK262.out 1).trans rfl; have hcz41_2 : w40.cell? ⟨gb262, 2, none⟩ = some (.slice none 0 0) := (blk_cell BK262.out 2).trans rfl; have hfz41_0 := blk_frozen BK262.out 0; have hfz41_1 := blk_frozen BK262.out 1; have hfz41_2 := blk_frozen BK262.out 2; obtain ⟨Ao42, co42, eo42⟩ := Kd.V_slice HO260.out; subst eo42))
         have n0_ : Aside0 (Kd.V k45 45 (((w40.setCell ⟨gb262, 0, none⟩ (.string t256)).setCell ⟨gb262, 1, none⟩ (.bool false)).setCell ⟨gb262, 2, none⟩ (.slice Ao42 t258.length co42)) w.heap.size (fun k_ => (P0_ k_ ∨ w.heap.size ≤ k_) ∧ k_ ≠ gb262) (.slice A0 l0.length c0) l0) := ⟨by (with_reducible repeat (first | apply Kd.V_alloc | apply Kd.V_drewN | apply Kd.V_drew)); exact Kd.V_mono (vf_ (vf_ (vf_ (Kd.V_mono HO_0.out (fun k_ hk => (⟨hk, hk.2⟩ : _ ∧ k_ ≠ gb262)))))) (fun _ hk => ⟨hk.1.1, hk.1.2⟩)⟩
         have n1_ : Aside0 (Kd.V (Kd.int .u8) 5 (((w40.setCell ⟨gb262, 0, none⟩ (.string t256)).setCell ⟨gb262, 1, none⟩ (.bool false)).setCell ⟨gb262, 2, none⟩ (.slice Ao42 t258.length co42)) w.heap.size (fun k_ => (P0_ k_ ∨ w.heap.size ≤ k_) ∧ k_ ≠ gb262) (.slice Ao42 t258.length co42) t258) := ⟨by (with_reducible repeat (first | apply Kd.V_alloc | apply Kd.V_drewN | apply Kd.V_drew)); exact Kd.V_mono (vf_ (vf_ (vf_ (Kd.V_mono HO260.out (fun k_ hk => (⟨hk, hk.2⟩ : _ ∧ k_ ≠ gb262)))))) (fun _ hk => ⟨hk.1.1, hk.1.2⟩)⟩
         have n2_ : Aside0 ((((w40.setCell ⟨gb262, 0, none⟩ (.string t256)).setCell ⟨gb262, 1, none⟩ (.bool false)).setCell ⟨gb262, 2, none⟩ (.slice Ao42 t258.length co42)).heap[gb262]? = some (.cells #[.string t256, .bool false, .slice Ao42 t258.length co42] 45 (0, 0))) := ⟨by (with_reducible repeat (first | refine blk_drewN ?_ _ | refine blk_drew ?_ | refine blk_alloc ?_ _)); refine blk_put (cs := #[.string t256, .bool false, .slice none 0 0]) ?_ 2 _ rfl; (with_reducible repeat (first | refine blk_drewN ?_ _ | refine blk_drew ?_ | refine blk_alloc ?_ _)); refine blk_put (cs := #[.string t256, .bool false, .slice none 0 0]) ?_ 1 _ rfl; (with_reducible repeat (first | refine blk_drewN ?_ _ | refine blk_drew ?_ | refine blk_alloc ?_ _)); refine blk_put (cs := #[.string (⟨#[]⟩ : ByteArray), .bool false, .slice none 0 0]) ?_ 0 _ rfl; (with_reducible repeat (first | refine blk_drewN ?_ _ | refine blk_drew ?_ | refine blk_alloc ?_ _)); exact BK262.out⟩
         have n3_ : Aside0 (Below w.heap.size w (((w40.setCell ⟨gb262, 0, none⟩ (.string t256)).setCell ⟨gb262, 1, none⟩ (.bool false)).setCell ⟨gb262, 2, none⟩ (.slice Ao42 t258.length co42))) := ⟨by repeat (first | (with_reducible first | exact HB.out | apply below_alloc | apply pw_below_drewN | apply below_drew1 | refine below_set ?_ GE262.out) | exact HB.out)⟩
         (try clear HO_0)
         (try clear HO260)
         (try clear BK262)
         (try clear HB)
         generalize (((w40.setCell ⟨gb262, 0, none⟩ (.string t256)).setCell ⟨gb262, 1, none⟩ (.bool false)).setCell ⟨gb262, 2, none⟩ (.slice Ao42 t258.length co42)) = w43 at n0_ n1_ n2_ n3_ ⊢
         have HO_0 := n0_
         have HO260 := n1_
         have BK262 := n2_
         have HB := n3_
         clear n0_ n1_ n2_ n3_
         have n0_ := xa_ (Kd.V_drew HO_0.out)
         have n1_ := xa_ (Kd.V_drew HO260.out)
         have n2_ := xa_ (blk_drew BK262.out)
         have n3_ := xa_ (below_drew1 HB.out)
         clear HO_0
         clear HO260
         clear BK262
         clear HB
         have HO_0 := n0_
         have HO260 := n1_
         have BK262 := n2_
         have HB := n3_
         clear n0_ n1_ n2_ n3_
         refine start_ (n := 12) (S := fun w' => w'.cell? ⟨gb262, 0, none⟩ = some (.string t256) ∧ w'.cell? ⟨gb262, 1, none⟩ = some (.bool false) ∧ w'.cell? ⟨gb262, 2, none⟩ = some (.slice Ao42 t258.length co42)) (ds := []) (bs_ 12 0x0) (by kernel_rfl) rfl rfl ⟨(blk_cell BK262.out 0).trans rfl, (blk_cell BK262.out 1).trans rfl, (blk_cell BK262.out 2).trans rfl⟩ (fun hHeld => ?_); refine with_tabW tallymanref7_Move.tab12 tallymanref7_Move.bits12 (fun HT_ HW_ => ?_)
         generalize w43.drew = w44 at HO_0 HO260 BK262 HB hHeld ⊢
         refine pl_ [(0, some 42, 0x1), (1, some 43, 0x3), (3, some 45, 0xb), (4, some 46, 0x1b), (5, some 47, 0x3b)] ?_; iterate 5 (first | (refine pq_ (v := ?_) (a' := ?_) HT_.out rfl rfl (by kernel_rfl) (fun _ _ _ h => h) (Or.inl ⟨by rfl, ?_⟩) ?_ ?_; rotate_left; (intro w'; go_simp; with_reducible rfl); rotate_left; (simp only [nm_]; rfl)) | (refine tq_ (v := ?_) (a' := ?_) HT_.out HW_.out rfl rfl (by kernel_rfl) (fun _ _ _ h => h) (Or.inl ⟨by rfl, ?_⟩) hHeld ?_ ?_; rotate_left; (rintro w' ⟨s0, s1, s2⟩; go_simp; with_reducible rfl); rotate_left; (simp only [nm_]; rfl)))
         refine ql_ ?_
         refine one_ (i := 2) (N := some 44) (bs_ 12 0x3f) rfl rfl (one_of HT_.out (by kernel_rfl)) (by decide) (fun K hK => ?_)
         refine goes_ Tryz.func57 (by kernel_rfl) rfl #[.slice A0 l0.length c0, .string a1] (by rfl) rfl rfl (by (try simp only [ca_]); first | done | rfl) ?_
         with_reducible refine (tallymanref7_without.calls kj5 (fun k_ => ((P0_ k_ ∨ w.heap.size ≤ k_) ∧ k_ ≠ gb262)) _ _ l0 a1 t263 _ ?side1 A27.out).mono ?_
         (case side1 => exact HO_0.out)
         rintro e w45 ⟨v264, rfl, ho0, hb⟩
         refine ⟨_, rfl, ?_⟩
         have n0_ := xa_ (Kd.V_elder' (xV_ HO_0.out) (Kd.N_base ho0) hb)
         have n1_ := xa_ (Kd.V_elder' (xV_ HO260.out) (Kd.N_base ho0) hb)
         have n2_ := xa_ (Kd.N_lower (Kd.N_mono (ok' := fun k_ => (P0_ k_ ∨ w.heap.size ≤ k_) ∧ k_ ≠ gb262) ho0 (fun k_ hk_ => ⟨Or.elim hk_ (fun hs_ => hs_.1) (fun hn_ => (.inr (Nat.le_trans (below_size (xw_ HB.out)) hn_))), Or.elim hk_ (fun hs_ => hs_.2) (fun hn_ => (Kd.freshB (xb_ BK262.out) k_ hn_))⟩)) (below_size (xw_ HB.out)))
         have n3_ := xa_ (blk_below (xb_ BK262.out) hb)
         have n4_ := xa_ (below_step (xw_ HB.out) hb)
         clear HO_0
         clear HO260
         clear BK262
         clear HB
         have HO_0 := n0_
         have HO260 := n1_
         have HO265 := n2_
         have BK262 := n3_
         have HB := n4_
         clear n0_ n1_ n2_ n3_ n4_
         (try clear hb)
         (try clear hb2)
         (try clear hk)
         (try clear hi)
         (try clear ho0)
         obtain ⟨Ao46, co46, eo46⟩ := Kd.N_slice HO265.out
         (first | subst eo46 | (injection eo46 with f1_ f2_ f3_; have f4_ := f1_.symm; have f5_ := f3_.symm; clear f1_ f2_ f3_; subst f4_; subst f5_))
         refine hK.out _ _ ⟨(blk_cell BK262.out 0).trans rfl, (blk_cell BK262.out 1).trans rfl, (blk_cell BK262.out 2).trans rfl⟩ (fun hHeld => ?_)
         clear hK K
         refine norm_ (a' := ?_) ?_ ?_
         rotate_left
         ·show Act.put _ (some 44) _ = _
          simp only [nm_]
          rfl
         refine one_ (i := 6) (N := some 48) (bs_ 12 0x7f) rfl rfl (one_of HT_.out (by kernel_rfl)) (by decide) (fun K hK => ?_)
         refine goes_ Tryz.func7 (by kernel_rfl) rfl #[.slice Ao46 t263.length co46, .string a2, .slice Ao42 t258.length co42] (by rfl) rfl rfl (by (try simp only [ca_]); first | done | rfl) ?_
         with_reducible refine (tallymanref7_Put.calls kj5 (fun k_ => ((P0_ k_ ∨ w.heap.size ≤ k_) ∧ k_ ≠ gb262)) _ _ t263 a2 _ _ t258 t266 t269 _ ?side1 ?side2 ?side3 A28.out).mono ?_
         (case side1 => exact Kd.N_V (HO265.out))
         (case side2 => exact xC_ (Kd.V_reads' HO260.out).2.2)
         (case side3 => exact (Kd.V_reads' HO260.out).2.1)
         rintro e w47 ⟨v267, rfl, ho0, hb⟩
         refine ⟨_, rfl, ?_⟩
         have n0_ := xa_ (Kd.V_below (xV_ HO_0.out) hb)
         have n1_ := xa_ (Kd.V_below (xV_ HO260.out) hb)
         have n2_ := xa_ (Kd.N_below (xN_ HO265.out) hb)
         have n3_ := xa_ (Kd.V_lower (Kd.V_mono (ok' := fun k_ => (P0_ k_ ∨ w.heap.size ≤ k_) ∧ k_ ≠ gb262) ho0 (fun k_ hk_ => ⟨Or.elim hk_ (fun hs_ => hs_.1) (fun hn_ => (.inr (Nat.le_trans (below_size (xw_ HB.out)) hn_))), Or.elim hk_ (fun hs_ => hs_.2) (fun hn_ => (Kd.freshB (xb_ BK262.out) k_ hn_))⟩)) (below_size (xw_ HB.out)))
         have n4_ := xa_ (blk_below (xb_ BK262.out) hb)
         have n5_ := xa_ (below_step (xw_ HB.out) hb)
         clear HO_0
         clear HO260
         clear HO265
         clear BK262
         clear HB
         have HO_0 := n0_
         have HO260 := n1_
         have HO265 := n2_
         have HO268 := n3_
         have BK262 := n4_
         have HB := n5_
         clear n0_ n1_ n2_ n3_ n4_ n5_
         (try clear hb)
         (try clear hb2)
         (try clear hk)
         (try clear hi)
         (try clear ho0)
         refine hK.out _ _ ⟨(blk_cell BK262.out 0).trans rfl, (blk_cell BK262.out 1).trans rfl, (blk_cell BK262.out 2).trans rfl⟩ (fun hHeld => ?_)
         clear hK K
         refine norm_ (a' := ?_) ?_ ?_
         rotate_left
         ·show Act.put _ (some 48) _ = _
          simp only [nm_]
          rfl
         refine pl_ [(7, some 41, 0xff), (8, some 49, 0x1ff), (9, some 50, 0x3ff), (10, some 10, 0x7ff), (11, some 9, 0xfff)] ?_; iterate 5 (refine pq_ (v := ?_) (a' := ?_) HT_.out rfl rfl (by kernel_rfl) (fun _ _ _ h => h) (Or.inl ⟨by rfl, ?_⟩) ?_ ?_; rotate_left; (intro w'; go_simp; with_reducible rfl); rotate_left; (simp only [nm_]; rfl))
         refine ql_ ?_
         refine done_ (done_of HT_.out (by kernel_rfl)) ?_
         try go_wp2
         go_ret2
         exact ⟨_, by first | rfl | (simp [*, errW_none, errW_some] <;> rfl), by (with_reducible repeat (first | apply Kd.V_alloc | apply Kd.V_drewN | apply Kd.V_drew)); exact Kd.V_mono HO_0.out (fun _ hk => hk.1.1), by repeat (first | (with_reducible first | exact HB.out | apply below_alloc | apply pw_below_drewN | apply below_drew1 | refine below_set ?_ GE262.out) | exact HB.out)⟩
     ·rw [if_neg c16] at H
      have c16b0 : (t261 == 0) = false := beq_eq_false_iff_ne.mpr c16
      have c16b1 : (t261 != 0) = true := bne_iff_ne.mpr c16
      simp only [Option.some.injEq, Prod.mk.injEq] at H
      obtain ⟨rfl, rfl⟩ := H
      go_wp2_with (first | ((with_reducible refine gate_callee (f := 15) rfl ?_); refine goesL_ (some 27) rfl rfl Tryz.func15 (by kernel_rfl) rfl #[.slice A0 l0.length c0, .string a1] rfl (by (try simp only [ca_]); first | done | rfl) ?_; (with_reducible refine (tallymanref7_Find.calls kj5 (fun k_ => (P0_ k_ ∨ w.heap.size ≤ k_)) _ _ l0 a1 t256 t257 t258 t261 _ ?side1 A15.out).mono ?_); (case side1 => exact HO_0.out); rintro e w48 ⟨v259, rfl, ho0, hb⟩; refine ⟨_, rfl, ?_⟩; replace HO_0 := xa_ (Kd.V_below (xV_ HO_0.out) hb); replace HO260 := xa_ (Kd.V_lower (Kd.V_mono (ok' := fun k_ => (P0_ k_ ∨ w.heap.size ≤ k_)) ho0 (fun k_ hk_ => Or.elim hk_ (fun hs_ => hs_) (fun hn_ => (.inr (Nat.le_trans (below_size (xw_ HB.out)) hn_))))) (below_size (xw_ HB.out))); replace HB := xa_ (below_step (xw_ HB.out) hb); (try clear hb); (try clear hb2); (try clear hk); (try clear hi); (try clear ho0)) | ((with_reducible refine gate_dst (N := 8) rfl ?_); refine box_event ?hg (N := 8) ?hd (cs := #[.string (⟨#[]⟩ : ByteArray), .bool false, .slice none 0 0]) (t := 45) ?hr ?_; (case hd => rfl); (case hg => rfl); (case hr => first | (go_simp; done) | (go_simp; rfl)); intro gb262 hg w49 hbox hb; have BK262 := xa_ (hbox); have GW262 := xa_ ((by rw [hg]; exact (below_size (xw_ HB.out)) : w.heap.size ≤ gb262)); have GE262 := xa_ ((by rw [hg]; exact (below_size (xw_ HB.out)) : w.heap.size ≤ gb262)); replace HO_0 := xa_ (Kd.V_below (Kd.V_elderB (xV_ HO_0.out) gb262 (Nat.le_of_eq hg.symm)) hb); replace HO260 := xa_ (Kd.V_below (Kd.V_elderB (xV_ HO260.out) gb262 (Nat.le_of_eq hg.symm)) hb); replace HB := xa_ (below_step (xw_ HB.out) hb); clear hb hbox hg; have hcz50_0 : w49.cell? ⟨gb262, 0, none⟩ = some (.string (⟨#[]⟩ : ByteArray)) := (blk_cell BK262.out 0).trans rfl; have hcz50_1 : w49.cell? ⟨gb262, 1, none⟩ = some (.bool false) := (blk_cell BK262.out 1).trans rfl; have hcz50_2 : w49.cell? ⟨gb262, 2, none⟩ = some (.slice none 0 0) := (blk_cell BK262.out 2).trans rfl; have hfz50_0 := blk_frozen BK262.out 0; have hfz50_1 := blk_frozen BK262.out 1; have hfz50_2 := blk_frozen BK262.out 2; obtain ⟨Ao51, co51, eo51⟩ := Kd.V_slice HO260.out; subst eo51))
      go_ret2
      exact ⟨_, by first | rfl | (simp [*, errW_none, errW_some] <;> rfl), by (with_reducible repeat (first | apply Kd.V_alloc | apply Kd.V_drewN | apply Kd.V_drew)); exact Kd.V_mono (vf_ (vf_ (vf_ (Kd.V_mono HO_0.out (fun k_ hk => (⟨hk, hk.2⟩ : _ ∧ k_ ≠ gb262)))))) (fun _ hk => hk.1.1), by repeat (first | (with_reducible first | exact HB.out | apply below_alloc | apply pw_below_drewN | apply below_drew1 | refine below_set ?_ GE262.out) | exact HB.out)⟩
 ·replace c5 := Bool.eq_false_iff.mpr c5
  subst c5
  have H1 : (some (l0, 1)) = some (r1, r2) := by rw [if_neg (show ¬ (false = true) by decide)] at H; exact H
  clear H
  have H := H1
  clear H1
  simp only [Option.some.injEq, Prod.mk.injEq] at H
  obtain ⟨rfl, rfl⟩ := H
  go_enter Tryz.func13, Tryz.ntmps13
  go_wp2_with (first | ((with_reducible refine gate_callee (f := 48) rfl ?_); refine goesL_ (some 12) rfl rfl Tryz.func48 (by kernel_rfl) rfl #[.slice A0 l0.length c0] rfl (by (try simp only [ca_]); first | done | rfl) ?_; (with_reducible refine (tallymanref7_GoodTree.calls k _ _ l0 false _ ?side1 ?side2 A4.out).mono ?_); (case side1 => exact xC_ (Kd.V_reads' HO0.out).2.2); (case side2 => exact (Kd.V_reads' HO0.out).2.1); rintro e w52 ⟨rfl, hb⟩; refine ⟨_, rfl, ?_⟩; replace HO0 := xa_ (Kd.V_below (xV_ HO0.out) hb); replace HB := xa_ (below_step (xw_ HB.out) hb); (try clear hb); (try clear hb2); (try clear hk); (try clear hi)))
  go_ret2
  exact ⟨_, by first | rfl | (simp [*, errW_none, errW_some] <;> rfl), by (with_reducible repeat (first | apply Kd.V_alloc | apply Kd.V_drewN | apply Kd.V_drew)); exact HO0.out, by repeat (first | (with_reducible first | exact HB.out | apply below_alloc | apply pw_below_drewN | apply below_drew1) | exact HB.out)⟩
end Go.Proofs.YtidlldfghkaeeaaGreatDoor.P
