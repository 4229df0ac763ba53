/- Put together by pack2.py: PfTallymanref7Kids, PfTallymanref7Room -/
import Derived.Test.YtidlldfghkaeeaaGreatDoorZyRefNamesEtc
import Derived.Test.YtidlldfghkaeeaaGreatDoorZyPfTallymanref7GoodTree
import Derived.Test.YtidlldfghkaeeaaGreatDoorZyPfTallymanref7Up
import Derived.Test.YtidlldfghkaeeaaGreatDoorZyPfTallymanlaw8OwnEtc
import Derived.Test.YtidlldfghkaeeaaGreatDoorZyW0
set_option linter.unusedVariables false
set_option linter.unusedSimpArgs false
set_option maxHeartbeats 8000000
set_option maxRecDepth 100000
namespace Go.Proofs.YtidlldfghkaeeaaGreatDoor.P
open Go.RowKit Go.Proofs.YtidlldfghkaeeaaGreatDoorW.PrintWords Go.Proofs.YtidlldfghkaeeaaGreatDoorW.PrintLast Go.Proofs.YtidlldfghkaeeaaGreatDoorW.PrintMore
attribute [local go_sem] max2_int min2_int max_two min_two max_three min_three max_four min_four
mutual
def tallymanref7_Kids.l0 : Nat → List (S45) → ByteArray → List ByteArray → Int → Option (List ByteArray)
 | 0, _, _, _, _ => none
 | k + 1, x0, x1, x5, x6 => if x6 < (x0.length : Int) then ((tallymanref7_GoodTree.f k x0).bind fun t285 => (tallymanref7_Kids.j1 k x0 x1 x5 x6 t285)) else (tallymanref7_Kids.j1 k x0 x1 x5 x6 false)
def tallymanref7_Kids.j1 : Nat → List (S45) → ByteArray → List ByteArray → Int → Bool → Option (List ByteArray)
 | 0, _, _, _, _, _ => none
 | k + 1, x0, x1, x5, x6, x16 => if x16 = true then (if 0 ≤ x6 then (if x6 < (x0.length : Int) then ((tallymanref7_Up.f k ((rd_T45 x0 x6).f0)).bind fun bt287 => (if bt287.1.toList = x1.toList then (if x5.length < 8796093022208 then (tallymanref7_Kids.l0 k x0 x1 (x5 ++ [(rd_T45 x0 x6).f0]) (wrap64 (x6 + 1))) else (none)) else (tallymanref7_Kids.l0 k x0 x1 x5 (wrap64 (x6 + 1))))) else (none)) else (none)) else (some x5)
end
def tallymanref7_Kids.f (k : Nat) (l0 : List (S45)) (a1 : ByteArray) : Option (List ByteArray) := tallymanref7_Kids.l0 k l0 a1 ([] : List ByteArray) 0
theorem tallymanref7_Kids.calls (k : Nat) (A0 : Option Addr) (c0 : Nat) (l0 : List (S45)) (a1 : ByteArray) (r : List ByteArray) (w : World) (hr0 : Kd.C k45 w A0 l0.length l0) (hc0 : l0.length ≤ c0) (h : tallymanref7_Kids.f k l0 a1 = some r) :
  Calls Tryz.prog 21 #[.slice A0 l0.length c0, .string a1] w fun e w' => ∃ v0_ : Value, e = .returned (v0_) ∧ Kd.R Kd.string 9 w' w.heap.size (fun _ => True) v0_ r ∧ Below w.heap.size w w' := by
 have HR0 := Aside0.mk hr0
 have HC0 := Aside0.mk hc0
 clear hr0 hc0
 have HB := xa_ (Below.refl w.heap.size w)
 have H : (tallymanref7_Kids.l0 k l0 a1 ([] : List ByteArray) 0) = some r := h
 clear h
 have H' := Aside0.mk H
 clear H
 go_enter Tryz.func21, Tryz.ntmps21
 go_wp2
 go_loopg [5, 6] k (fun kq v5 v6 w' => ∃ (x5_1 : List ByteArray) (x6_1 : Int), v6 = .int .i64 x6_1 ∧ Aside0 (tallymanref7_Kids.l0 kq l0 a1 x5_1 x6_1 = some r) ∧ Aside0 (kq ≤ k) ∧ Aside0 (Kd.R Kd.string 9 w' w.heap.size (fun _ => True) v5 x5_1) ∧ Aside0 (Below w.heap.size w w'))
 case atStart => exact ⟨(([] : List ByteArray)), (0), (by first | rfl | (simp; done) | (simp [*]; done)), H', ⟨Nat.le_refl _⟩, ⟨by first | exact Kd.R_nil _ _ _ _ _ | exact Kd.N_nil _ _ _ _ _ | exact Kd.V_nil _ _ _ _ _ | exact Kd.Q_nil _ _ _ _ _ | exact Kd.S_nil _ _ _ _ _⟩, ⟨by repeat (first | (with_reducible first | exact HB.out | apply below_alloc | apply pw_below_drewN | apply below_drew1) | exact HB.out)⟩⟩
 case round =>
  clear H'
  try clear c2
  try clear p2
  obtain ⟨x5_1, x6_1, rfl, HA, HK1, HO_5, HB⟩ := hrel
  cases gk with
  | zero => exact absurd HA.out (by simp [tallymanref7_Kids.l0])
  | succ k1 =>
   have H := HA.out
   clear HA
   simp only [tallymanref7_Kids.l0] at H
   have HC3 := Aside0.mk H
   clear H
   go_upto_region 3 with (fail)
   go_cut [16] (fun v16 wc => ∃ (kq : Nat) (x16_2 : Bool), v16 = .bool x16_2 ∧ Aside0 (tallymanref7_Kids.j1 kq l0 a1 x5_1 x6_1 x16_2 = some r) ∧ Aside0 (kq ≤ k1) ∧ Aside0 (Kd.R Kd.string 9 wc w.heap.size (fun _ => True) u5 x5_1) ∧ Aside0 (Below w.heap.size w wc))
   case first =>
    have H := HC3.out
    clear HC3
    by_cases c4 : x6_1 < (l0.length : Int)
    ·rw [if_pos c4] at H
     have c4b0 : decide (x6_1 < (l0.length : Int)) = true := decide_eq_true c4
     clear c4
     (first | rw [c4b0] | (simp only [i64_w, i32_w]; rw [c4b0]) | skip)
     replace H := Option.bind_eq_some_iff.mp H
     obtain ⟨t285, A50, H⟩ := H
     replace H : (tallymanref7_Kids.j1 k1 l0 a1 x5_1 x6_1 t285) = some r := H
     have A5 := Aside0.mk A50
     clear A50
     have H' := Aside0.mk H
     clear H
     go_wp2_with (first | (go_at_call 48; (with_reducible refine (tallymanref7_GoodTree.calls k1 _ _ l0 t285 _ ?side1 ?side2 A5.out).mono ?_); (case side1 => exact xC_ (Kd.C_below HR0.out HB.out)); (case side2 => exact HC0.out); rintro e w6 ⟨rfl, hb⟩; replace HO_5 := xa_ (Kd.R_below (xR_ HO_5.out) hb); replace HB := xa_ (below_step (xw_ HB.out) hb); (try clear hb); (try clear hb2); (try clear hk); (try clear hi)))
     go_meet
     case rel => exact ⟨_, (t285), (by first | rfl | (simp; done) | (simp [*]; done)), H', ⟨by have := HK1.out; first | omega | exact Nat.le_refl _⟩, ⟨by (with_reducible repeat (first | apply Kd.R_alloc | apply Kd.R_drewN | apply Kd.R_drew)); exact HO_5.out⟩, ⟨by repeat (first | (with_reducible first | exact HB.out | apply below_alloc | apply pw_below_drewN | apply below_drew1) | exact HB.out)⟩⟩
    ·rw [if_neg c4] at H
     have c4b0 : decide (x6_1 < (l0.length : Int)) = false := decide_eq_false c4
     clear c4
     (first | rw [c4b0] | (simp only [i64_w, i32_w]; rw [c4b0]) | skip)
     have H' := Aside0.mk H
     clear H
     go_wp2
     go_meet
     case rel => exact ⟨_, (false), (by first | rfl | (simp; done) | (simp [*]; done)), H', ⟨by have := HK1.out; first | omega | exact Nat.le_refl _⟩, ⟨by (with_reducible repeat (first | apply Kd.R_alloc | apply Kd.R_drewN | apply Kd.R_drew)); exact HO_5.out⟩, ⟨by repeat (first | (with_reducible first | exact HB.out | apply below_alloc | apply pw_below_drewN | apply below_drew1) | exact HB.out)⟩⟩
   case rest =>
    clear HC3
    try clear c2
    try clear p2
    try clear c4
    try clear c4b0
    try clear p2
    obtain ⟨kq, x16_2, rfl, HA, HJ2, HO_5, HB⟩ := hcut
    cases kq with
    | zero => exact absurd HA.out (by simp [tallymanref7_Kids.j1])
    | succ kj2 =>
     have H := HA.out
     clear HA
     simp only [tallymanref7_Kids.j1] at H
     by_cases c7 : x16_2 = true
     ·subst c7
      have H1 : (if 0 ≤ x6_1 then (if x6_1 < (l0.length : Int) then ((tallymanref7_Up.f kj2 ((rd_T45 l0 x6_1).f0)).bind fun bt287 => (if bt287.1.toList = a1.toList then (if x5_1.length < 8796093022208 then (tallymanref7_Kids.l0 kj2 l0 a1 (x5_1 ++ [(rd_T45 l0 x6_1).f0]) (wrap64 (x6_1 + 1))) else (none)) else (tallymanref7_Kids.l0 kj2 l0 a1 x5_1 (wrap64 (x6_1 + 1))))) else (none)) else (none)) = some r := by rw [if_pos rfl] at H; exact H
      clear H
      have H := H1
      clear H1
      by_cases c8 : 0 ≤ x6_1
      ·rw [if_pos c8] at H
       have c8b0 : decide (0 ≤ x6_1) = true := decide_eq_true c8
       clear c8
       by_cases c9 : x6_1 < (l0.length : Int)
       ·rw [if_pos c9] at H
        have c9b0 : decide (x6_1 < (l0.length : Int)) = true := decide_eq_true c9
        clear c9
        replace H := Option.bind_eq_some_iff.mp H
        obtain ⟨⟨t287, t288⟩, A100, H⟩ := H
        replace H : (if t287.toList = a1.toList then (if x5_1.length < 8796093022208 then (tallymanref7_Kids.l0 kj2 l0 a1 (x5_1 ++ [(rd_T45 l0 x6_1).f0]) (wrap64 (x6_1 + 1))) else (none)) else (tallymanref7_Kids.l0 kj2 l0 a1 x5_1 (wrap64 (x6_1 + 1)))) = some r := H
        have A10 := Aside0.mk A100
        clear A100
        by_cases c11 : t287.toList = a1.toList
        ·rw [if_pos c11] at H
         have c11b0 : (t287.toList == a1.toList) = true := beq_iff_eq.mpr c11
         have c11b1 : (t287.toList != a1.toList) = false := bne_eq_false_iff_eq.mpr c11
         clear c11
         by_cases c12 : x5_1.length < 8796093022208
         ·rw [if_pos c12] at H
          have LMc12 := Aside0.mk c12
          clear c12
          obtain ⟨y290, hy290⟩ : ∃ y_ : List ByteArray, y_ = (x5_1 ++ [(rd_T45 l0 x6_1).f0]) := ⟨_, rfl⟩
          replace H : (tallymanref7_Kids.l0 kj2 l0 a1 y290 (wrap64 (x6_1 + 1))) = some r := by first | (rw [hy290]; with_reducible exact H) | (have H2_ := (Option.bind_some _ _).symm.trans H; rw [hy290]; with_reducible exact H2_) | (have H2_ := (Option.bind_some _ _).symm.trans H; with_reducible exact H2_) | with_reducible exact H | (rw [hy290]; exact H) | exact H
          have Ny290 := Aside0.mk hy290
          clear hy290
          have H' := Aside0.mk H
          clear H
          have p286 : 0 ≤ (x6_1 : Int) := of_decide_eq_true (by first | (with_reducible assumption) | assumption)
          have q286 : x6_1 < (l0.length : Int) := of_decide_eq_true (by first | (with_reducible assumption) | assumption)
          obtain ⟨ad286, A286_2, c286_2, e286, hx286_0, hx286_1, hx286_2, hl286_2, hi286_2⟩ := at_T45 HR0.out x6_1 p286 q286
          cases e286
          replace hx286_0 := (HB.out.cell (World.block_lt_of_cell? w _ hx286_0)).trans hx286_0
          replace hx286_1 := (HB.out.cell (World.block_lt_of_cell? w _ hx286_1)).trans hx286_1
          replace hx286_2 := (HB.out.cell (World.block_lt_of_cell? w _ hx286_2)).trans hx286_2
          have HR286_2 := Aside0.mk hi286_2
          have HC286_2 := Aside0.mk hl286_2
          clear hi286_2 hl286_2
          replace p286 := eq_true p286
          replace q286 := eq_true q286
          go_wp2_with (first | ((with_reducible refine gate_callee (f := 62) rfl ?_); refine goesL_ (some 25) rfl rfl Tryz.func62 (by kernel_rfl) rfl #[.string ((rd_T45 l0 x6_1).f0)] rfl (by (try simp only [ca_]); first | done | rfl) ?_; (with_reducible refine (tallymanref7_Up.calls kj2 ((rd_T45 l0 x6_1).f0) t287 t288 _ A10.out).mono ?_); rintro e w13 ⟨rfl, hb⟩; refine ⟨_, rfl, ?_⟩; replace HO_5 := xa_ (Kd.R_below (xR_ HO_5.out) hb); replace HB := xa_ (below_step (xw_ HB.out) hb); (try clear hb); (try clear hb2); (try clear hk); (try clear hi); have p289 : 0 ≤ (x6_1 : Int) := of_decide_eq_true (by first | (with_reducible assumption) | assumption); have q289 : x6_1 < (l0.length : Int) := of_decide_eq_true (by first | (with_reducible assumption) | assumption); obtain ⟨ad289, A289_2, c289_2, e289, hx289_0, hx289_1, hx289_2, hl289_2, hi289_2⟩ := at_T45 HR0.out x6_1 p289 q289; obtain rfl : ad286 = ad289 := (by injection e289); replace hx289_0 := (HB.out.cell (World.block_lt_of_cell? w _ hx289_0)).trans hx289_0; replace hx289_1 := (HB.out.cell (World.block_lt_of_cell? w _ hx289_1)).trans hx289_1; replace hx289_2 := (HB.out.cell (World.block_lt_of_cell? w _ hx289_2)).trans hx289_2; have HR289_2 := Aside0.mk hi289_2; have HC289_2 := Aside0.mk hl289_2; clear hi289_2 hl289_2; replace p289 := eq_true p289; replace q289 := eq_true q289) | ((with_reducible refine gate_builtin (b := .append) (xs := #[.tmp 31, .tmp 37]) rfl ?_); at_builtin; refine Kd.R_append Kd.string (w0 := w) w.heap.size rfl (.tmp 31) (.tmp 37) 52 9 (.string ⟨#[]⟩) 16 rfl Tryz.underlying52 info9 rfl (by decide) (by omega) u5 x5_1 ((rd_T45 l0 x6_1).f0) [.string ((rd_T45 l0 x6_1).f0)] (fun _ => True) (fun _ => False) rfl rfl ?aP (fun _ hk => hk.elim) ?aF ?aO ?aB ?aS ?aL ?_; (case aP => exact rfl); (case aB => exact (xw_ HB.out)); (case aF => exact (fun _ _ => trivial)); (case aO => exact (xR_ HO_5.out)); (case aS => exact (below_size (xw_ HB.out))); (case aL => have := LMc12.out; omega); intro v291 w14 ho hb hg hat; rw [← Ny290.out] at ho; replace HB := xa_ (hb); replace HO292 := xa_ (ho); clear ho hb hg hat))
          go_roundg kj2
          case measure => have := HK1.out; have := HJ2.out; omega
          case rel => exact ⟨(y290), (wrap64 (x6_1 + 1)), (by first | rfl | (simp; done) | (simp [*]; done)), H', ⟨by have := HK1.out; have := HJ2.out; omega⟩, ⟨by (with_reducible repeat (first | apply Kd.R_alloc | apply Kd.R_drewN | apply Kd.R_drew)); exact HO292.out⟩, ⟨by repeat (first | (with_reducible first | exact HB.out | apply below_alloc | apply pw_below_drewN | apply below_drew1) | exact HB.out)⟩⟩
         ·rw [if_neg c12] at H
          exact absurd H (by simp)
        ·rw [if_neg c11] at H
         have c11b0 : (t287.toList == a1.toList) = false := beq_eq_false_iff_ne.mpr c11
         have c11b1 : (t287.toList != a1.toList) = true := bne_iff_ne.mpr c11
         have H' := Aside0.mk H
         clear H
         have p286 : 0 ≤ (x6_1 : Int) := of_decide_eq_true (by first | (with_reducible assumption) | assumption)
         have q286 : x6_1 < (l0.length : Int) := of_decide_eq_true (by first | (with_reducible assumption) | assumption)
         obtain ⟨ad286, A286_2, c286_2, e286, hx286_0, hx286_1, hx286_2, hl286_2, hi286_2⟩ := at_T45 HR0.out x6_1 p286 q286
         cases e286
         replace hx286_0 := (HB.out.cell (World.block_lt_of_cell? w _ hx286_0)).trans hx286_0
         replace hx286_1 := (HB.out.cell (World.block_lt_of_cell? w _ hx286_1)).trans hx286_1
         replace hx286_2 := (HB.out.cell (World.block_lt_of_cell? w _ hx286_2)).trans hx286_2
         have HR286_2 := Aside0.mk hi286_2
         have HC286_2 := Aside0.mk hl286_2
         clear hi286_2 hl286_2
         replace p286 := eq_true p286
         replace q286 := eq_true q286
         go_wp2_with (first | ((with_reducible refine gate_callee (f := 62) rfl ?_); refine goesL_ (some 25) rfl rfl Tryz.func62 (by kernel_rfl) rfl #[.string ((rd_T45 l0 x6_1).f0)] rfl (by (try simp only [ca_]); first | done | rfl) ?_; (with_reducible refine (tallymanref7_Up.calls kj2 ((rd_T45 l0 x6_1).f0) t287 t288 _ A10.out).mono ?_); rintro e w15 ⟨rfl, hb⟩; refine ⟨_, rfl, ?_⟩; replace HO_5 := xa_ (Kd.R_below (xR_ HO_5.out) hb); replace HB := xa_ (below_step (xw_ HB.out) hb); (try clear hb); (try clear hb2); (try clear hk); (try clear hi)))
         go_roundg kj2
         case measure => have := HK1.out; have := HJ2.out; omega
         case rel => exact ⟨(x5_1), (wrap64 (x6_1 + 1)), (by first | rfl | (simp; done) | (simp [*]; done)), H', ⟨by have := HK1.out; have := HJ2.out; omega⟩, ⟨by (with_reducible repeat (first | apply Kd.R_alloc | apply Kd.R_drewN | apply Kd.R_drew)); exact HO_5.out⟩, ⟨by repeat (first | (with_reducible first | exact HB.out | apply below_alloc | apply pw_below_drewN | apply below_drew1) | exact HB.out)⟩⟩
       ·rw [if_neg c9] at H
        exact absurd H (by simp)
      ·rw [if_neg c8] at H
       exact absurd H (by simp)
     ·replace c7 := Bool.eq_false_iff.mpr c7
      subst c7
      have H1 : (some x5_1) = some r := by rw [if_neg (show ¬ (false = true) by decide)] at H; exact H
      clear H
      have H := H1
      clear H1
      obtain rfl := Option.some.inj H
      go_wp2
      go_ret
      exact ⟨_, by first | rfl | (simp [*, errW_none, errW_some] <;> rfl), by (with_reducible repeat (first | apply Kd.R_alloc | apply Kd.R_drewN | apply Kd.R_drew)); exact HO_5.out, by repeat (first | (with_reducible first | exact HB.out | apply below_alloc | apply pw_below_drewN | apply below_drew1) | exact HB.out)⟩
def tallymanref7_room.f (k : Nat) (l0 : List (S45)) (a1 : ByteArray) : Option (Int) := (tallymanref7_Up.f k a1).bind fun bt175 => (if bt175.1.toList = ([] : List UInt8) then (some 0) else ((tallymanref7_At.f k l0 bt175.1).bind fun t177 => (if t177 < 0 then (some 5) else (if 0 ≤ t177 then (if t177 < (l0.length : Int) then (if ((rd_T45 l0 t177).f1 = true) then (some 0) else (some 7)) else (none)) else (none)))))
theorem tallymanref7_room.calls (k : Nat) (A0 : Option Addr) (c0 : Nat) (l0 : List (S45)) (a1 : ByteArray) (r : Int) (w : World) (hr0 : Kd.C k45 w A0 l0.length l0) (hc0 : l0.length ≤ c0) (h : tallymanref7_room.f k l0 a1 = some r) :
  Calls Tryz.prog 50 #[.slice A0 l0.length c0, .string a1] w fun e w' => e = .returned (.int .i64 r) ∧ Below w.heap.size w w' := by
 have HR0 := Aside0.mk hr0
 have HC0 := Aside0.mk hc0
 clear hr0 hc0
 have HB := xa_ (Below.refl w.heap.size w)
 have H : ((tallymanref7_Up.f k a1).bind fun bt175 => (if bt175.1.toList = ([] : List UInt8) then (some 0) else ((tallymanref7_At.f k l0 bt175.1).bind fun t177 => (if t177 < 0 then (some 5) else (if 0 ≤ t177 then (if t177 < (l0.length : Int) then (if ((rd_T45 l0 t177).f1 = true) then (some 0) else (some 7)) else (none)) else (none)))))) = some r := h
 clear h
 replace H := Option.bind_eq_some_iff.mp H
 obtain ⟨⟨t175, t176⟩, A30, H⟩ := H
 replace H : (if t175.toList = ([] : List UInt8) then (some 0) else ((tallymanref7_At.f k l0 t175).bind fun t177 => (if t177 < 0 then (some 5) else (if 0 ≤ t177 then (if t177 < (l0.length : Int) then (if ((rd_T45 l0 t177).f1 = true) then (some 0) else (some 7)) else (none)) else (none))))) = some r := H
 have A3 := Aside0.mk A30
 clear A30
 by_cases c4 : t175.toList = ([] : List UInt8)
 ·rw [if_pos c4] at H
  have c4b0 : (t175.toList == ([] : List UInt8)) = true := beq_iff_eq.mpr c4
  have c4b1 : (t175.toList != ([] : List UInt8)) = false := bne_eq_false_iff_eq.mpr c4
  have c4b2 : t175.toList.isEmpty = true := by simpa using c4
  clear c4
  obtain rfl := Option.some.inj H
  go_enter Tryz.func50, Tryz.ntmps50
  go_wp2_with (first | ((with_reducible refine gate_callee (f := 62) rfl ?_); refine goesL_ (some 10) rfl rfl Tryz.func62 (by kernel_rfl) rfl #[.string a1] rfl (by (try simp only [ca_]); first | done | rfl) ?_; (with_reducible refine (tallymanref7_Up.calls k a1 t175 t176 _ A3.out).mono ?_); rintro e w5 ⟨rfl, hb⟩; refine ⟨_, rfl, ?_⟩; replace HB := xa_ (below_step (xw_ HB.out) hb); (try clear hb); (try clear hb2); (try clear hk); (try clear hi)))
  go_ret
  exact ⟨by first | rfl | (simp [*, errW_none, errW_some] <;> rfl), by repeat (first | (with_reducible first | exact HB.out | apply below_alloc | apply pw_below_drewN | apply below_drew1) | exact HB.out)⟩
 ·rw [if_neg c4] at H
  have c4b0 : (t175.toList == ([] : List UInt8)) = false := beq_eq_false_iff_ne.mpr c4
  have c4b1 : (t175.toList != ([] : List UInt8)) = true := bne_iff_ne.mpr c4
  have c4b2 : t175.toList.isEmpty = false := by simpa using c4
  replace H := Option.bind_eq_some_iff.mp H
  obtain ⟨t177, A60, H⟩ := H
  replace H : (if t177 < 0 then (some 5) else (if 0 ≤ t177 then (if t177 < (l0.length : Int) then (if ((rd_T45 l0 t177).f1 = true) then (some 0) else (some 7)) else (none)) else (none))) = some r := H
  have A6 := Aside0.mk A60
  clear A60
  by_cases c7 : t177 < 0
  ·rw [if_pos c7] at H
   have c7b0 : decide (t177 < 0) = true := decide_eq_true c7
   clear c7
   obtain rfl := Option.some.inj H
   go_enter Tryz.func50, Tryz.ntmps50
   go_wp2_with (first | ((with_reducible refine gate_callee (f := 62) rfl ?_); refine goesL_ (some 10) rfl rfl Tryz.func62 (by kernel_rfl) rfl #[.string a1] rfl (by (try simp only [ca_]); first | done | rfl) ?_; (with_reducible refine (tallymanref7_Up.calls k a1 t175 t176 _ A3.out).mono ?_); rintro e w8 ⟨rfl, hb⟩; refine ⟨_, rfl, ?_⟩; replace HB := xa_ (below_step (xw_ HB.out) hb); (try clear hb); (try clear hb2); (try clear hk); (try clear hi)) | ((with_reducible refine gate_callee (f := 51) rfl ?_); refine goesL_ (some 17) rfl rfl Tryz.func51 (by kernel_rfl) rfl #[.slice A0 l0.length c0, .string t175] rfl (by (try simp only [ca_]); first | done | rfl) ?_; (with_reducible refine (tallymanref7_At.calls k _ _ l0 t175 t177 _ ?side1 ?side2 A6.out).mono ?_); (case side1 => exact xC_ (Kd.C_below HR0.out HB.out)); (case side2 => exact HC0.out); rintro e w' ⟨rfl, ⟨nd, rfl⟩⟩; refine ⟨_, rfl, ?_⟩))
   go_ret
   exact ⟨by first | rfl | (simp [*, errW_none, errW_some] <;> rfl), by repeat (first | (with_reducible first | exact HB.out | apply below_alloc | apply pw_below_drewN | apply below_drew1) | exact HB.out)⟩
  ·rw [if_neg c7] at H
   have c7b0 : decide (t177 < 0) = false := decide_eq_false c7
   clear c7
   by_cases c9 : 0 ≤ t177
   ·rw [if_pos c9] at H
    have c9b0 : decide (0 ≤ t177) = true := decide_eq_true c9
    clear c9
    by_cases c10 : t177 < (l0.length : Int)
    ·rw [if_pos c10] at H
     have c10b0 : decide (t177 < (l0.length : Int)) = true := decide_eq_true c10
     clear c10
     obtain ⟨bq11, hbq11⟩ : ∃ b_ : Bool, b_ = ((rd_T45 l0 t177).f1) := ⟨_, rfl⟩
     replace H : (if (bq11 = true) then (some 0) else (some 7)) = some r := by rw [← hbq11] at H; exact H
     have Nbq11 := Aside0.mk hbq11
     clear hbq11
     by_cases c12 : (bq11 = true)
     ·subst c12
      have H1 : (some 0) = some r := by rw [if_pos rfl] at H; exact H
      clear H
      have H := H1
      clear H1
      obtain rfl := Option.some.inj H
      go_enter Tryz.func50, Tryz.ntmps50
      go_wp2_with (first | ((with_reducible refine gate_callee (f := 62) rfl ?_); refine goesL_ (some 10) rfl rfl Tryz.func62 (by kernel_rfl) rfl #[.string a1] rfl (by (try simp only [ca_]); first | done | rfl) ?_; (with_reducible refine (tallymanref7_Up.calls k a1 t175 t176 _ A3.out).mono ?_); rintro e w13 ⟨rfl, hb⟩; refine ⟨_, rfl, ?_⟩; replace HB := xa_ (below_step (xw_ HB.out) hb); (try clear hb); (try clear hb2); (try clear hk); (try clear hi)) | ((with_reducible refine gate_callee (f := 51) rfl ?_); refine goesL_ (some 17) rfl rfl Tryz.func51 (by kernel_rfl) rfl #[.slice A0 l0.length c0, .string t175] rfl (by (try simp only [ca_]); first | done | rfl) ?_; (with_reducible refine (tallymanref7_At.calls k _ _ l0 t175 t177 _ ?side1 ?side2 A6.out).mono ?_); (case side1 => exact xC_ (Kd.C_below HR0.out HB.out)); (case side2 => exact HC0.out); rintro e w' ⟨rfl, ⟨nd, rfl⟩⟩; refine ⟨_, rfl, ?_⟩; have p178 : 0 ≤ (t177 : Int) := of_decide_eq_true (by first | (with_reducible assumption) | assumption); have q178 : t177 < (l0.length : Int) := of_decide_eq_true (by first | (with_reducible assumption) | assumption); obtain ⟨ad178, A178_2, c178_2, e178, hx178_0, hx178_1, hx178_2, hl178_2, hi178_2⟩ := at_T45 HR0.out t177 p178 q178; (try rw [← Nbq11.out] at hx178_1); cases e178; replace hx178_0 := (HB.out.cell (World.block_lt_of_cell? w _ hx178_0)).trans hx178_0; replace hx178_1 := (HB.out.cell (World.block_lt_of_cell? w _ hx178_1)).trans hx178_1; replace hx178_2 := (HB.out.cell (World.block_lt_of_cell? w _ hx178_2)).trans hx178_2; have HR178_2 := Aside0.mk hi178_2; have HC178_2 := Aside0.mk hl178_2; clear hi178_2 hl178_2; replace p178 := eq_true p178; replace q178 := eq_true q178))
      go_ret
      exact ⟨by first | rfl | (simp [*, errW_none, errW_some] <;> rfl), by repeat (first | (with_reducible first | exact HB.out | apply below_alloc | apply pw_below_drewN | apply below_drew1) | exact HB.out)⟩
     ·replace c12 := Bool.eq_false_iff.mpr c12
      subst c12
      have H1 : (some 7) = some r := by rw [if_neg (show ¬ (false = true) by decide)] at H; exact H
      clear H
      have H := H1
      clear H1
      obtain rfl := Option.some.inj H
      go_enter Tryz.func50, Tryz.ntmps50
      go_wp2_with (first | ((with_reducible refine gate_callee (f := 62) rfl ?_); refine goesL_ (some 10) rfl rfl Tryz.func62 (by kernel_rfl) rfl #[.string a1] rfl (by (try simp only [ca_]); first | done | rfl) ?_; (with_reducible refine (tallymanref7_Up.calls k a1 t175 t176 _ A3.out).mono ?_); rintro e w14 ⟨rfl, hb⟩; refine ⟨_, rfl, ?_⟩; replace HB := xa_ (below_step (xw_ HB.out) hb); (try clear hb); (try clear hb2); (try clear hk); (try clear hi)) | ((with_reducible refine gate_callee (f := 51) rfl ?_); refine goesL_ (some 17) rfl rfl Tryz.func51 (by kernel_rfl) rfl #[.slice A0 l0.length c0, .string t175] rfl (by (try simp only [ca_]); first | done | rfl) ?_; (with_reducible refine (tallymanref7_At.calls k _ _ l0 t175 t177 _ ?side1 ?side2 A6.out).mono ?_); (case side1 => exact xC_ (Kd.C_below HR0.out HB.out)); (case side2 => exact HC0.out); rintro e w' ⟨rfl, ⟨nd, rfl⟩⟩; refine ⟨_, rfl, ?_⟩; have p178 : 0 ≤ (t177 : Int) := of_decide_eq_true (by first | (with_reducible assumption) | assumption); have q178 : t177 < (l0.length : Int) := of_decide_eq_true (by first | (with_reducible assumption) | assumption); obtain ⟨ad178, A178_2, c178_2, e178, hx178_0, hx178_1, hx178_2, hl178_2, hi178_2⟩ := at_T45 HR0.out t177 p178 q178; (try rw [← Nbq11.out] at hx178_1); cases e178; replace hx178_0 := (HB.out.cell (World.block_lt_of_cell? w _ hx178_0)).trans hx178_0; replace hx178_1 := (HB.out.cell (World.block_lt_of_cell? w _ hx178_1)).trans hx178_1; replace hx178_2 := (HB.out.cell (World.block_lt_of_cell? w _ hx178_2)).trans hx178_2; have HR178_2 := Aside0.mk hi178_2; have HC178_2 := Aside0.mk hl178_2; clear hi178_2 hl178_2; replace p178 := eq_true p178; replace q178 := eq_true q178))
      go_ret
      exact ⟨by first | rfl | (simp [*, errW_none, errW_some] <;> rfl), by repeat (first | (with_reducible first | exact HB.out | apply below_alloc | apply pw_below_drewN | apply below_drew1) | exact HB.out)⟩
    ·rw [if_neg c10] at H
     exact absurd H (by simp)
   ·rw [if_neg c9] at H
    exact absurd H (by simp)
end Go.Proofs.YtidlldfghkaeeaaGreatDoor.P
