/- Put together by pack2.py: Own53 -/
import Derived.Test.YtidlldfghkaeeaaGreatDoorZyLaidKEtc
import Derived.Test.YtidlldfghkaeeaaGreatDoorZyW0
set_option linter.unusedVariables false
set_option linter.unusedSimpArgs false
set_option maxHeartbeats 8000000
set_option maxRecDepth 100000
namespace Go.Proofs.YtidlldfghkaeeaaGreatDoor.P
open Go.RowKit Go.Proofs.YtidlldfghkaeeaaGreatDoorW.PrintWords Go.Proofs.YtidlldfghkaeeaaGreatDoorW.PrintLast Go.Proofs.YtidlldfghkaeeaaGreatDoorW.PrintMore
attribute [local go_sem] max2_int min2_int max_two min_two max_three min_three max_four min_four
def ref7_names.l0 : Nat → ByteArray → List ByteArray → Int → Int → Option (List ByteArray)
 | 0, _, _, _, _ => none
 | k + 1, x0, x3, x4, x5 => if x5 ≤ (x0.size : Int) then (if x5 = (x0.size : Int) then (if 0 ≤ x4 then (if x4 ≤ x5 then (if x3.length < 8796093022208 then (ref7_names.l0 k x0 (x3 ++ [x0.extract (x4 : Int).toNat (x5 : Int).toNat]) (wrap64 (x5 + 1)) (wrap64 (x5 + 1))) else (none)) else (none)) else (none)) else (if 0 ≤ x5 then (if x5 < (x0.size : Int) then (if (bt x0 x5) = 47 then (if 0 ≤ x4 then (if x4 ≤ x5 then (if x3.length < 8796093022208 then (ref7_names.l0 k x0 (x3 ++ [x0.extract (x4 : Int).toNat (x5 : Int).toNat]) (wrap64 (x5 + 1)) (wrap64 (x5 + 1))) else (none)) else (none)) else (none)) else (ref7_names.l0 k x0 x3 x4 (wrap64 (x5 + 1)))) else (none)) else (none))) else (some x3)
def ref7_names.f (k : Nat) (a0 : ByteArray) : Option (List ByteArray) := ref7_names.l0 k a0 ([] : List ByteArray) 0 0
theorem ref7_names.calls (k : Nat) (a0 : ByteArray) (r : List ByteArray) (w : World) (h : ref7_names.f k a0 = some r) :
  Calls Tryz.prog 86 #[.string a0] w fun e w' => ∃ v0_ : Value, e = .returned (v0_) ∧ Kd.R Kd.string 9 w' w.heap.size (fun _ => True) v0_ r ∧ Below w.heap.size w w' := by
 have HB := xa_ (Below.refl w.heap.size w)
 have H : (ref7_names.l0 k a0 ([] : List ByteArray) 0 0) = some r := h
 clear h
 have H' := Aside0.mk H
 clear H
 go_enter Tryz.func86, Tryz.ntmps86
 go_wp2
 go_loopg [3, 4, 5] k (fun kq v3 v4 v5 w' => ∃ (x3_1 : List ByteArray) (x4_1 : Int) (x5_1 : Int), v4 = .int .i64 x4_1 ∧ v5 = .int .i64 x5_1 ∧ Aside0 (ref7_names.l0 kq a0 x3_1 x4_1 x5_1 = some r) ∧ Aside0 (kq ≤ k) ∧ Aside0 (Kd.R Kd.string 9 w' w.heap.size (fun _ => True) v3 x3_1) ∧ Aside0 (Below w.heap.size w w'))
 case atStart => exact ⟨(([] : List ByteArray)), (0), (0), (by first | rfl | (simp; done) | (simp [*]; done)), (by first | rfl | (simp; done) | (simp [*]; done)), H', ⟨Nat.le_refl _⟩, ⟨by first | exact Kd.R_nil _ _ _ _ _ | exact Kd.N_nil _ _ _ _ _ | exact Kd.V_nil _ _ _ _ _ | exact Kd.Q_nil _ _ _ _ _ | exact Kd.S_nil _ _ _ _ _⟩, ⟨by repeat (first | (with_reducible first | exact HB.out | apply below_alloc | apply pw_below_drewN | apply below_drew1) | exact HB.out)⟩⟩
 case round =>
  clear H'
  try clear c1
  obtain ⟨x3_1, x4_1, x5_1, rfl, rfl, HA, HK1, HO_3, HB⟩ := hrel
  cases gk with
  | zero => exact absurd HA.out (by simp [ref7_names.l0])
  | succ k1 =>
   have H := HA.out
   clear HA
   simp only [ref7_names.l0] at H
   by_cases c2 : x5_1 ≤ (a0.size : Int)
   ·rw [if_pos c2] at H
    have c2b0 : decide (x5_1 ≤ (a0.size : Int)) = true := decide_eq_true c2
    clear c2
    by_cases c3 : x5_1 = (a0.size : Int)
    ·rw [if_pos c3] at H
     have c3b0 : (x5_1 == (a0.size : Int)) = true := beq_iff_eq.mpr c3
     have c3b1 : (x5_1 != (a0.size : Int)) = false := bne_eq_false_iff_eq.mpr c3
     clear c3
     by_cases c4 : 0 ≤ x4_1
     ·rw [if_pos c4] at H
      have c4b0 := eq_true c4
      have c4b1 : decide (0 ≤ x4_1) = true := decide_eq_true c4
      clear c4
      by_cases c5 : x4_1 ≤ x5_1
      ·rw [if_pos c5] at H
       have c5b0 := eq_true c5
       have c5b1 : decide (x4_1 ≤ x5_1) = true := decide_eq_true c5
       clear c5
       have c6b0 := eq_true (of_decide_eq_true (by first | (with_reducible assumption) | assumption) : x5_1 ≤ (a0.size : Int))
       by_cases c7 : x3_1.length < 8796093022208
       ·rw [if_pos c7] at H
        have LMc7 := Aside0.mk c7
        clear c7
        obtain ⟨y193, hy193⟩ : ∃ y_ : List ByteArray, y_ = (x3_1 ++ [a0.extract (x4_1 : Int).toNat (x5_1 : Int).toNat]) := ⟨_, rfl⟩
        replace H : (ref7_names.l0 k1 a0 y193 (wrap64 (x5_1 + 1)) (wrap64 (x5_1 + 1))) = some r := by first | (rw [hy193]; with_reducible exact H) | (have H2_ := (Option.bind_some _ _).symm.trans H; rw [hy193]; with_reducible exact H2_) | (have H2_ := (Option.bind_some _ _).symm.trans H; with_reducible exact H2_) | with_reducible exact H | (rw [hy193]; exact H) | exact H
        have Ny193 := Aside0.mk hy193
        clear hy193
        have H' := Aside0.mk H
        clear H
        go_wp2_with (first | ((with_reducible refine gate_builtin (b := .append) (xs := #[.tmp 22, .tmp 27]) rfl ?_); at_builtin; refine Kd.R_append Kd.string (w0 := w) w.heap.size rfl (.tmp 22) (.tmp 27) 52 9 (.string ⟨#[]⟩) 16 rfl Tryz.underlying52 info9o rfl (by decide) (by omega) u3 x3_1 (a0.extract (x4_1 : Int).toNat (x5_1 : Int).toNat) [.string (a0.extract (x4_1 : Int).toNat (x5_1 : Int).toNat)] (fun _ => True) (fun _ => False) rfl rfl ?aP (fun _ hk => hk.elim) ?aF ?aO ?aB ?aS ?aL ?_; (case aP => exact rfl); (case aB => exact (xw_ HB.out)); (case aF => exact (fun _ _ => trivial)); (case aO => exact (xR_ HO_3.out)); (case aS => exact (below_size (xw_ HB.out))); (case aL => have := LMc7.out; omega); intro v194 w8 ho hb hg hat; rw [← Ny193.out] at ho; replace HB := xa_ (hb); replace HO195 := xa_ (ho); clear ho hb hg hat))
        go_roundg k1
        case measure => have := HK1.out; omega
        case rel => exact ⟨(y193), (wrap64 (x5_1 + 1)), (wrap64 (x5_1 + 1)), (by first | rfl | (simp; done) | (simp [*]; done)), (by first | rfl | (simp; done) | (simp [*]; done)), H', ⟨by have := HK1.out; omega⟩, ⟨by (with_reducible repeat (first | apply Kd.R_alloc | apply Kd.R_drewN | apply Kd.R_drew)); exact HO195.out⟩, ⟨by repeat (first | (with_reducible first | exact HB.out | apply below_alloc | apply pw_below_drewN | apply below_drew1) | exact HB.out)⟩⟩
       ·rw [if_neg c7] at H
        exact absurd H (by simp)
      ·rw [if_neg c5] at H
       exact absurd H (by simp)
     ·rw [if_neg c4] at H
      exact absurd H (by simp)
    ·rw [if_neg c3] at H
     have c3b0 : (x5_1 == (a0.size : Int)) = false := beq_eq_false_iff_ne.mpr c3
     have c3b1 : (x5_1 != (a0.size : Int)) = true := bne_iff_ne.mpr c3
     by_cases c9 : 0 ≤ x5_1
     ·rw [if_pos c9] at H
      have c9b0 : decide (0 ≤ x5_1) = true := decide_eq_true c9
      clear c9
      by_cases c10 : x5_1 < (a0.size : Int)
      ·rw [if_pos c10] at H
       have c10b0 : decide (x5_1 < (a0.size : Int)) = true := decide_eq_true c10
       clear c10
       by_cases c12 : (bt a0 x5_1) = 47
       ·rw [if_pos c12] at H
        have c12b0 : ((bt a0 x5_1) == 47) = true := beq_iff_eq.mpr c12
        have c12b1 : ((bt a0 x5_1) != 47) = false := bne_eq_false_iff_eq.mpr c12
        clear c12
        by_cases c13 : 0 ≤ x4_1
        ·rw [if_pos c13] at H
         have c13b0 := eq_true c13
         have c13b1 : decide (0 ≤ x4_1) = true := decide_eq_true c13
         clear c13
         by_cases c14 : x4_1 ≤ x5_1
         ·rw [if_pos c14] at H
          have c14b0 := eq_true c14
          have c14b1 : decide (x4_1 ≤ x5_1) = true := decide_eq_true c14
          clear c14
          have c15b0 := eq_true (of_decide_eq_true (by first | (with_reducible assumption) | assumption) : x5_1 ≤ (a0.size : Int))
          by_cases c16 : x3_1.length < 8796093022208
          ·rw [if_pos c16] at H
           have LMc16 := Aside0.mk c16
           clear c16
           obtain ⟨y196, hy196⟩ : ∃ y_ : List ByteArray, y_ = (x3_1 ++ [a0.extract (x4_1 : Int).toNat (x5_1 : Int).toNat]) := ⟨_, rfl⟩
           replace H : (ref7_names.l0 k1 a0 y196 (wrap64 (x5_1 + 1)) (wrap64 (x5_1 + 1))) = some r := by first | (rw [hy196]; with_reducible exact H) | (have H2_ := (Option.bind_some _ _).symm.trans H; rw [hy196]; with_reducible exact H2_) | (have H2_ := (Option.bind_some _ _).symm.trans H; with_reducible exact H2_) | with_reducible exact H | (rw [hy196]; exact H) | exact H
           have Ny196 := Aside0.mk hy196
           clear hy196
           have H' := Aside0.mk H
           clear H
           have p11 : 0 ≤ (x5_1 : Int) := of_decide_eq_true (by first | (with_reducible assumption) | assumption)
           have q11 : x5_1 < (a0.size : Int) := of_decide_eq_true (by first | (with_reducible assumption) | assumption)
           have hx11 := bt_at a0 x5_1
           replace p11 := eq_true p11
           replace q11 := eq_true q11
           go_wp2_with (first | ((with_reducible refine gate_builtin (b := .append) (xs := #[.tmp 22, .tmp 27]) rfl ?_); at_builtin; refine Kd.R_append Kd.string (w0 := w) w.heap.size rfl (.tmp 22) (.tmp 27) 52 9 (.string ⟨#[]⟩) 16 rfl Tryz.underlying52 info9o rfl (by decide) (by omega) u3 x3_1 (a0.extract (x4_1 : Int).toNat (x5_1 : Int).toNat) [.string (a0.extract (x4_1 : Int).toNat (x5_1 : Int).toNat)] (fun _ => True) (fun _ => False) rfl rfl ?aP (fun _ hk => hk.elim) ?aF ?aO ?aB ?aS ?aL ?_; (case aP => exact rfl); (case aB => exact (xw_ HB.out)); (case aF => exact (fun _ _ => trivial)); (case aO => exact (xR_ HO_3.out)); (case aS => exact (below_size (xw_ HB.out))); (case aL => have := LMc16.out; omega); intro v197 w17 ho hb hg hat; rw [← Ny196.out] at ho; replace HB := xa_ (hb); replace HO198 := xa_ (ho); clear ho hb hg hat))
           go_roundg k1
           case measure => have := HK1.out; omega
           case rel => exact ⟨(y196), (wrap64 (x5_1 + 1)), (wrap64 (x5_1 + 1)), (by first | rfl | (simp; done) | (simp [*]; done)), (by first | rfl | (simp; done) | (simp [*]; done)), H', ⟨by have := HK1.out; omega⟩, ⟨by (with_reducible repeat (first | apply Kd.R_alloc | apply Kd.R_drewN | apply Kd.R_drew)); exact HO198.out⟩, ⟨by repeat (first | (with_reducible first | exact HB.out | apply below_alloc | apply pw_below_drewN | apply below_drew1) | exact HB.out)⟩⟩
          ·rw [if_neg c16] at H
           exact absurd H (by simp)
         ·rw [if_neg c14] at H
          exact absurd H (by simp)
        ·rw [if_neg c13] at H
         exact absurd H (by simp)
       ·rw [if_neg c12] at H
        have c12b0 : ((bt a0 x5_1) == 47) = false := beq_eq_false_iff_ne.mpr c12
        have c12b1 : ((bt a0 x5_1) != 47) = true := bne_iff_ne.mpr c12
        have H' := Aside0.mk H
        clear H
        have p11 : 0 ≤ (x5_1 : Int) := of_decide_eq_true (by first | (with_reducible assumption) | assumption)
        have q11 : x5_1 < (a0.size : Int) := of_decide_eq_true (by first | (with_reducible assumption) | assumption)
        have hx11 := bt_at a0 x5_1
        replace p11 := eq_true p11
        replace q11 := eq_true q11
        go_wp2
        go_roundg k1
        case measure => have := HK1.out; omega
        case rel => exact ⟨(x3_1), (x4_1), (wrap64 (x5_1 + 1)), (by first | rfl | (simp; done) | (simp [*]; done)), (by first | rfl | (simp; done) | (simp [*]; done)), H', ⟨by have := HK1.out; omega⟩, ⟨by (with_reducible repeat (first | apply Kd.R_alloc | apply Kd.R_drewN | apply Kd.R_drew)); exact HO_3.out⟩, ⟨by repeat (first | (with_reducible first | exact HB.out | apply below_alloc | apply pw_below_drewN | apply below_drew1) | exact HB.out)⟩⟩
      ·rw [if_neg c10] at H
       exact absurd H (by simp)
     ·rw [if_neg c9] at H
      exact absurd H (by simp)
   ·rw [if_neg c2] at H
    have c2b0 : decide (x5_1 ≤ (a0.size : Int)) = false := decide_eq_false c2
    clear c2
    obtain rfl := Option.some.inj H
    go_wp2
    go_ret
    exact ⟨_, by first | rfl | (simp [*, errW_none, errW_some] <;> rfl), by (with_reducible repeat (first | apply Kd.R_alloc | apply Kd.R_drewN | apply Kd.R_drew)); exact HO_3.out, by repeat (first | (with_reducible first | exact HB.out | apply below_alloc | apply pw_below_drewN | apply below_drew1) | exact HB.out)⟩
mutual
def ref7_Good.l0 : Nat → List ByteArray → Int → Option (Bool)
 | 0, _, _ => none
 | k + 1, x3, x4 => if x4 < (x3.length : Int) then (if 0 ≤ x4 then (if ((rdOf ByteArray.empty x3 x4).size : Int) < 1 then (ref7_Good.j1 k x3 x4 true) else (if ((rdOf ByteArray.empty x3 x4).size : Int) > 16 then (ref7_Good.j1 k x3 x4 true) else (if (rdOf ByteArray.empty x3 x4).toList = ([46] : List UInt8) then (ref7_Good.j1 k x3 x4 true) else (ref7_Good.j1 k x3 x4 ((rdOf ByteArray.empty x3 x4).toList == ([46, 46] : List UInt8)))))) else (none)) else (some (decide ((x3.length : Int) ≤ 4)))
def ref7_Good.j1 : Nat → List ByteArray → Int → Bool → Option (Bool)
 | 0, _, _, _ => none
 | k + 1, x3, x4, x42 => if x42 = true then (some false) else (ref7_Good.l1 k x3 x4 0)
def ref7_Good.l1 : Nat → List ByteArray → Int → Int → Option (Bool)
 | 0, _, _, _ => none
 | k + 1, x3, x4, x5 => if 0 ≤ x4 then (if x4 < (x3.length : Int) then (if x5 < ((rdOf ByteArray.empty x3 x4).size : Int) then (if 0 ≤ x5 then (if (bt (rdOf ByteArray.empty x3 x4) x5) < 97 then (if (bt (rdOf ByteArray.empty x3 x4) x5) < 48 then (if (bt (rdOf ByteArray.empty x3 x4) x5) = 46 then (ref7_Good.l1 k x3 x4 (wrap64 (x5 + 1))) else (if (bt (rdOf ByteArray.empty x3 x4) x5) = 45 then (ref7_Good.l1 k x3 x4 (wrap64 (x5 + 1))) else (if (bt (rdOf ByteArray.empty x3 x4) x5) = 95 then (ref7_Good.l1 k x3 x4 (wrap64 (x5 + 1))) else (some false)))) else (if (bt (rdOf ByteArray.empty x3 x4) x5) > 57 then (if (bt (rdOf ByteArray.empty x3 x4) x5) = 46 then (ref7_Good.l1 k x3 x4 (wrap64 (x5 + 1))) else (if (bt (rdOf ByteArray.empty x3 x4) x5) = 45 then (ref7_Good.l1 k x3 x4 (wrap64 (x5 + 1))) else (if (bt (rdOf ByteArray.empty x3 x4) x5) = 95 then (ref7_Good.l1 k x3 x4 (wrap64 (x5 + 1))) else (some false)))) else (ref7_Good.l1 k x3 x4 (wrap64 (x5 + 1))))) else (if (bt (rdOf ByteArray.empty x3 x4) x5) > 122 then (if (bt (rdOf ByteArray.empty x3 x4) x5) < 48 then (if (bt (rdOf ByteArray.empty x3 x4) x5) = 46 then (ref7_Good.l1 k x3 x4 (wrap64 (x5 + 1))) else (if (bt (rdOf ByteArray.empty x3 x4) x5) = 45 then (ref7_Good.l1 k x3 x4 (wrap64 (x5 + 1))) else (if (bt (rdOf ByteArray.empty x3 x4) x5) = 95 then (ref7_Good.l1 k x3 x4 (wrap64 (x5 + 1))) else (some false)))) else (if (bt (rdOf ByteArray.empty x3 x4) x5) > 57 then (if (bt (rdOf ByteArray.empty x3 x4) x5) = 46 then (ref7_Good.l1 k x3 x4 (wrap64 (x5 + 1))) else (if (bt (rdOf ByteArray.empty x3 x4) x5) = 45 then (ref7_Good.l1 k x3 x4 (wrap64 (x5 + 1))) else (if (bt (rdOf ByteArray.empty x3 x4) x5) = 95 then (ref7_Good.l1 k x3 x4 (wrap64 (x5 + 1))) else (some false)))) else (ref7_Good.l1 k x3 x4 (wrap64 (x5 + 1))))) else (ref7_Good.l1 k x3 x4 (wrap64 (x5 + 1))))) else (none)) else (ref7_Good.l0 k x3 (wrap64 (x4 + 1)))) else (none)) else (none)
end
def ref7_Good.f (k : Nat) (a0 : ByteArray) : Option (Bool) := (ref7_names.f k a0).bind fun t199 => (ref7_Good.l0 k t199 0)
theorem ref7_Good.calls (k : Nat) (a0 : ByteArray) (r : Bool) (w : World) (h : ref7_Good.f k a0 = some r) :
  Calls Tryz.prog 49 #[.string a0] w fun e w' => e = .returned (.bool r) ∧ Below w.heap.size w w' := by
 have HB := xa_ (Below.refl w.heap.size w)
 have H : ((ref7_names.f k a0).bind fun t199 => (ref7_Good.l0 k t199 0)) = some r := h
 clear h
 replace H := Option.bind_eq_some_iff.mp H
 obtain ⟨t199, A20, H⟩ := H
 replace H : (ref7_Good.l0 k t199 0) = some r := H
 have A2 := Aside0.mk A20
 clear A20
 have H' := Aside0.mk H
 clear H
 go_enter Tryz.func49, Tryz.ntmps49
 go_wp2_with (first | ((with_reducible refine gate_callee (f := 86) rfl ?_); refine goesL_ (some 8) rfl rfl Tryz.func86 (by kernel_rfl) rfl #[.string a0] rfl (by (try simp only [ca_]); first | done | rfl) ?_; (with_reducible refine (ref7_names.calls k a0 t199 _ A2.out).mono ?_); rintro e w3 ⟨v200, rfl, ho0, hb⟩; refine ⟨_, rfl, ?_⟩; replace HO201 := xa_ (Kd.R_lower ho0 (below_size (xw_ HB.out))); replace HB := xa_ (below_step (xw_ HB.out) hb); (try clear hb); (try clear hb2); (try clear hk); (try clear hi); (try clear ho0)))
 go_loopg [4] k (fun kq v4 w' => ∃ (x4_1 : Int), v4 = .int .i64 x4_1 ∧ Aside0 (ref7_Good.l0 kq t199 x4_1 = some r) ∧ Aside0 (kq ≤ k) ∧ Aside0 (Kd.R Kd.string 9 w' w.heap.size (fun _ => True) v200 t199) ∧ Aside0 (Below w.heap.size w w'))
 case atStart => exact ⟨(0), (by first | rfl | (simp; done) | (simp [*]; done)), H', ⟨Nat.le_refl _⟩, ⟨by (with_reducible repeat (first | apply Kd.R_alloc | apply Kd.R_drewN | apply Kd.R_drew)); exact HO201.out⟩, ⟨by repeat (first | (with_reducible first | exact HB.out | apply below_alloc | apply pw_below_drewN | apply below_drew1) | exact HB.out)⟩⟩
 case round =>
  clear H'
  try clear c1
  try clear p2
  obtain ⟨x4_1, rfl, HA, HK1, HO_3, HB⟩ := hrel
  cases gk with
  | zero => exact absurd HA.out (by simp [ref7_Good.l0])
  | succ k1 =>
   have H := HA.out
   clear HA
   simp only [ref7_Good.l0] at H
   by_cases c4 : x4_1 < (t199.length : Int)
   ·rw [if_pos c4] at H
    have c4b0 : decide (x4_1 < (t199.length : Int)) = true := decide_eq_true c4
    clear c4
    have HC5 := Aside0.mk H
    clear H
    obtain ⟨Ao6, co6, eo6⟩ := Kd.R_slice HO_3.out
    subst eo6
    go_upto_region 5 with (fail)
    go_cut [42] (fun v42 wc => ∃ (kq : Nat) (x42_4 : Bool), v42 = .bool x42_4 ∧ Aside0 (ref7_Good.j1 kq t199 x4_1 x42_4 = some r) ∧ Aside0 (kq ≤ k1) ∧ Aside0 (Kd.R Kd.string 9 wc w.heap.size (fun _ => True) (.slice Ao6 t199.length co6) t199) ∧ Aside0 (Below w.heap.size w wc))
    case first =>
     have H := HC5.out
     clear HC5
     by_cases c7 : 0 ≤ x4_1
     ·rw [if_pos c7] at H
      have c7b0 : decide (0 ≤ x4_1) = true := decide_eq_true c7
      clear c7
      (first | rw [c7b0] | (simp only [i64_w, i32_w]; rw [c7b0]) | skip)
      by_cases c8 : ((rdOf ByteArray.empty t199 x4_1).size : Int) < 1
      ·rw [if_pos c8] at H
       have c8b0 : decide (((rdOf ByteArray.empty t199 x4_1).size : Int) < 1) = true := decide_eq_true c8
       have c8b1 : decide ((rdOf ByteArray.empty t199 x4_1).size < 1) = true := decide_eq_true (by omega)
       clear c8
       have H' := Aside0.mk H
       clear H
       have p202 : 0 ≤ (x4_1 : Int) := of_decide_eq_true (by first | (with_reducible assumption) | assumption)
       have q202 : x4_1 < (t199.length : Int) := of_decide_eq_true (by first | (with_reducible assumption) | assumption)
       obtain ⟨ad202, e202, hx202_0⟩ := Kd.at_string (Kd.R_reads' HO_3.out).2.2 x4_1 p202 q202
       cases e202
       replace p202 := eq_true p202
       replace q202 := eq_true q202
       go_wp2
       go_meet
       case rel => exact ⟨_, (true), (by first | rfl | (simp; done) | (simp [*]; done)), H', ⟨by have := HK1.out; first | omega | exact Nat.le_refl _⟩, ⟨by (with_reducible repeat (first | apply Kd.R_alloc | apply Kd.R_drewN | apply Kd.R_drew)); exact HO_3.out⟩, ⟨by repeat (first | (with_reducible first | exact HB.out | apply below_alloc | apply pw_below_drewN | apply below_drew1) | exact HB.out)⟩⟩
      ·rw [if_neg c8] at H
       have c8b0 : decide (((rdOf ByteArray.empty t199 x4_1).size : Int) < 1) = false := decide_eq_false c8
       have c8b1 : decide ((rdOf ByteArray.empty t199 x4_1).size < 1) = false := decide_eq_false (by omega)
       clear c8
       by_cases c9 : ((rdOf ByteArray.empty t199 x4_1).size : Int) > 16
       ·rw [if_pos c9] at H
        have c9b0 : decide (16 < ((rdOf ByteArray.empty t199 x4_1).size : Int)) = true := decide_eq_true c9
        have c9b1 : decide (16 < (rdOf ByteArray.empty t199 x4_1).size) = true := decide_eq_true (by omega)
        clear c9
        have H' := Aside0.mk H
        clear H
        have p202 : 0 ≤ (x4_1 : Int) := of_decide_eq_true (by first | (with_reducible assumption) | assumption)
        have q202 : x4_1 < (t199.length : Int) := of_decide_eq_true (by first | (with_reducible assumption) | assumption)
        obtain ⟨ad202, e202, hx202_0⟩ := Kd.at_string (Kd.R_reads' HO_3.out).2.2 x4_1 p202 q202
        cases e202
        replace p202 := eq_true p202
        replace q202 := eq_true q202
        have p203 : 0 ≤ (x4_1 : Int) := of_decide_eq_true (by first | (with_reducible assumption) | assumption)
        have q203 : x4_1 < (t199.length : Int) := of_decide_eq_true (by first | (with_reducible assumption) | assumption)
        obtain ⟨ad203, e203, hx203_0⟩ := Kd.at_string (Kd.R_reads' HO_3.out).2.2 x4_1 p203 q203
        obtain rfl : ad202 = ad203 := (by injection e203)
        replace p203 := eq_true p203
        replace q203 := eq_true q203
        go_wp2
        go_meet
        case rel => exact ⟨_, (true), (by first | rfl | (simp; done) | (simp [*]; done)), H', ⟨by have := HK1.out; first | omega | exact Nat.le_refl _⟩, ⟨by (with_reducible repeat (first | apply Kd.R_alloc | apply Kd.R_drewN | apply Kd.R_drew)); exact HO_3.out⟩, ⟨by repeat (first | (with_reducible first | exact HB.out | apply below_alloc | apply pw_below_drewN | apply below_drew1) | exact HB.out)⟩⟩
       ·rw [if_neg c9] at H
        have c9b0 : decide (16 < ((rdOf ByteArray.empty t199 x4_1).size : Int)) = false := decide_eq_false c9
        have c9b1 : decide (16 < (rdOf ByteArray.empty t199 x4_1).size) = false := decide_eq_false (by omega)
        clear c9
        by_cases c10 : (rdOf ByteArray.empty t199 x4_1).toList = ([46] : List UInt8)
        ·rw [if_pos c10] at H
         have c10b0 : ((rdOf ByteArray.empty t199 x4_1).toList == ([46] : List UInt8)) = true := beq_iff_eq.mpr c10
         have c10b1 : ((rdOf ByteArray.empty t199 x4_1).toList != ([46] : List UInt8)) = false := bne_eq_false_iff_eq.mpr c10
         clear c10
         have H' := Aside0.mk H
         clear H
         have p202 : 0 ≤ (x4_1 : Int) := of_decide_eq_true (by first | (with_reducible assumption) | assumption)
         have q202 : x4_1 < (t199.length : Int) := of_decide_eq_true (by first | (with_reducible assumption) | assumption)
         obtain ⟨ad202, e202, hx202_0⟩ := Kd.at_string (Kd.R_reads' HO_3.out).2.2 x4_1 p202 q202
         cases e202
         replace p202 := eq_true p202
         replace q202 := eq_true q202
         have p203 : 0 ≤ (x4_1 : Int) := of_decide_eq_true (by first | (with_reducible assumption) | assumption)
         have q203 : x4_1 < (t199.length : Int) := of_decide_eq_true (by first | (with_reducible assumption) | assumption)
         obtain ⟨ad203, e203, hx203_0⟩ := Kd.at_string (Kd.R_reads' HO_3.out).2.2 x4_1 p203 q203
         obtain rfl : ad202 = ad203 := (by injection e203)
         replace p203 := eq_true p203
         replace q203 := eq_true q203
         have p204 : 0 ≤ (x4_1 : Int) := of_decide_eq_true (by first | (with_reducible assumption) | assumption)
         have q204 : x4_1 < (t199.length : Int) := of_decide_eq_true (by first | (with_reducible assumption) | assumption)
         obtain ⟨ad204, e204, hx204_0⟩ := Kd.at_string (Kd.R_reads' HO_3.out).2.2 x4_1 p204 q204
         obtain rfl : ad202 = ad204 := (by injection e204)
         replace p204 := eq_true p204
         replace q204 := eq_true q204
         go_wp2
         go_meet
         case rel => exact ⟨_, (true), (by first | rfl | (simp; done) | (simp [*]; done)), H', ⟨by have := HK1.out; first | omega | exact Nat.le_refl _⟩, ⟨by (with_reducible repeat (first | apply Kd.R_alloc | apply Kd.R_drewN | apply Kd.R_drew)); exact HO_3.out⟩, ⟨by repeat (first | (with_reducible first | exact HB.out | apply below_alloc | apply pw_below_drewN | apply below_drew1) | exact HB.out)⟩⟩
        ·rw [if_neg c10] at H
         have c10b0 : ((rdOf ByteArray.empty t199 x4_1).toList == ([46] : List UInt8)) = false := beq_eq_false_iff_ne.mpr c10
         have c10b1 : ((rdOf ByteArray.empty t199 x4_1).toList != ([46] : List UInt8)) = true := bne_iff_ne.mpr c10
         have H' := Aside0.mk H
         clear H
         have p202 : 0 ≤ (x4_1 : Int) := of_decide_eq_true (by first | (with_reducible assumption) | assumption)
         have q202 : x4_1 < (t199.length : Int) := of_decide_eq_true (by first | (with_reducible assumption) | assumption)
         obtain ⟨ad202, e202, hx202_0⟩ := Kd.at_string (Kd.R_reads' HO_3.out).2.2 x4_1 p202 q202
         cases e202
         replace p202 := eq_true p202
         replace q202 := eq_true q202
         have p203 : 0 ≤ (x4_1 : Int) := of_decide_eq_true (by first | (with_reducible assumption) | assumption)
         have q203 : x4_1 < (t199.length : Int) := of_decide_eq_true (by first | (with_reducible assumption) | assumption)
         obtain ⟨ad203, e203, hx203_0⟩ := Kd.at_string (Kd.R_reads' HO_3.out).2.2 x4_1 p203 q203
         obtain rfl : ad202 = ad203 := (by injection e203)
         replace p203 := eq_true p203
         replace q203 := eq_true q203
         have p204 : 0 ≤ (x4_1 : Int) := of_decide_eq_true (by first | (with_reducible assumption) | assumption)
         have q204 : x4_1 < (t199.length : Int) := of_decide_eq_true (by first | (with_reducible assumption) | assumption)
         obtain ⟨ad204, e204, hx204_0⟩ := Kd.at_string (Kd.R_reads' HO_3.out).2.2 x4_1 p204 q204
         obtain rfl : ad202 = ad204 := (by injection e204)
         replace p204 := eq_true p204
         replace q204 := eq_true q204
         have p205 : 0 ≤ (x4_1 : Int) := of_decide_eq_true (by first | (with_reducible assumption) | assumption)
         have q205 : x4_1 < (t199.length : Int) := of_decide_eq_true (by first | (with_reducible assumption) | assumption)
         obtain ⟨ad205, e205, hx205_0⟩ := Kd.at_string (Kd.R_reads' HO_3.out).2.2 x4_1 p205 q205
         obtain rfl : ad202 = ad205 := (by injection e205)
         replace p205 := eq_true p205
         replace q205 := eq_true q205
         go_wp2
         go_meet
         case rel => exact ⟨_, (((rdOf ByteArray.empty t199 x4_1).toList == ([46, 46] : List UInt8))), (by first | rfl | (simp; done) | (simp [*]; done)), H', ⟨by have := HK1.out; first | omega | exact Nat.le_refl _⟩, ⟨by (with_reducible repeat (first | apply Kd.R_alloc | apply Kd.R_drewN | apply Kd.R_drew)); exact HO_3.out⟩, ⟨by repeat (first | (with_reducible first | exact HB.out | apply below_alloc | apply pw_below_drewN | apply below_drew1) | exact HB.out)⟩⟩
     ·rw [if_neg c7] at H
      exact absurd H (by simp)
    case rest =>
     clear HC5
     try clear c1
     try clear p2
     try clear q2
     try clear hx2
     try clear c4
     try clear c4b0
     try clear c5
     try clear c7
     try clear c7b0
     try clear c8
     try clear c8b0
     try clear c8b1
     try clear c9
     try clear c9b0
     try clear c9b1
     try clear c10
     try clear c10b0
     try clear c10b1
     try clear hx202_0
     try clear hx203_0
     try clear hx204_0
     try clear hx205_0
     try clear p2
     try clear p202
     try clear p203
     try clear p204
     try clear p205
     try clear q202
     try clear q203
     try clear q204
     try clear q205
     obtain ⟨kq, x42_4, rfl, HA, HJ4, HO_3, HB⟩ := hcut
     cases kq with
     | zero => exact absurd HA.out (by simp [ref7_Good.j1])
     | succ kj4 =>
      have H := HA.out
      clear HA
      simp only [ref7_Good.j1] at H
      by_cases c11 : x42_4 = true
      ·subst c11
       have H1 : (some false) = some r := by rw [if_pos rfl] at H; exact H
       clear H
       have H := H1
       clear H1
       obtain rfl := Option.some.inj H
       go_wp2
       go_ret
       exact ⟨by first | rfl | (simp [*, errW_none, errW_some] <;> rfl), by repeat (first | (with_reducible first | exact HB.out | apply below_alloc | apply pw_below_drewN | apply below_drew1) | exact HB.out)⟩
      ·replace c11 := Bool.eq_false_iff.mpr c11
       subst c11
       have H1 : (ref7_Good.l1 kj4 t199 x4_1 0) = some r := by rw [if_neg (show ¬ (false = true) by decide)] at H; exact H
       clear H
       have H := H1
       clear H1
       have H' := Aside0.mk H
       clear H
       go_wp2
       go_loopg [5] kj4 (fun kq v5 w' => ∃ (x5_3 : Int), v5 = .int .i64 x5_3 ∧ Aside0 (ref7_Good.l1 kq t199 x4_1 x5_3 = some r) ∧ Aside0 (kq ≤ kj4) ∧ Aside0 (Kd.R Kd.string 9 w' w.heap.size (fun _ => True) (.slice Ao6 t199.length co6) t199) ∧ Aside0 (Below w.heap.size w w'))
       case atStart => exact ⟨(0), (by first | rfl | (simp; done) | (simp [*]; done)), H', ⟨Nat.le_refl _⟩, ⟨by (with_reducible repeat (first | apply Kd.R_alloc | apply Kd.R_drewN | apply Kd.R_drew)); exact HO_3.out⟩, ⟨by repeat (first | (with_reducible first | exact HB.out | apply below_alloc | apply pw_below_drewN | apply below_drew1) | exact HB.out)⟩⟩
       case round =>
        clear H'
        try clear c1
        try clear p2
        try clear q2
        try clear hx2
        try clear c4
        try clear c4b0
        try clear c5
        try clear c7
        try clear c7b0
        try clear c8
        try clear c8b0
        try clear c8b1
        try clear c9
        try clear c9b0
        try clear c9b1
        try clear c10
        try clear c10b0
        try clear c10b1
        try clear c11
        try clear hx202_0
        try clear hx203_0
        try clear hx204_0
        try clear hx205_0
        try clear p2
        try clear p202
        try clear p203
        try clear p204
        try clear p205
        try clear q2
        try clear q202
        try clear q203
        try clear q204
        try clear q205
        obtain ⟨x5_3, rfl, HA, HK3, HO_3, HB⟩ := hrel
        cases gk with
        | zero => exact absurd HA.out (by simp [ref7_Good.l1])
        | succ k3 =>
         have H := HA.out
         clear HA
         simp only [ref7_Good.l1] at H
         by_cases c12 : 0 ≤ x4_1
         ·rw [if_pos c12] at H
          have c12b0 : decide (0 ≤ x4_1) = true := decide_eq_true c12
          clear c12
          by_cases c13 : x4_1 < (t199.length : Int)
          ·rw [if_pos c13] at H
           have c13b0 : decide (x4_1 < (t199.length : Int)) = true := decide_eq_true c13
           clear c13
           by_cases c14 : x5_3 < ((rdOf ByteArray.empty t199 x4_1).size : Int)
           ·rw [if_pos c14] at H
            have c14b0 : decide (x5_3 < ((rdOf ByteArray.empty t199 x4_1).size : Int)) = true := decide_eq_true c14
            clear c14
            by_cases c15 : 0 ≤ x5_3
            ·rw [if_pos c15] at H
             have c15b0 : decide (0 ≤ x5_3) = true := decide_eq_true c15
             clear c15
             by_cases c17 : (bt (rdOf ByteArray.empty t199 x4_1) x5_3) < 97
             ·rw [if_pos c17] at H
              have c17b0 : decide ((bt (rdOf ByteArray.empty t199 x4_1) x5_3) < 97) = true := decide_eq_true c17
              clear c17
              by_cases c18 : (bt (rdOf ByteArray.empty t199 x4_1) x5_3) < 48
              ·rw [if_pos c18] at H
               have c18b0 : decide ((bt (rdOf ByteArray.empty t199 x4_1) x5_3) < 48) = true := decide_eq_true c18
               clear c18
               by_cases c19 : (bt (rdOf ByteArray.empty t199 x4_1) x5_3) = 46
               ·rw [if_pos c19] at H
                have c19b0 : ((bt (rdOf ByteArray.empty t199 x4_1) x5_3) == 46) = true := beq_iff_eq.mpr c19
                have c19b1 : ((bt (rdOf ByteArray.empty t199 x4_1) x5_3) != 46) = false := bne_eq_false_iff_eq.mpr c19
                clear c19
                have H' := Aside0.mk H
                clear H
                have p206 : 0 ≤ (x4_1 : Int) := of_decide_eq_true (by first | (with_reducible assumption) | assumption)
                have q206 : x4_1 < (t199.length : Int) := of_decide_eq_true (by first | (with_reducible assumption) | assumption)
                obtain ⟨ad206, e206, hx206_0⟩ := Kd.at_string (Kd.R_reads' HO_3.out).2.2 x4_1 p206 q206
                cases e206
                replace p206 := eq_true p206
                replace q206 := eq_true q206
                have p207 : 0 ≤ (x4_1 : Int) := of_decide_eq_true (by first | (with_reducible assumption) | assumption)
                have q207 : x4_1 < (t199.length : Int) := of_decide_eq_true (by first | (with_reducible assumption) | assumption)
                obtain ⟨ad207, e207, hx207_0⟩ := Kd.at_string (Kd.R_reads' HO_3.out).2.2 x4_1 p207 q207
                obtain rfl : ad206 = ad207 := (by injection e207)
                replace p207 := eq_true p207
                replace q207 := eq_true q207
                have p16 : 0 ≤ (x5_3 : Int) := of_decide_eq_true (by first | (with_reducible assumption) | assumption)
                have q16 : x5_3 < ((rdOf ByteArray.empty t199 x4_1).size : Int) := of_decide_eq_true (by first | (with_reducible assumption) | assumption)
                have hx16 := bt_at (rdOf ByteArray.empty t199 x4_1) x5_3
                replace p16 := eq_true p16
                replace q16 := eq_true q16
                go_wp2
                go_roundg k3
                case measure => have := HK1.out; have := HJ4.out; have := HK3.out; omega
                case rel => exact ⟨(wrap64 (x5_3 + 1)), (by first | rfl | (simp; done) | (simp [*]; done)), H', ⟨by have := HK1.out; have := HJ4.out; have := HK3.out; omega⟩, ⟨by (with_reducible repeat (first | apply Kd.R_alloc | apply Kd.R_drewN | apply Kd.R_drew)); exact HO_3.out⟩, ⟨by repeat (first | (with_reducible first | exact HB.out | apply below_alloc | apply pw_below_drewN | apply below_drew1) | exact HB.out)⟩⟩
               ·rw [if_neg c19] at H
                have c19b0 : ((bt (rdOf ByteArray.empty t199 x4_1) x5_3) == 46) = false := beq_eq_false_iff_ne.mpr c19
                have c19b1 : ((bt (rdOf ByteArray.empty t199 x4_1) x5_3) != 46) = true := bne_iff_ne.mpr c19
                by_cases c20 : (bt (rdOf ByteArray.empty t199 x4_1) x5_3) = 45
                ·rw [if_pos c20] at H
                 have c20b0 : ((bt (rdOf ByteArray.empty t199 x4_1) x5_3) == 45) = true := beq_iff_eq.mpr c20
                 have c20b1 : ((bt (rdOf ByteArray.empty t199 x4_1) x5_3) != 45) = false := bne_eq_false_iff_eq.mpr c20
                 clear c20
                 have H' := Aside0.mk H
                 clear H
                 have p206 : 0 ≤ (x4_1 : Int) := of_decide_eq_true (by first | (with_reducible assumption) | assumption)
                 have q206 : x4_1 < (t199.length : Int) := of_decide_eq_true (by first | (with_reducible assumption) | assumption)
                 obtain ⟨ad206, e206, hx206_0⟩ := Kd.at_string (Kd.R_reads' HO_3.out).2.2 x4_1 p206 q206
                 cases e206
                 replace p206 := eq_true p206
                 replace q206 := eq_true q206
                 have p207 : 0 ≤ (x4_1 : Int) := of_decide_eq_true (by first | (with_reducible assumption) | assumption)
                 have q207 : x4_1 < (t199.length : Int) := of_decide_eq_true (by first | (with_reducible assumption) | assumption)
                 obtain ⟨ad207, e207, hx207_0⟩ := Kd.at_string (Kd.R_reads' HO_3.out).2.2 x4_1 p207 q207
                 obtain rfl : ad206 = ad207 := (by injection e207)
                 replace p207 := eq_true p207
                 replace q207 := eq_true q207
                 have p16 : 0 ≤ (x5_3 : Int) := of_decide_eq_true (by first | (with_reducible assumption) | assumption)
                 have q16 : x5_3 < ((rdOf ByteArray.empty t199 x4_1).size : Int) := of_decide_eq_true (by first | (with_reducible assumption) | assumption)
                 have hx16 := bt_at (rdOf ByteArray.empty t199 x4_1) x5_3
                 replace p16 := eq_true p16
                 replace q16 := eq_true q16
                 go_wp2
                 go_roundg k3
                 case measure => have := HK1.out; have := HJ4.out; have := HK3.out; omega
                 case rel => exact ⟨(wrap64 (x5_3 + 1)), (by first | rfl | (simp; done) | (simp [*]; done)), H', ⟨by have := HK1.out; have := HJ4.out; have := HK3.out; omega⟩, ⟨by (with_reducible repeat (first | apply Kd.R_alloc | apply Kd.R_drewN | apply Kd.R_drew)); exact HO_3.out⟩, ⟨by repeat (first | (with_reducible first | exact HB.out | apply below_alloc | apply pw_below_drewN | apply below_drew1) | exact HB.out)⟩⟩
                ·rw [if_neg c20] at H
                 have c20b0 : ((bt (rdOf ByteArray.empty t199 x4_1) x5_3) == 45) = false := beq_eq_false_iff_ne.mpr c20
                 have c20b1 : ((bt (rdOf ByteArray.empty t199 x4_1) x5_3) != 45) = true := bne_iff_ne.mpr c20
                 by_cases c21 : (bt (rdOf ByteArray.empty t199 x4_1) x5_3) = 95
                 ·rw [if_pos c21] at H
                  have c21b0 : ((bt (rdOf ByteArray.empty t199 x4_1) x5_3) == 95) = true := beq_iff_eq.mpr c21
                  have c21b1 : ((bt (rdOf ByteArray.empty t199 x4_1) x5_3) != 95) = false := bne_eq_false_iff_eq.mpr c21
                  clear c21
                  have H' := Aside0.mk H
                  clear H
                  have p206 : 0 ≤ (x4_1 : Int) := of_decide_eq_true (by first | (with_reducible assumption) | assumption)
                  have q206 : x4_1 < (t199.length : Int) := of_decide_eq_true (by first | (with_reducible assumption) | assumption)
                  obtain ⟨ad206, e206, hx206_0⟩ := Kd.at_string (Kd.R_reads' HO_3.out).2.2 x4_1 p206 q206
                  cases e206
                  replace p206 := eq_true p206
                  replace q206 := eq_true q206
                  have p207 : 0 ≤ (x4_1 : Int) := of_decide_eq_true (by first | (with_reducible assumption) | assumption)
                  have q207 : x4_1 < (t199.length : Int) := of_decide_eq_true (by first | (with_reducible assumption) | assumption)
                  obtain ⟨ad207, e207, hx207_0⟩ := Kd.at_string (Kd.R_reads' HO_3.out).2.2 x4_1 p207 q207
                  obtain rfl : ad206 = ad207 := (by injection e207)
                  replace p207 := eq_true p207
                  replace q207 := eq_true q207
                  have p16 : 0 ≤ (x5_3 : Int) := of_decide_eq_true (by first | (with_reducible assumption) | assumption)
                  have q16 : x5_3 < ((rdOf ByteArray.empty t199 x4_1).size : Int) := of_decide_eq_true (by first | (with_reducible assumption) | assumption)
                  have hx16 := bt_at (rdOf ByteArray.empty t199 x4_1) x5_3
                  replace p16 := eq_true p16
                  replace q16 := eq_true q16
                  go_wp2
                  go_roundg k3
                  case measure => have := HK1.out; have := HJ4.out; have := HK3.out; omega
                  case rel => exact ⟨(wrap64 (x5_3 + 1)), (by first | rfl | (simp; done) | (simp [*]; done)), H', ⟨by have := HK1.out; have := HJ4.out; have := HK3.out; omega⟩, ⟨by (with_reducible repeat (first | apply Kd.R_alloc | apply Kd.R_drewN | apply Kd.R_drew)); exact HO_3.out⟩, ⟨by repeat (first | (with_reducible first | exact HB.out | apply below_alloc | apply pw_below_drewN | apply below_drew1) | exact HB.out)⟩⟩
                 ·rw [if_neg c21] at H
                  have c21b0 : ((bt (rdOf ByteArray.empty t199 x4_1) x5_3) == 95) = false := beq_eq_false_iff_ne.mpr c21
                  have c21b1 : ((bt (rdOf ByteArray.empty t199 x4_1) x5_3) != 95) = true := bne_iff_ne.mpr c21
                  obtain rfl := Option.some.inj H
                  have p206 : 0 ≤ (x4_1 : Int) := of_decide_eq_true (by first | (with_reducible assumption) | assumption)
                  have q206 : x4_1 < (t199.length : Int) := of_decide_eq_true (by first | (with_reducible assumption) | assumption)
                  obtain ⟨ad206, e206, hx206_0⟩ := Kd.at_string (Kd.R_reads' HO_3.out).2.2 x4_1 p206 q206
                  cases e206
                  replace p206 := eq_true p206
                  replace q206 := eq_true q206
                  have p207 : 0 ≤ (x4_1 : Int) := of_decide_eq_true (by first | (with_reducible assumption) | assumption)
                  have q207 : x4_1 < (t199.length : Int) := of_decide_eq_true (by first | (with_reducible assumption) | assumption)
                  obtain ⟨ad207, e207, hx207_0⟩ := Kd.at_string (Kd.R_reads' HO_3.out).2.2 x4_1 p207 q207
                  obtain rfl : ad206 = ad207 := (by injection e207)
                  replace p207 := eq_true p207
                  replace q207 := eq_true q207
                  have p16 : 0 ≤ (x5_3 : Int) := of_decide_eq_true (by first | (with_reducible assumption) | assumption)
                  have q16 : x5_3 < ((rdOf ByteArray.empty t199 x4_1).size : Int) := of_decide_eq_true (by first | (with_reducible assumption) | assumption)
                  have hx16 := bt_at (rdOf ByteArray.empty t199 x4_1) x5_3
                  replace p16 := eq_true p16
                  replace q16 := eq_true q16
                  go_wp2
                  go_ret
                  exact ⟨by first | rfl | (simp [*, errW_none, errW_some] <;> rfl), by repeat (first | (with_reducible first | exact HB.out | apply below_alloc | apply pw_below_drewN | apply below_drew1) | exact HB.out)⟩
              ·rw [if_neg c18] at H
               have c18b0 : decide ((bt (rdOf ByteArray.empty t199 x4_1) x5_3) < 48) = false := decide_eq_false c18
               clear c18
               by_cases c22 : (bt (rdOf ByteArray.empty t199 x4_1) x5_3) > 57
               ·rw [if_pos c22] at H
                have c22b0 : decide (57 < (bt (rdOf ByteArray.empty t199 x4_1) x5_3)) = true := decide_eq_true c22
                clear c22
                by_cases c23 : (bt (rdOf ByteArray.empty t199 x4_1) x5_3) = 46
                ·rw [if_pos c23] at H
                 have c23b0 : ((bt (rdOf ByteArray.empty t199 x4_1) x5_3) == 46) = true := beq_iff_eq.mpr c23
                 have c23b1 : ((bt (rdOf ByteArray.empty t199 x4_1) x5_3) != 46) = false := bne_eq_false_iff_eq.mpr c23
                 clear c23
                 have H' := Aside0.mk H
                 clear H
                 have p206 : 0 ≤ (x4_1 : Int) := of_decide_eq_true (by first | (with_reducible assumption) | assumption)
                 have q206 : x4_1 < (t199.length : Int) := of_decide_eq_true (by first | (with_reducible assumption) | assumption)
                 obtain ⟨ad206, e206, hx206_0⟩ := Kd.at_string (Kd.R_reads' HO_3.out).2.2 x4_1 p206 q206
                 cases e206
                 replace p206 := eq_true p206
                 replace q206 := eq_true q206
                 have p207 : 0 ≤ (x4_1 : Int) := of_decide_eq_true (by first | (with_reducible assumption) | assumption)
                 have q207 : x4_1 < (t199.length : Int) := of_decide_eq_true (by first | (with_reducible assumption) | assumption)
                 obtain ⟨ad207, e207, hx207_0⟩ := Kd.at_string (Kd.R_reads' HO_3.out).2.2 x4_1 p207 q207
                 obtain rfl : ad206 = ad207 := (by injection e207)
                 replace p207 := eq_true p207
                 replace q207 := eq_true q207
                 have p16 : 0 ≤ (x5_3 : Int) := of_decide_eq_true (by first | (with_reducible assumption) | assumption)
                 have q16 : x5_3 < ((rdOf ByteArray.empty t199 x4_1).size : Int) := of_decide_eq_true (by first | (with_reducible assumption) | assumption)
                 have hx16 := bt_at (rdOf ByteArray.empty t199 x4_1) x5_3
                 replace p16 := eq_true p16
                 replace q16 := eq_true q16
                 go_wp2
                 go_roundg k3
                 case measure => have := HK1.out; have := HJ4.out; have := HK3.out; omega
                 case rel => exact ⟨(wrap64 (x5_3 + 1)), (by first | rfl | (simp; done) | (simp [*]; done)), H', ⟨by have := HK1.out; have := HJ4.out; have := HK3.out; omega⟩, ⟨by (with_reducible repeat (first | apply Kd.R_alloc | apply Kd.R_drewN | apply Kd.R_drew)); exact HO_3.out⟩, ⟨by repeat (first | (with_reducible first | exact HB.out | apply below_alloc | apply pw_below_drewN | apply below_drew1) | exact HB.out)⟩⟩
                ·rw [if_neg c23] at H
                 have c23b0 : ((bt (rdOf ByteArray.empty t199 x4_1) x5_3) == 46) = false := beq_eq_false_iff_ne.mpr c23
                 have c23b1 : ((bt (rdOf ByteArray.empty t199 x4_1) x5_3) != 46) = true := bne_iff_ne.mpr c23
                 by_cases c24 : (bt (rdOf ByteArray.empty t199 x4_1) x5_3) = 45
                 ·rw [if_pos c24] at H
                  have c24b0 : ((bt (rdOf ByteArray.empty t199 x4_1) x5_3) == 45) = true := beq_iff_eq.mpr c24
                  have c24b1 : ((bt (rdOf ByteArray.empty t199 x4_1) x5_3) != 45) = false := bne_eq_false_iff_eq.mpr c24
                  clear c24
                  have H' := Aside0.mk H
                  clear H
                  have p206 : 0 ≤ (x4_1 : Int) := of_decide_eq_true (by first | (with_reducible assumption) | assumption)
                  have q206 : x4_1 < (t199.length : Int) := of_decide_eq_true (by first | (with_reducible assumption) | assumption)
                  obtain ⟨ad206, e206, hx206_0⟩ := Kd.at_string (Kd.R_reads' HO_3.out).2.2 x4_1 p206 q206
                  cases e206
                  replace p206 := eq_true p206
                  replace q206 := eq_true q206
                  have p207 : 0 ≤ (x4_1 : Int) := of_decide_eq_true (by first | (with_reducible assumption) | assumption)
                  have q207 : x4_1 < (t199.length : Int) := of_decide_eq_true (by first | (with_reducible assumption) | assumption)
                  obtain ⟨ad207, e207, hx207_0⟩ := Kd.at_string (Kd.R_reads' HO_3.out).2.2 x4_1 p207 q207
                  obtain rfl : ad206 = ad207 := (by injection e207)
                  replace p207 := eq_true p207
                  replace q207 := eq_true q207
                  have p16 : 0 ≤ (x5_3 : Int) := of_decide_eq_true (by first | (with_reducible assumption) | assumption)
                  have q16 : x5_3 < ((rdOf ByteArray.empty t199 x4_1).size : Int) := of_decide_eq_true (by first | (with_reducible assumption) | assumption)
                  have hx16 := bt_at (rdOf ByteArray.empty t199 x4_1) x5_3
                  replace p16 := eq_true p16
                  replace q16 := eq_true q16
                  go_wp2
                  go_roundg k3
                  case measure => have := HK1.out; have := HJ4.out; have := HK3.out; omega
                  case rel => exact ⟨(wrap64 (x5_3 + 1)), (by first | rfl | (simp; done) | (simp [*]; done)), H', ⟨by have := HK1.out; have := HJ4.out; have := HK3.out; omega⟩, ⟨by (with_reducible repeat (first | apply Kd.R_alloc | apply Kd.R_drewN | apply Kd.R_drew)); exact HO_3.out⟩, ⟨by repeat (first | (with_reducible first | exact HB.out | apply below_alloc | apply pw_below_drewN | apply below_drew1) | exact HB.out)⟩⟩
                 ·rw [if_neg c24] at H
                  have c24b0 : ((bt (rdOf ByteArray.empty t199 x4_1) x5_3) == 45) = false := beq_eq_false_iff_ne.mpr c24
                  have c24b1 : ((bt (rdOf ByteArray.empty t199 x4_1) x5_3) != 45) = true := bne_iff_ne.mpr c24
                  by_cases c25 : (bt (rdOf ByteArray.empty t199 x4_1) x5_3) = 95
                  ·rw [if_pos c25] at H
                   have c25b0 : ((bt (rdOf ByteArray.empty t199 x4_1) x5_3) == 95) = true := beq_iff_eq.mpr c25
                   have c25b1 : ((bt (rdOf ByteArray.empty t199 x4_1) x5_3) != 95) = false := bne_eq_false_iff_eq.mpr c25
                   clear c25
                   have H' := Aside0.mk H
                   clear H
                   have p206 : 0 ≤ (x4_1 : Int) := of_decide_eq_true (by first | (with_reducible assumption) | assumption)
                   have q206 : x4_1 < (t199.length : Int) := of_decide_eq_true (by first | (with_reducible assumption) | assumption)
                   obtain ⟨ad206, e206, hx206_0⟩ := Kd.at_string (Kd.R_reads' HO_3.out).2.2 x4_1 p206 q206
                   cases e206
                   replace p206 := eq_true p206
                   replace q206 := eq_true q206
                   have p207 : 0 ≤ (x4_1 : Int) := of_decide_eq_true (by first | (with_reducible assumption) | assumption)
                   have q207 : x4_1 < (t199.length : Int) := of_decide_eq_true (by first | (with_reducible assumption) | assumption)
                   obtain ⟨ad207, e207, hx207_0⟩ := Kd.at_string (Kd.R_reads' HO_3.out).2.2 x4_1 p207 q207
                   obtain rfl : ad206 = ad207 := (by injection e207)
                   replace p207 := eq_true p207
                   replace q207 := eq_true q207
                   have p16 : 0 ≤ (x5_3 : Int) := of_decide_eq_true (by first | (with_reducible assumption) | assumption)
                   have q16 : x5_3 < ((rdOf ByteArray.empty t199 x4_1).size : Int) := of_decide_eq_true (by first | (with_reducible assumption) | assumption)
                   have hx16 := bt_at (rdOf ByteArray.empty t199 x4_1) x5_3
                   replace p16 := eq_true p16
                   replace q16 := eq_true q16
                   go_wp2
                   go_roundg k3
                   case measure => have := HK1.out; have := HJ4.out; have := HK3.out; omega
                   case rel => exact ⟨(wrap64 (x5_3 + 1)), (by first | rfl | (simp; done) | (simp [*]; done)), H', ⟨by have := HK1.out; have := HJ4.out; have := HK3.out; omega⟩, ⟨by (with_reducible repeat (first | apply Kd.R_alloc | apply Kd.R_drewN | apply Kd.R_drew)); exact HO_3.out⟩, ⟨by repeat (first | (with_reducible first | exact HB.out | apply below_alloc | apply pw_below_drewN | apply below_drew1) | exact HB.out)⟩⟩
                  ·rw [if_neg c25] at H
                   have c25b0 : ((bt (rdOf ByteArray.empty t199 x4_1) x5_3) == 95) = false := beq_eq_false_iff_ne.mpr c25
                   have c25b1 : ((bt (rdOf ByteArray.empty t199 x4_1) x5_3) != 95) = true := bne_iff_ne.mpr c25
                   obtain rfl := Option.some.inj H
                   have p206 : 0 ≤ (x4_1 : Int) := of_decide_eq_true (by first | (with_reducible assumption) | assumption)
                   have q206 : x4_1 < (t199.length : Int) := of_decide_eq_true (by first | (with_reducible assumption) | assumption)
                   obtain ⟨ad206, e206, hx206_0⟩ := Kd.at_string (Kd.R_reads' HO_3.out).2.2 x4_1 p206 q206
                   cases e206
                   replace p206 := eq_true p206
                   replace q206 := eq_true q206
                   have p207 : 0 ≤ (x4_1 : Int) := of_decide_eq_true (by first | (with_reducible assumption) | assumption)
                   have q207 : x4_1 < (t199.length : Int) := of_decide_eq_true (by first | (with_reducible assumption) | assumption)
                   obtain ⟨ad207, e207, hx207_0⟩ := Kd.at_string (Kd.R_reads' HO_3.out).2.2 x4_1 p207 q207
                   obtain rfl : ad206 = ad207 := (by injection e207)
                   replace p207 := eq_true p207
                   replace q207 := eq_true q207
                   have p16 : 0 ≤ (x5_3 : Int) := of_decide_eq_true (by first | (with_reducible assumption) | assumption)
                   have q16 : x5_3 < ((rdOf ByteArray.empty t199 x4_1).size : Int) := of_decide_eq_true (by first | (with_reducible assumption) | assumption)
                   have hx16 := bt_at (rdOf ByteArray.empty t199 x4_1) x5_3
                   replace p16 := eq_true p16
                   replace q16 := eq_true q16
                   go_wp2
                   go_ret
                   exact ⟨by first | rfl | (simp [*, errW_none, errW_some] <;> rfl), by repeat (first | (with_reducible first | exact HB.out | apply below_alloc | apply pw_below_drewN | apply below_drew1) | exact HB.out)⟩
               ·rw [if_neg c22] at H
                have c22b0 : decide (57 < (bt (rdOf ByteArray.empty t199 x4_1) x5_3)) = false := decide_eq_false c22
                clear c22
                have H' := Aside0.mk H
                clear H
                have p206 : 0 ≤ (x4_1 : Int) := of_decide_eq_true (by first | (with_reducible assumption) | assumption)
                have q206 : x4_1 < (t199.length : Int) := of_decide_eq_true (by first | (with_reducible assumption) | assumption)
                obtain ⟨ad206, e206, hx206_0⟩ := Kd.at_string (Kd.R_reads' HO_3.out).2.2 x4_1 p206 q206
                cases e206
                replace p206 := eq_true p206
                replace q206 := eq_true q206
                have p207 : 0 ≤ (x4_1 : Int) := of_decide_eq_true (by first | (with_reducible assumption) | assumption)
                have q207 : x4_1 < (t199.length : Int) := of_decide_eq_true (by first | (with_reducible assumption) | assumption)
                obtain ⟨ad207, e207, hx207_0⟩ := Kd.at_string (Kd.R_reads' HO_3.out).2.2 x4_1 p207 q207
                obtain rfl : ad206 = ad207 := (by injection e207)
                replace p207 := eq_true p207
                replace q207 := eq_true q207
                have p16 : 0 ≤ (x5_3 : Int) := of_decide_eq_true (by first | (with_reducible assumption) | assumption)
                have q16 : x5_3 < ((rdOf ByteArray.empty t199 x4_1).size : Int) := of_decide_eq_true (by first | (with_reducible assumption) | assumption)
                have hx16 := bt_at (rdOf ByteArray.empty t199 x4_1) x5_3
                replace p16 := eq_true p16
                replace q16 := eq_true q16
                go_wp2
                go_roundg k3
                case measure => have := HK1.out; have := HJ4.out; have := HK3.out; omega
                case rel => exact ⟨(wrap64 (x5_3 + 1)), (by first | rfl | (simp; done) | (simp [*]; done)), H', ⟨by have := HK1.out; have := HJ4.out; have := HK3.out; omega⟩, ⟨by (with_reducible repeat (first | apply Kd.R_alloc | apply Kd.R_drewN | apply Kd.R_drew)); exact HO_3.out⟩, ⟨by repeat (first | (with_reducible first | exact HB.out | apply below_alloc | apply pw_below_drewN | apply below_drew1) | exact HB.out)⟩⟩
             ·rw [if_neg c17] at H
              have c17b0 : decide ((bt (rdOf ByteArray.empty t199 x4_1) x5_3) < 97) = false := decide_eq_false c17
              clear c17
              by_cases c26 : (bt (rdOf ByteArray.empty t199 x4_1) x5_3) > 122
              ·rw [if_pos c26] at H
               have c26b0 : decide (122 < (bt (rdOf ByteArray.empty t199 x4_1) x5_3)) = true := decide_eq_true c26
               clear c26
               by_cases c27 : (bt (rdOf ByteArray.empty t199 x4_1) x5_3) < 48
               ·rw [if_pos c27] at H
                have c27b0 : decide ((bt (rdOf ByteArray.empty t199 x4_1) x5_3) < 48) = true := decide_eq_true c27
                clear c27
                by_cases c28 : (bt (rdOf ByteArray.empty t199 x4_1) x5_3) = 46
                ·rw [if_pos c28] at H
                 have c28b0 : ((bt (rdOf ByteArray.empty t199 x4_1) x5_3) == 46) = true := beq_iff_eq.mpr c28
                 have c28b1 : ((bt (rdOf ByteArray.empty t199 x4_1) x5_3) != 46) = false := bne_eq_false_iff_eq.mpr c28
                 clear c28
                 have H' := Aside0.mk H
                 clear H
                 have p206 : 0 ≤ (x4_1 : Int) := of_decide_eq_true (by first | (with_reducible assumption) | assumption)
                 have q206 : x4_1 < (t199.length : Int) := of_decide_eq_true (by first | (with_reducible assumption) | assumption)
                 obtain ⟨ad206, e206, hx206_0⟩ := Kd.at_string (Kd.R_reads' HO_3.out).2.2 x4_1 p206 q206
                 cases e206
                 replace p206 := eq_true p206
                 replace q206 := eq_true q206
                 have p207 : 0 ≤ (x4_1 : Int) := of_decide_eq_true (by first | (with_reducible assumption) | assumption)
                 have q207 : x4_1 < (t199.length : Int) := of_decide_eq_true (by first | (with_reducible assumption) | assumption)
                 obtain ⟨ad207, e207, hx207_0⟩ := Kd.at_string (Kd.R_reads' HO_3.out).2.2 x4_1 p207 q207
                 obtain rfl : ad206 = ad207 := (by injection e207)
                 replace p207 := eq_true p207
                 replace q207 := eq_true q207
                 have p16 : 0 ≤ (x5_3 : Int) := of_decide_eq_true (by first | (with_reducible assumption) | assumption)
                 have q16 : x5_3 < ((rdOf ByteArray.empty t199 x4_1).size : Int) := of_decide_eq_true (by first | (with_reducible assumption) | assumption)
                 have hx16 := bt_at (rdOf ByteArray.empty t199 x4_1) x5_3
                 replace p16 := eq_true p16
                 replace q16 := eq_true q16
                 go_wp2
                 go_roundg k3
                 case measure => have := HK1.out; have := HJ4.out; have := HK3.out; omega
                 case rel => exact ⟨(wrap64 (x5_3 + 1)), (by first | rfl | (simp; done) | (simp [*]; done)), H', ⟨by have := HK1.out; have := HJ4.out; have := HK3.out; omega⟩, ⟨by (with_reducible repeat (first | apply Kd.R_alloc | apply Kd.R_drewN | apply Kd.R_drew)); exact HO_3.out⟩, ⟨by repeat (first | (with_reducible first | exact HB.out | apply below_alloc | apply pw_below_drewN | apply below_drew1) | exact HB.out)⟩⟩
                ·rw [if_neg c28] at H
                 have c28b0 : ((bt (rdOf ByteArray.empty t199 x4_1) x5_3) == 46) = false := beq_eq_false_iff_ne.mpr c28
                 have c28b1 : ((bt (rdOf ByteArray.empty t199 x4_1) x5_3) != 46) = true := bne_iff_ne.mpr c28
                 by_cases c29 : (bt (rdOf ByteArray.empty t199 x4_1) x5_3) = 45
                 ·rw [if_pos c29] at H
                  have c29b0 : ((bt (rdOf ByteArray.empty t199 x4_1) x5_3) == 45) = true := beq_iff_eq.mpr c29
                  have c29b1 : ((bt (rdOf ByteArray.empty t199 x4_1) x5_3) != 45) = false := bne_eq_false_iff_eq.mpr c29
                  clear c29
                  have H' := Aside0.mk H
                  clear H
                  have p206 : 0 ≤ (x4_1 : Int) := of_decide_eq_true (by first | (with_reducible assumption) | assumption)
                  have q206 : x4_1 < (t199.length : Int) := of_decide_eq_true (by first | (with_reducible assumption) | assumption)
                  obtain ⟨ad206, e206, hx206_0⟩ := Kd.at_string (Kd.R_reads' HO_3.out).2.2 x4_1 p206 q206
                  cases e206
                  replace p206 := eq_true p206
                  replace q206 := eq_true q206
                  have p207 : 0 ≤ (x4_1 : Int) := of_decide_eq_true (by first | (with_reducible assumption) | assumption)
                  have q207 : x4_1 < (t199.length : Int) := of_decide_eq_true (by first | (with_reducible assumption) | assumption)
                  obtain ⟨ad207, e207, hx207_0⟩ := Kd.at_string (Kd.R_reads' HO_3.out).2.2 x4_1 p207 q207
                  obtain rfl : ad206 = ad207 := (by injection e207)
                  replace p207 := eq_true p207
                  replace q207 := eq_true q207
                  have p16 : 0 ≤ (x5_3 : Int) := of_decide_eq_true (by first | (with_reducible assumption) | assumption)
                  have q16 : x5_3 < ((rdOf ByteArray.empty t199 x4_1).size : Int) := of_decide_eq_true (by first | (with_reducible assumption) | assumption)
                  have hx16 := bt_at (rdOf ByteArray.empty t199 x4_1) x5_3
                  replace p16 := eq_true p16
                  replace q16 := eq_true q16
                  go_wp2
                  go_roundg k3
                  case measure => have := HK1.out; have := HJ4.out; have := HK3.out; omega
                  case rel => exact ⟨(wrap64 (x5_3 + 1)), (by first | rfl | (simp; done) | (simp [*]; done)), H', ⟨by have := HK1.out; have := HJ4.out; have := HK3.out; omega⟩, ⟨by (with_reducible repeat (first | apply Kd.R_alloc | apply Kd.R_drewN | apply Kd.R_drew)); exact HO_3.out⟩, ⟨by repeat (first | (with_reducible first | exact HB.out | apply below_alloc | apply pw_below_drewN | apply below_drew1) | exact HB.out)⟩⟩
                 ·rw [if_neg c29] at H
                  have c29b0 : ((bt (rdOf ByteArray.empty t199 x4_1) x5_3) == 45) = false := beq_eq_false_iff_ne.mpr c29
                  have c29b1 : ((bt (rdOf ByteArray.empty t199 x4_1) x5_3) != 45) = true := bne_iff_ne.mpr c29
                  by_cases c30 : (bt (rdOf ByteArray.empty t199 x4_1) x5_3) = 95
                  ·rw [if_pos c30] at H
                   have c30b0 : ((bt (rdOf ByteArray.empty t199 x4_1) x5_3) == 95) = true := beq_iff_eq.mpr c30
                   have c30b1 : ((bt (rdOf ByteArray.empty t199 x4_1) x5_3) != 95) = false := bne_eq_false_iff_eq.mpr c30
                   clear c30
                   have H' := Aside0.mk H
                   clear H
                   have p206 : 0 ≤ (x4_1 : Int) := of_decide_eq_true (by first | (with_reducible assumption) | assumption)
                   have q206 : x4_1 < (t199.length : Int) := of_decide_eq_true (by first | (with_reducible assumption) | assumption)
                   obtain ⟨ad206, e206, hx206_0⟩ := Kd.at_string (Kd.R_reads' HO_3.out).2.2 x4_1 p206 q206
                   cases e206
                   replace p206 := eq_true p206
                   replace q206 := eq_true q206
                   have p207 : 0 ≤ (x4_1 : Int) := of_decide_eq_true (by first | (with_reducible assumption) | assumption)
                   have q207 : x4_1 < (t199.length : Int) := of_decide_eq_true (by first | (with_reducible assumption) | assumption)
                   obtain ⟨ad207, e207, hx207_0⟩ := Kd.at_string (Kd.R_reads' HO_3.out).2.2 x4_1 p207 q207
                   obtain rfl : ad206 = ad207 := (by injection e207)
                   replace p207 := eq_true p207
                   replace q207 := eq_true q207
                   have p16 : 0 ≤ (x5_3 : Int) := of_decide_eq_true (by first | (with_reducible assumption) | assumption)
                   have q16 : x5_3 < ((rdOf ByteArray.empty t199 x4_1).size : Int) := of_decide_eq_true (by first | (with_reducible assumption) | assumption)
                   have hx16 := bt_at (rdOf ByteArray.empty t199 x4_1) x5_3
                   replace p16 := eq_true p16
                   replace q16 := eq_true q16
                   go_wp2
                   go_roundg k3
                   case measure => have := HK1.out; have := HJ4.out; have := HK3.out; omega
                   case rel => exact ⟨(wrap64 (x5_3 + 1)), (by first | rfl | (simp; done) | (simp [*]; done)), H', ⟨by have := HK1.out; have := HJ4.out; have := HK3.out; omega⟩, ⟨by (with_reducible repeat (first | apply Kd.R_alloc | apply Kd.R_drewN | apply Kd.R_drew)); exact HO_3.out⟩, ⟨by repeat (first | (with_reducible first | exact HB.out | apply below_alloc | apply pw_below_drewN | apply below_drew1) | exact HB.out)⟩⟩
                  ·rw [if_neg c30] at H
                   have c30b0 : ((bt (rdOf ByteArray.empty t199 x4_1) x5_3) == 95) = false := beq_eq_false_iff_ne.mpr c30
                   have c30b1 : ((bt (rdOf ByteArray.empty t199 x4_1) x5_3) != 95) = true := bne_iff_ne.mpr c30
                   obtain rfl := Option.some.inj H
                   have p206 : 0 ≤ (x4_1 : Int) := of_decide_eq_true (by first | (with_reducible assumption) | assumption)
                   have q206 : x4_1 < (t199.length : Int) := of_decide_eq_true (by first | (with_reducible assumption) | assumption)
                   obtain ⟨ad206, e206, hx206_0⟩ := Kd.at_string (Kd.R_reads' HO_3.out).2.2 x4_1 p206 q206
                   cases e206
                   replace p206 := eq_true p206
                   replace q206 := eq_true q206
                   have p207 : 0 ≤ (x4_1 : Int) := of_decide_eq_true (by first | (with_reducible assumption) | assumption)
                   have q207 : x4_1 < (t199.length : Int) := of_decide_eq_true (by first | (with_reducible assumption) | assumption)
                   obtain ⟨ad207, e207, hx207_0⟩ := Kd.at_string (Kd.R_reads' HO_3.out).2.2 x4_1 p207 q207
                   obtain rfl : ad206 = ad207 := (by injection e207)
                   replace p207 := eq_true p207
                   replace q207 := eq_true q207
                   have p16 : 0 ≤ (x5_3 : Int) := of_decide_eq_true (by first | (with_reducible assumption) | assumption)
                   have q16 : x5_3 < ((rdOf ByteArray.empty t199 x4_1).size : Int) := of_decide_eq_true (by first | (with_reducible assumption) | assumption)
                   have hx16 := bt_at (rdOf ByteArray.empty t199 x4_1) x5_3
                   replace p16 := eq_true p16
                   replace q16 := eq_true q16
                   go_wp2
                   go_ret
                   exact ⟨by first | rfl | (simp [*, errW_none, errW_some] <;> rfl), by repeat (first | (with_reducible first | exact HB.out | apply below_alloc | apply pw_below_drewN | apply below_drew1) | exact HB.out)⟩
               ·rw [if_neg c27] at H
                have c27b0 : decide ((bt (rdOf ByteArray.empty t199 x4_1) x5_3) < 48) = false := decide_eq_false c27
                clear c27
                by_cases c31 : (bt (rdOf ByteArray.empty t199 x4_1) x5_3) > 57
                ·rw [if_pos c31] at H
                 have c31b0 : decide (57 < (bt (rdOf ByteArray.empty t199 x4_1) x5_3)) = true := decide_eq_true c31
                 clear c31
                 by_cases c32 : (bt (rdOf ByteArray.empty t199 x4_1) x5_3) = 46
                 ·rw [if_pos c32] at H
                  have c32b0 : ((bt (rdOf ByteArray.empty t199 x4_1) x5_3) == 46) = true := beq_iff_eq.mpr c32
                  have c32b1 : ((bt (rdOf ByteArray.empty t199 x4_1) x5_3) != 46) = false := bne_eq_false_iff_eq.mpr c32
                  clear c32
                  have H' := Aside0.mk H
                  clear H
                  have p206 : 0 ≤ (x4_1 : Int) := of_decide_eq_true (by first | (with_reducible assumption) | assumption)
                  have q206 : x4_1 < (t199.length : Int) := of_decide_eq_true (by first | (with_reducible assumption) | assumption)
                  obtain ⟨ad206, e206, hx206_0⟩ := Kd.at_string (Kd.R_reads' HO_3.out).2.2 x4_1 p206 q206
                  cases e206
                  replace p206 := eq_true p206
                  replace q206 := eq_true q206
                  have p207 : 0 ≤ (x4_1 : Int) := of_decide_eq_true (by first | (with_reducible assumption) | assumption)
                  have q207 : x4_1 < (t199.length : Int) := of_decide_eq_true (by first | (with_reducible assumption) | assumption)
                  obtain ⟨ad207, e207, hx207_0⟩ := Kd.at_string (Kd.R_reads' HO_3.out).2.2 x4_1 p207 q207
                  obtain rfl : ad206 = ad207 := (by injection e207)
                  replace p207 := eq_true p207
                  replace q207 := eq_true q207
                  have p16 : 0 ≤ (x5_3 : Int) := of_decide_eq_true (by first | (with_reducible assumption) | assumption)
                  have q16 : x5_3 < ((rdOf ByteArray.empty t199 x4_1).size : Int) := of_decide_eq_true (by first | (with_reducible assumption) | assumption)
                  have hx16 := bt_at (rdOf ByteArray.empty t199 x4_1) x5_3
                  replace p16 := eq_true p16
                  replace q16 := eq_true q16
                  go_wp2
                  go_roundg k3
                  case measure => have := HK1.out; have := HJ4.out; have := HK3.out; omega
                  case rel => exact ⟨(wrap64 (x5_3 + 1)), (by first | rfl | (simp; done) | (simp [*]; done)), H', ⟨by have := HK1.out; have := HJ4.out; have := HK3.out; omega⟩, ⟨by (with_reducible repeat (first | apply Kd.R_alloc | apply Kd.R_drewN | apply Kd.R_drew)); exact HO_3.out⟩, ⟨by repeat (first | (with_reducible first | exact HB.out | apply below_alloc | apply pw_below_drewN | apply below_drew1) | exact HB.out)⟩⟩
                 ·rw [if_neg c32] at H
                  have c32b0 : ((bt (rdOf ByteArray.empty t199 x4_1) x5_3) == 46) = false := beq_eq_false_iff_ne.mpr c32
                  have c32b1 : ((bt (rdOf ByteArray.empty t199 x4_1) x5_3) != 46) = true := bne_iff_ne.mpr c32
                  by_cases c33 : (bt (rdOf ByteArray.empty t199 x4_1) x5_3) = 45
                  ·rw [if_pos c33] at H
                   have c33b0 : ((bt (rdOf ByteArray.empty t199 x4_1) x5_3) == 45) = true := beq_iff_eq.mpr c33
                   have c33b1 : ((bt (rdOf ByteArray.empty t199 x4_1) x5_3) != 45) = false := bne_eq_false_iff_eq.mpr c33
                   clear c33
                   have H' := Aside0.mk H
                   clear H
                   have p206 : 0 ≤ (x4_1 : Int) := of_decide_eq_true (by first | (with_reducible assumption) | assumption)
                   have q206 : x4_1 < (t199.length : Int) := of_decide_eq_true (by first | (with_reducible assumption) | assumption)
                   obtain ⟨ad206, e206, hx206_0⟩ := Kd.at_string (Kd.R_reads' HO_3.out).2.2 x4_1 p206 q206
                   cases e206
                   replace p206 := eq_true p206
                   replace q206 := eq_true q206
                   have p207 : 0 ≤ (x4_1 : Int) := of_decide_eq_true (by first | (with_reducible assumption) | assumption)
                   have q207 : x4_1 < (t199.length : Int) := of_decide_eq_true (by first | (with_reducible assumption) | assumption)
                   obtain ⟨ad207, e207, hx207_0⟩ := Kd.at_string (Kd.R_reads' HO_3.out).2.2 x4_1 p207 q207
                   obtain rfl : ad206 = ad207 := (by injection e207)
                   replace p207 := eq_true p207
                   replace q207 := eq_true q207
                   have p16 : 0 ≤ (x5_3 : Int) := of_decide_eq_true (by first | (with_reducible assumption) | assumption)
                   have q16 : x5_3 < ((rdOf ByteArray.empty t199 x4_1).size : Int) := of_decide_eq_true (by first | (with_reducible assumption) | assumption)
                   have hx16 := bt_at (rdOf ByteArray.empty t199 x4_1) x5_3
                   replace p16 := eq_true p16
                   replace q16 := eq_true q16
                   go_wp2
                   go_roundg k3
                   case measure => have := HK1.out; have := HJ4.out; have := HK3.out; omega
                   case rel => exact ⟨(wrap64 (x5_3 + 1)), (by first | rfl | (simp; done) | (simp [*]; done)), H', ⟨by have := HK1.out; have := HJ4.out; have := HK3.out; omega⟩, ⟨by (with_reducible repeat (first | apply Kd.R_alloc | apply Kd.R_drewN | apply Kd.R_drew)); exact HO_3.out⟩, ⟨by repeat (first | (with_reducible first | exact HB.out | apply below_alloc | apply pw_below_drewN | apply below_drew1) | exact HB.out)⟩⟩
                  ·rw [if_neg c33] at H
                   have c33b0 : ((bt (rdOf ByteArray.empty t199 x4_1) x5_3) == 45) = false := beq_eq_false_iff_ne.mpr c33
                   have c33b1 : ((bt (rdOf ByteArray.empty t199 x4_1) x5_3) != 45) = true := bne_iff_ne.mpr c33
                   by_cases c34 : (bt (rdOf ByteArray.empty t199 x4_1) x5_3) = 95
                   ·rw [if_pos c34] at H
                    have c34b0 : ((bt (rdOf ByteArray.empty t199 x4_1) x5_3) == 95) = true := beq_iff_eq.mpr c34
                    have c34b1 : ((bt (rdOf ByteArray.empty t199 x4_1) x5_3) != 95) = false := bne_eq_false_iff_eq.mpr c34
                    clear c34
                    have H' := Aside0.mk H
                    clear H
                    have p206 : 0 ≤ (x4_1 : Int) := of_decide_eq_true (by first | (with_reducible assumption) | assumption)
                    have q206 : x4_1 < (t199.length : Int) := of_decide_eq_true (by first | (with_reducible assumption) | assumption)
                    obtain ⟨ad206, e206, hx206_0⟩ := Kd.at_string (Kd.R_reads' HO_3.out).2.2 x4_1 p206 q206
                    cases e206
                    replace p206 := eq_true p206
                    replace q206 := eq_true q206
                    have p207 : 0 ≤ (x4_1 : Int) := of_decide_eq_true (by first | (with_reducible assumption) | assumption)
                    have q207 : x4_1 < (t199.length : Int) := of_decide_eq_true (by first | (with_reducible assumption) | assumption)
                    obtain ⟨ad207, e207, hx207_0⟩ := Kd.at_string (Kd.R_reads' HO_3.out).2.2 x4_1 p207 q207
                    obtain rfl : ad206 = ad207 := (by injection e207)
                    replace p207 := eq_true p207
                    replace q207 := eq_true q207
                    have p16 : 0 ≤ (x5_3 : Int) := of_decide_eq_true (by first | (with_reducible assumption) | assumption)
                    have q16 : x5_3 < ((rdOf ByteArray.empty t199 x4_1).size : Int) := of_decide_eq_true (by first | (with_reducible assumption) | assumption)
                    have hx16 := bt_at (rdOf ByteArray.empty t199 x4_1) x5_3
                    replace p16 := eq_true p16
                    replace q16 := eq_true q16
                    go_wp2
                    go_roundg k3
                    case measure => have := HK1.out; have := HJ4.out; have := HK3.out; omega
                    case rel => exact ⟨(wrap64 (x5_3 + 1)), (by first | rfl | (simp; done) | (simp [*]; done)), H', ⟨by have := HK1.out; have := HJ4.out; have := HK3.out; omega⟩, ⟨by (with_reducible repeat (first | apply Kd.R_alloc | apply Kd.R_drewN | apply Kd.R_drew)); exact HO_3.out⟩, ⟨by repeat (first | (with_reducible first | exact HB.out | apply below_alloc | apply pw_below_drewN | apply below_drew1) | exact HB.out)⟩⟩
                   ·rw [if_neg c34] at H
                    have c34b0 : ((bt (rdOf ByteArray.empty t199 x4_1) x5_3) == 95) = false := beq_eq_false_iff_ne.mpr c34
                    have c34b1 : ((bt (rdOf ByteArray.empty t199 x4_1) x5_3) != 95) = true := bne_iff_ne.mpr c34
                    obtain rfl := Option.some.inj H
                    have p206 : 0 ≤ (x4_1 : Int) := of_decide_eq_true (by first | (with_reducible assumption) | assumption)
                    have q206 : x4_1 < (t199.length : Int) := of_decide_eq_true (by first | (with_reducible assumption) | assumption)
                    obtain ⟨ad206, e206, hx206_0⟩ := Kd.at_string (Kd.R_reads' HO_3.out).2.2 x4_1 p206 q206
                    cases e206
                    replace p206 := eq_true p206
                    replace q206 := eq_true q206
                    have p207 : 0 ≤ (x4_1 : Int) := of_decide_eq_true (by first | (with_reducible assumption) | assumption)
                    have q207 : x4_1 < (t199.length : Int) := of_decide_eq_true (by first | (with_reducible assumption) | assumption)
                    obtain ⟨ad207, e207, hx207_0⟩ := Kd.at_string (Kd.R_reads' HO_3.out).2.2 x4_1 p207 q207
                    obtain rfl : ad206 = ad207 := (by injection e207)
                    replace p207 := eq_true p207
                    replace q207 := eq_true q207
                    have p16 : 0 ≤ (x5_3 : Int) := of_decide_eq_true (by first | (with_reducible assumption) | assumption)
                    have q16 : x5_3 < ((rdOf ByteArray.empty t199 x4_1).size : Int) := of_decide_eq_true (by first | (with_reducible assumption) | assumption)
                    have hx16 := bt_at (rdOf ByteArray.empty t199 x4_1) x5_3
                    replace p16 := eq_true p16
                    replace q16 := eq_true q16
                    go_wp2
                    go_ret
                    exact ⟨by first | rfl | (simp [*, errW_none, errW_some] <;> rfl), by repeat (first | (with_reducible first | exact HB.out | apply below_alloc | apply pw_below_drewN | apply below_drew1) | exact HB.out)⟩
                ·rw [if_neg c31] at H
                 have c31b0 : decide (57 < (bt (rdOf ByteArray.empty t199 x4_1) x5_3)) = false := decide_eq_false c31
                 clear c31
                 have H' := Aside0.mk H
                 clear H
                 have p206 : 0 ≤ (x4_1 : Int) := of_decide_eq_true (by first | (with_reducible assumption) | assumption)
                 have q206 : x4_1 < (t199.length : Int) := of_decide_eq_true (by first | (with_reducible assumption) | assumption)
                 obtain ⟨ad206, e206, hx206_0⟩ := Kd.at_string (Kd.R_reads' HO_3.out).2.2 x4_1 p206 q206
                 cases e206
                 replace p206 := eq_true p206
                 replace q206 := eq_true q206
                 have p207 : 0 ≤ (x4_1 : Int) := of_decide_eq_true (by first | (with_reducible assumption) | assumption)
                 have q207 : x4_1 < (t199.length : Int) := of_decide_eq_true (by first | (with_reducible assumption) | assumption)
                 obtain ⟨ad207, e207, hx207_0⟩ := Kd.at_string (Kd.R_reads' HO_3.out).2.2 x4_1 p207 q207
                 obtain rfl : ad206 = ad207 := (by injection e207)
                 replace p207 := eq_true p207
                 replace q207 := eq_true q207
                 have p16 : 0 ≤ (x5_3 : Int) := of_decide_eq_true (by first | (with_reducible assumption) | assumption)
                 have q16 : x5_3 < ((rdOf ByteArray.empty t199 x4_1).size : Int) := of_decide_eq_true (by first | (with_reducible assumption) | assumption)
                 have hx16 := bt_at (rdOf ByteArray.empty t199 x4_1) x5_3
                 replace p16 := eq_true p16
                 replace q16 := eq_true q16
                 go_wp2
                 go_roundg k3
                 case measure => have := HK1.out; have := HJ4.out; have := HK3.out; omega
                 case rel => exact ⟨(wrap64 (x5_3 + 1)), (by first | rfl | (simp; done) | (simp [*]; done)), H', ⟨by have := HK1.out; have := HJ4.out; have := HK3.out; omega⟩, ⟨by (with_reducible repeat (first | apply Kd.R_alloc | apply Kd.R_drewN | apply Kd.R_drew)); exact HO_3.out⟩, ⟨by repeat (first | (with_reducible first | exact HB.out | apply below_alloc | apply pw_below_drewN | apply below_drew1) | exact HB.out)⟩⟩
              ·rw [if_neg c26] at H
               have c26b0 : decide (122 < (bt (rdOf ByteArray.empty t199 x4_1) x5_3)) = false := decide_eq_false c26
               clear c26
               have H' := Aside0.mk H
               clear H
               have p206 : 0 ≤ (x4_1 : Int) := of_decide_eq_true (by first | (with_reducible assumption) | assumption)
               have q206 : x4_1 < (t199.length : Int) := of_decide_eq_true (by first | (with_reducible assumption) | assumption)
               obtain ⟨ad206, e206, hx206_0⟩ := Kd.at_string (Kd.R_reads' HO_3.out).2.2 x4_1 p206 q206
               cases e206
               replace p206 := eq_true p206
               replace q206 := eq_true q206
               have p207 : 0 ≤ (x4_1 : Int) := of_decide_eq_true (by first | (with_reducible assumption) | assumption)
               have q207 : x4_1 < (t199.length : Int) := of_decide_eq_true (by first | (with_reducible assumption) | assumption)
               obtain ⟨ad207, e207, hx207_0⟩ := Kd.at_string (Kd.R_reads' HO_3.out).2.2 x4_1 p207 q207
               obtain rfl : ad206 = ad207 := (by injection e207)
               replace p207 := eq_true p207
               replace q207 := eq_true q207
               have p16 : 0 ≤ (x5_3 : Int) := of_decide_eq_true (by first | (with_reducible assumption) | assumption)
               have q16 : x5_3 < ((rdOf ByteArray.empty t199 x4_1).size : Int) := of_decide_eq_true (by first | (with_reducible assumption) | assumption)
               have hx16 := bt_at (rdOf ByteArray.empty t199 x4_1) x5_3
               replace p16 := eq_true p16
               replace q16 := eq_true q16
               go_wp2
               go_roundg k3
               case measure => have := HK1.out; have := HJ4.out; have := HK3.out; omega
               case rel => exact ⟨(wrap64 (x5_3 + 1)), (by first | rfl | (simp; done) | (simp [*]; done)), H', ⟨by have := HK1.out; have := HJ4.out; have := HK3.out; omega⟩, ⟨by (with_reducible repeat (first | apply Kd.R_alloc | apply Kd.R_drewN | apply Kd.R_drew)); exact HO_3.out⟩, ⟨by repeat (first | (with_reducible first | exact HB.out | apply below_alloc | apply pw_below_drewN | apply below_drew1) | exact HB.out)⟩⟩
            ·rw [if_neg c15] at H
             exact absurd H (by simp)
           ·rw [if_neg c14] at H
            have c14b0 : decide (x5_3 < ((rdOf ByteArray.empty t199 x4_1).size : Int)) = false := decide_eq_false c14
            clear c14
            have H' := Aside0.mk H
            clear H
            have p206 : 0 ≤ (x4_1 : Int) := of_decide_eq_true (by first | (with_reducible assumption) | assumption)
            have q206 : x4_1 < (t199.length : Int) := of_decide_eq_true (by first | (with_reducible assumption) | assumption)
            obtain ⟨ad206, e206, hx206_0⟩ := Kd.at_string (Kd.R_reads' HO_3.out).2.2 x4_1 p206 q206
            cases e206
            replace p206 := eq_true p206
            replace q206 := eq_true q206
            go_wp2
            go_roundg k3
            case measure => have := HK1.out; have := HJ4.out; have := HK3.out; omega
            case rel => exact ⟨(wrap64 (x4_1 + 1)), (by first | rfl | (simp; done) | (simp [*]; done)), H', ⟨by have := HK1.out; have := HJ4.out; have := HK3.out; omega⟩, ⟨by (with_reducible repeat (first | apply Kd.R_alloc | apply Kd.R_drewN | apply Kd.R_drew)); exact HO_3.out⟩, ⟨by repeat (first | (with_reducible first | exact HB.out | apply below_alloc | apply pw_below_drewN | apply below_drew1) | exact HB.out)⟩⟩
          ·rw [if_neg c13] at H
           exact absurd H (by simp)
         ·rw [if_neg c12] at H
          exact absurd H (by simp)
   ·rw [if_neg c4] at H
    have c4b0 : decide (x4_1 < (t199.length : Int)) = false := decide_eq_false c4
    clear c4
    obtain rfl := Option.some.inj H
    obtain ⟨Ao35, co35, eo35⟩ := Kd.R_slice HO_3.out
    subst eo35
    go_wp2
    go_ret
    exact ⟨by first | rfl | (simp [*, errW_none, errW_some] <;> rfl), by repeat (first | (with_reducible first | exact HB.out | apply below_alloc | apply pw_below_drewN | apply below_drew1) | exact HB.out)⟩
end Go.Proofs.YtidlldfghkaeeaaGreatDoor.P
