/- Written by pp.py, a program of this session over the printer of the kit: what the functions of the program compute, and that they do so; of a law: its row, without a condition. -/
import Derived.Test.YtoedkhoddiefoaaDoorPx0
import Derived.Test.YtoedkhoddiefoaaDoorPx1
import Derived.Test.YtoedkhoddiefoaaDoorPx2
import Derived.Test.YtoedkhoddiefoaaDoorPx4
namespace Go.Proofs.YtoedkhoddiefoaaDoor.P
open Go.RowKit Go.Proofs.YtoedkhoddiefoaaDoorW.PrintWords Go.Proofs.YtoedkhoddiefoaaDoorW.PrintLast Go.Proofs.YtoedkhoddiefoaaDoorW.PrintMore
attribute [local go_sem] max2_int min2_int max_two min_two max_three min_three max_four min_four   -- for this text's walks alone
set_option linter.unusedVariables false
set_option linter.unusedSimpArgs false

/-! ### tallymanlaw7_PathParts: function 4 -/
mutual
def tallymanlaw7_PathParts.j0 : Nat → ByteArray → ByteArray → ByteArray → Bool → Option (Bool)
  | 0, _, _, _, _ => none
  | k + 1, x0, x1, x2, x28 => if x28 = true then (some true) else ((path_Up.f x0).bind fun bt147 => ((path_Base.f x0).bind fun t149 => ((path_Join.f k bt147.1 t149).bind fun bt150 => (if bt147.2 = true then (if bt150.2 = true then (if bt150.1.toList = x0.toList then (if bt147.1.toList = ([] : List UInt8) then (tallymanlaw7_PathParts.j1 k x0 x1 x2 false) else ((path_Under.f x0 bt147.1).bind fun t152 => (if t152 = true then ((path_Cmp.f k bt147.1 x0).bind fun t153 => (if t153 = (-1) then ((path_Depth.f bt147.1).bind fun t154 => ((path_Depth.f x0).bind fun t155 => (tallymanlaw7_PathParts.j1 k x0 x1 x2 (t154 != (wrap64 (t155 - 1)))))) else (tallymanlaw7_PathParts.j1 k x0 x1 x2 true))) else (tallymanlaw7_PathParts.j1 k x0 x1 x2 true)))) else (tallymanlaw7_PathParts.j1 k x0 x1 x2 true)) else (tallymanlaw7_PathParts.j1 k x0 x1 x2 true)) else (tallymanlaw7_PathParts.j1 k x0 x1 x2 true)))))
def tallymanlaw7_PathParts.j1 : Nat → ByteArray → ByteArray → ByteArray → Bool → Option (Bool)
  | 0, _, _, _, _ => none
  | k + 1, x0, x1, x2, x75 => if x75 = true then (some false) else ((path_Cmp.f k x0 x1).bind fun t156 => ((path_Cmp.f k x1 x2).bind fun t157 => ((path_Cmp.f k x0 x2).bind fun t158 => ((path_Cmp.f k x1 x0).bind fun t159 => (if t159 = (wrap64 (-t156)) then (if ((t156 == 0) == (x0.toList == x1.toList)) = true then (if t156 > 0 then ((path_Under.f x1 x0).bind fun t160 => (if t160 = true then ((path_Under.f x2 x1).bind fun t161 => (if t161 = true then ((path_Under.f x2 x0).bind fun t162 => (some t162)) else (some true))) else (some true))) else (if t157 > 0 then ((path_Under.f x1 x0).bind fun t163 => (if t163 = true then ((path_Under.f x2 x1).bind fun t164 => (if t164 = true then ((path_Under.f x2 x0).bind fun t165 => (some t165)) else (some true))) else (some true))) else (if t158 ≤ 0 then ((path_Under.f x1 x0).bind fun t166 => (if t166 = true then ((path_Under.f x2 x1).bind fun t167 => (if t167 = true then ((path_Under.f x2 x0).bind fun t168 => (some t168)) else (some true))) else (some true))) else (some false)))) else (some false)) else (some false))))))
end
def tallymanlaw7_PathParts.f (k : Nat) (a0 : ByteArray) (a1 : ByteArray) (a2 : ByteArray) : Option (Bool) := (tallymanlaw7_awake.f).bind fun t145 => (if t145 = true then ((path_Good.f a0).bind fun t146 => (if t146 = true then (if (a1.size : Int) > 200 then (tallymanlaw7_PathParts.j0 k a0 a1 a2 true) else (tallymanlaw7_PathParts.j0 k a0 a1 a2 (decide ((a2.size : Int) > 200)))) else (tallymanlaw7_PathParts.j0 k a0 a1 a2 true))) else (some false))
theorem tallymanlaw7_PathParts.mono_l : ∀ k, (∀ y0 y1 y2 y3, LeO (tallymanlaw7_PathParts.j0 k y0 y1 y2 y3) (tallymanlaw7_PathParts.j0 (k + 1) y0 y1 y2 y3)) ∧ (∀ y0 y1 y2 y3, LeO (tallymanlaw7_PathParts.j1 k y0 y1 y2 y3) (tallymanlaw7_PathParts.j1 (k + 1) y0 y1 y2 y3))
  | 0 => ⟨fun _ _ _ _ r h => by simp [tallymanlaw7_PathParts.j0] at h, fun _ _ _ _ r h => by simp [tallymanlaw7_PathParts.j1] at h⟩
  | k + 1 => by
    obtain ⟨ih0, ih1⟩ := tallymanlaw7_PathParts.mono_l k
    refine ⟨?_, ?_⟩
    · intro y0 y1 y2 y3
      unfold tallymanlaw7_PathParts.j0
      repeat' first
      | (with_reducible exact ih0 _ _ _ _)
      | (with_reducible exact ih1 _ _ _ _)
      | (with_reducible exact path_Cmp.mono _ _ _)
      | (with_reducible exact path_Join.mono _ _ _)
      | (with_reducible exact LeO.refl _)
      | (with_reducible exact LeO.none _)
      | (with_reducible refine LeO.ite ?_ ?_)
      | (with_reducible refine LeO.bind ?_ (fun _ => ?_))
      | exact ih0 _ _ _ _
      | exact ih1 _ _ _ _
      | exact path_Cmp.mono _ _ _
      | exact path_Join.mono _ _ _
      | exact LeO.none _
      | refine LeO.ite ?_ ?_
      | refine LeO.bind ?_ (fun _ => ?_)
    · intro y0 y1 y2 y3
      unfold tallymanlaw7_PathParts.j1
      repeat' first
      | (with_reducible exact ih0 _ _ _ _)
      | (with_reducible exact ih1 _ _ _ _)
      | (with_reducible exact path_Cmp.mono _ _ _)
      | (with_reducible exact path_Join.mono _ _ _)
      | (with_reducible exact LeO.refl _)
      | (with_reducible exact LeO.none _)
      | (with_reducible refine LeO.ite ?_ ?_)
      | (with_reducible refine LeO.bind ?_ (fun _ => ?_))
      | exact ih0 _ _ _ _
      | exact ih1 _ _ _ _
      | exact path_Cmp.mono _ _ _
      | exact path_Join.mono _ _ _
      | exact LeO.none _
      | refine LeO.ite ?_ ?_
      | refine LeO.bind ?_ (fun _ => ?_)
theorem tallymanlaw7_PathParts.mono : ∀ a0 a1 a2 k, LeO (tallymanlaw7_PathParts.f k a0 a1 a2) (tallymanlaw7_PathParts.f (k + 1) a0 a1 a2) := by
  intro a0 a1 a2 k
  obtain ⟨ih0, ih1⟩ := tallymanlaw7_PathParts.mono_l k
  unfold tallymanlaw7_PathParts.f
  repeat' first
      | (with_reducible exact ih0 _ _ _ _)
      | (with_reducible exact ih1 _ _ _ _)
      | (with_reducible exact path_Cmp.mono _ _ _)
      | (with_reducible exact path_Join.mono _ _ _)
      | (with_reducible exact LeO.refl _)
      | (with_reducible exact LeO.none _)
      | (with_reducible refine LeO.ite ?_ ?_)
      | (with_reducible refine LeO.bind ?_ (fun _ => ?_))
      | exact ih0 _ _ _ _
      | exact ih1 _ _ _ _
      | exact path_Cmp.mono _ _ _
      | exact path_Join.mono _ _ _
      | exact LeO.none _
      | refine LeO.ite ?_ ?_
      | refine LeO.bind ?_ (fun _ => ?_)
set_option maxHeartbeats 8000000 in
set_option maxRecDepth 100000 in
theorem tallymanlaw7_PathParts.calls (k : Nat) (a0 : ByteArray) (a1 : ByteArray) (a2 : ByteArray) (r : Bool) (w : World) (h : tallymanlaw7_PathParts.f k a0 a1 a2 = some r) (hr_ : r = true) :
    Calls Tryd.prog 4 #[.string a0, .string a1, .string a2] w fun e w' => e = .returned (.bool r) ∧ Below w.heap.size w w' := by
  have HT_ := Aside0.mk hr_
  clear hr_
  have HB := Aside0.mk (Below.refl w.heap.size w)
  have H : ((tallymanlaw7_awake.f).bind fun t145 => (if t145 = true then ((path_Good.f a0).bind fun t146 => (if t146 = true then (if (a1.size : Int) > 200 then (tallymanlaw7_PathParts.j0 k a0 a1 a2 true) else (tallymanlaw7_PathParts.j0 k a0 a1 a2 (decide ((a2.size : Int) > 200)))) else (tallymanlaw7_PathParts.j0 k a0 a1 a2 true))) else (some false))) = some r := h
  clear h
  replace H := Option.bind_eq_some_iff.mp H
  obtain ⟨t145, A40, H⟩ := H
  replace H : (if t145 = true then ((path_Good.f a0).bind fun t146 => (if t146 = true then (if (a1.size : Int) > 200 then (tallymanlaw7_PathParts.j0 k a0 a1 a2 true) else (tallymanlaw7_PathParts.j0 k a0 a1 a2 (decide ((a2.size : Int) > 200)))) else (tallymanlaw7_PathParts.j0 k a0 a1 a2 true))) else (some false)) = some r := H
  have A4 := Aside0.mk A40
  clear A40
  by_cases c5 : t145 = true
  · subst c5
    have H1 : ((path_Good.f a0).bind fun t146 => (if t146 = true then (if (a1.size : Int) > 200 then (tallymanlaw7_PathParts.j0 k a0 a1 a2 true) else (tallymanlaw7_PathParts.j0 k a0 a1 a2 (decide ((a2.size : Int) > 200)))) else (tallymanlaw7_PathParts.j0 k a0 a1 a2 true))) = some r := by rw [if_pos rfl] at H; exact H
    clear H
    have H := H1
    clear H1
    have HC6 := Aside0.mk H
    clear H
    go_enter Tryd.func4, Tryd.ntmps4
    go_upto_region 3 with (first | ((with_reducible refine gate_callee (f := 17) rfl ?_); refine goesL_ (some 14) rfl rfl Tryd.func17 (by kernel_rfl) rfl #[] rfl (by (try simp only [List.map_toArray, List.map_cons, List.map_nil]); first | done | rfl | (simp only [List.length_drop, List.length_take]; rfl)) ?_; (with_reducible refine (tallymanlaw7_awake.calls  true _ A4.out).mono ?_); rintro e w7 ⟨rfl, hb⟩; refine ⟨_, rfl, ?_⟩; have n0_ := Aside0.mk (below_step (by repeat (first | (with_reducible first | exact HB.out | apply below_alloc | apply pw_below_drewN | apply below_drew1) | exact HB.out)) hb); clear HB; have HB := n0_; clear n0_; (try clear hb); (try clear hb2); (try clear hk); (try clear hi)))
    (try simp only [Act.put, List.setIfInBounds_toArray, List.set_cons_zero, List.set_cons_succ])
    go_cut [28] (fun v28 wc => ∃ (kq : Nat) (x28_5 : Bool), v28 = .bool x28_5 ∧ Aside0 (tallymanlaw7_PathParts.j0 kq a0 a1 a2 x28_5 = some r) ∧ Aside0 (kq ≤ k) ∧ Aside0 (Below w.heap.size w wc))
    case first =>
      have H := HC6.out
      clear HC6
      replace H := Option.bind_eq_some_iff.mp H
      obtain ⟨t146, A80, H⟩ := H
      replace H : (if t146 = true then (if (a1.size : Int) > 200 then (tallymanlaw7_PathParts.j0 k a0 a1 a2 true) else (tallymanlaw7_PathParts.j0 k a0 a1 a2 (decide ((a2.size : Int) > 200)))) else (tallymanlaw7_PathParts.j0 k a0 a1 a2 true)) = some r := H
      have A8 := Aside0.mk A80
      clear A80
      by_cases c9 : t146 = true
      · subst c9
        have H1 : (if (a1.size : Int) > 200 then (tallymanlaw7_PathParts.j0 k a0 a1 a2 true) else (tallymanlaw7_PathParts.j0 k a0 a1 a2 (decide ((a2.size : Int) > 200)))) = some r := by rw [if_pos rfl] at H; exact H
        clear H
        have H := H1
        clear H1
        by_cases c10 : (a1.size : Int) > 200
        · rw [if_pos c10] at H
          have c10b0 : decide (200 < (a1.size : Int)) = true := decide_eq_true c10
          have c10b1 : decide (200 < a1.size) = true := decide_eq_true (by omega)
          clear c10
          (first | rw [c10b0] | (simp only [i64_w, i32_w]; rw [c10b0]) | skip)
          have H' := Aside0.mk H
          clear H
          go_wp2_with (first | ((with_reducible refine gate_callee (f := 19) rfl ?_); refine goesL_ (some 17) rfl rfl Tryd.func19 (by kernel_rfl) rfl #[.string a0] rfl (by (try simp only [List.map_toArray, List.map_cons, List.map_nil]); first | done | rfl | (simp only [List.length_drop, List.length_take]; rfl)) ?_; (with_reducible refine (path_Good.calls a0 true _ A8.out).mono ?_); rintro e w11 ⟨rfl, hb⟩; refine ⟨_, rfl, ?_⟩; have n0_ := Aside0.mk (below_step (by repeat (first | (with_reducible first | exact HB.out | apply below_alloc | apply pw_below_drewN | apply below_drew1) | exact HB.out)) hb); clear HB; have HB := n0_; clear n0_; (try clear hb); (try clear hb2); (try clear hk); (try clear hi)))
          go_meet
          case rel => exact ⟨_, (true), (by first | rfl | (simp; done) | (simp [*]; done)), H', ⟨by first | omega | exact Nat.le_refl _⟩, ⟨by repeat (first | (with_reducible first | exact HB.out | apply below_alloc | apply pw_below_drewN | apply below_drew1) | exact HB.out)⟩⟩
        · rw [if_neg c10] at H
          have c10b0 : decide (200 < (a1.size : Int)) = false := decide_eq_false c10
          have c10b1 : decide (200 < a1.size) = false := decide_eq_false (by omega)
          clear c10
          (first | rw [c10b0] | (simp only [i64_w, i32_w]; rw [c10b0]) | skip)
          have H' := Aside0.mk H
          clear H
          go_wp2_with (first | ((with_reducible refine gate_callee (f := 19) rfl ?_); refine goesL_ (some 17) rfl rfl Tryd.func19 (by kernel_rfl) rfl #[.string a0] rfl (by (try simp only [List.map_toArray, List.map_cons, List.map_nil]); first | done | rfl | (simp only [List.length_drop, List.length_take]; rfl)) ?_; (with_reducible refine (path_Good.calls a0 true _ A8.out).mono ?_); rintro e w12 ⟨rfl, hb⟩; refine ⟨_, rfl, ?_⟩; have n0_ := Aside0.mk (below_step (by repeat (first | (with_reducible first | exact HB.out | apply below_alloc | apply pw_below_drewN | apply below_drew1) | exact HB.out)) hb); clear HB; have HB := n0_; clear n0_; (try clear hb); (try clear hb2); (try clear hk); (try clear hi)))
          go_meet
          case rel => exact ⟨_, (decide ((a2.size : Int) > 200)), (by first | rfl | (simp; done) | (simp [*]; done)), H', ⟨by first | omega | exact Nat.le_refl _⟩, ⟨by repeat (first | (with_reducible first | exact HB.out | apply below_alloc | apply pw_below_drewN | apply below_drew1) | exact HB.out)⟩⟩
      · replace c9 := Bool.eq_false_iff.mpr c9
        subst c9
        have H1 : (tallymanlaw7_PathParts.j0 k a0 a1 a2 true) = some r := by rw [if_neg (show ¬ (false = true) by decide)] at H; exact H
        clear H
        have H := H1
        clear H1
        have H' := Aside0.mk H
        clear H
        go_wp2_with (first | ((with_reducible refine gate_callee (f := 19) rfl ?_); refine goesL_ (some 17) rfl rfl Tryd.func19 (by kernel_rfl) rfl #[.string a0] rfl (by (try simp only [List.map_toArray, List.map_cons, List.map_nil]); first | done | rfl | (simp only [List.length_drop, List.length_take]; rfl)) ?_; (with_reducible refine (path_Good.calls a0 false _ A8.out).mono ?_); rintro e w13 ⟨rfl, hb⟩; refine ⟨_, rfl, ?_⟩; have n0_ := Aside0.mk (below_step (by repeat (first | (with_reducible first | exact HB.out | apply below_alloc | apply pw_below_drewN | apply below_drew1) | exact HB.out)) hb); clear HB; have HB := n0_; clear n0_; (try clear hb); (try clear hb2); (try clear hk); (try clear hi)))
        go_meet
        case rel => exact ⟨_, (true), (by first | rfl | (simp; done) | (simp [*]; done)), H', ⟨by first | omega | exact Nat.le_refl _⟩, ⟨by repeat (first | (with_reducible first | exact HB.out | apply below_alloc | apply pw_below_drewN | apply below_drew1) | exact HB.out)⟩⟩
    case rest =>
      clear HC6
      try clear c1
      try clear p2
      try clear c4
      try clear c5
      try clear c9
      try clear c10
      try clear c10b0
      try clear c10b1
      obtain ⟨kq, x28_5, rfl, HA, HJ5, HB⟩ := hcut
      cases kq with
      | zero => exact absurd HA.out (by simp [tallymanlaw7_PathParts.j0])
      | succ kj5 =>
        have H := HA.out
        clear HA
        simp only [tallymanlaw7_PathParts.j0] at H
        by_cases c14 : x28_5 = true
        · subst c14
          have H1 : (some true) = some r := by rw [if_pos rfl] at H; exact H
          clear H
          have H := H1
          clear H1
          obtain rfl := Option.some.inj H
          go_wp2
          go_ret
          exact ⟨by first | rfl | (simp [errW_none, errW_some] <;> rfl) | (simp [*, errW_none, errW_some] <;> rfl), by repeat (first | (with_reducible first | exact HB.out | apply below_alloc | apply pw_below_drewN | apply below_drew1) | exact HB.out)⟩
        · replace c14 := Bool.eq_false_iff.mpr c14
          subst c14
          have H1 : ((path_Up.f a0).bind fun bt147 => ((path_Base.f a0).bind fun t149 => ((path_Join.f kj5 bt147.1 t149).bind fun bt150 => (if bt147.2 = true then (if bt150.2 = true then (if bt150.1.toList = a0.toList then (if bt147.1.toList = ([] : List UInt8) then (tallymanlaw7_PathParts.j1 kj5 a0 a1 a2 false) else ((path_Under.f a0 bt147.1).bind fun t152 => (if t152 = true then ((path_Cmp.f kj5 bt147.1 a0).bind fun t153 => (if t153 = (-1) then ((path_Depth.f bt147.1).bind fun t154 => ((path_Depth.f a0).bind fun t155 => (tallymanlaw7_PathParts.j1 kj5 a0 a1 a2 (t154 != (wrap64 (t155 - 1)))))) else (tallymanlaw7_PathParts.j1 kj5 a0 a1 a2 true))) else (tallymanlaw7_PathParts.j1 kj5 a0 a1 a2 true)))) else (tallymanlaw7_PathParts.j1 kj5 a0 a1 a2 true)) else (tallymanlaw7_PathParts.j1 kj5 a0 a1 a2 true)) else (tallymanlaw7_PathParts.j1 kj5 a0 a1 a2 true))))) = some r := by rw [if_neg (show ¬ (false = true) by decide)] at H; exact H
          clear H
          have H := H1
          clear H1
          replace H := Option.bind_eq_some_iff.mp H
          obtain ⟨⟨t147, t148⟩, A150, H⟩ := H
          replace H : ((path_Base.f a0).bind fun t149 => ((path_Join.f kj5 t147 t149).bind fun bt150 => (if t148 = true then (if bt150.2 = true then (if bt150.1.toList = a0.toList then (if t147.toList = ([] : List UInt8) then (tallymanlaw7_PathParts.j1 kj5 a0 a1 a2 false) else ((path_Under.f a0 t147).bind fun t152 => (if t152 = true then ((path_Cmp.f kj5 t147 a0).bind fun t153 => (if t153 = (-1) then ((path_Depth.f t147).bind fun t154 => ((path_Depth.f a0).bind fun t155 => (tallymanlaw7_PathParts.j1 kj5 a0 a1 a2 (t154 != (wrap64 (t155 - 1)))))) else (tallymanlaw7_PathParts.j1 kj5 a0 a1 a2 true))) else (tallymanlaw7_PathParts.j1 kj5 a0 a1 a2 true)))) else (tallymanlaw7_PathParts.j1 kj5 a0 a1 a2 true)) else (tallymanlaw7_PathParts.j1 kj5 a0 a1 a2 true)) else (tallymanlaw7_PathParts.j1 kj5 a0 a1 a2 true)))) = some r := H
          have A15 := Aside0.mk A150
          clear A150
          replace H := Option.bind_eq_some_iff.mp H
          obtain ⟨t149, A160, H⟩ := H
          replace H : ((path_Join.f kj5 t147 t149).bind fun bt150 => (if t148 = true then (if bt150.2 = true then (if bt150.1.toList = a0.toList then (if t147.toList = ([] : List UInt8) then (tallymanlaw7_PathParts.j1 kj5 a0 a1 a2 false) else ((path_Under.f a0 t147).bind fun t152 => (if t152 = true then ((path_Cmp.f kj5 t147 a0).bind fun t153 => (if t153 = (-1) then ((path_Depth.f t147).bind fun t154 => ((path_Depth.f a0).bind fun t155 => (tallymanlaw7_PathParts.j1 kj5 a0 a1 a2 (t154 != (wrap64 (t155 - 1)))))) else (tallymanlaw7_PathParts.j1 kj5 a0 a1 a2 true))) else (tallymanlaw7_PathParts.j1 kj5 a0 a1 a2 true)))) else (tallymanlaw7_PathParts.j1 kj5 a0 a1 a2 true)) else (tallymanlaw7_PathParts.j1 kj5 a0 a1 a2 true)) else (tallymanlaw7_PathParts.j1 kj5 a0 a1 a2 true))) = some r := H
          have A16 := Aside0.mk A160
          clear A160
          replace H := Option.bind_eq_some_iff.mp H
          obtain ⟨⟨t150, t151⟩, A170, H⟩ := H
          replace H : (if t148 = true then (if t151 = true then (if t150.toList = a0.toList then (if t147.toList = ([] : List UInt8) then (tallymanlaw7_PathParts.j1 kj5 a0 a1 a2 false) else ((path_Under.f a0 t147).bind fun t152 => (if t152 = true then ((path_Cmp.f kj5 t147 a0).bind fun t153 => (if t153 = (-1) then ((path_Depth.f t147).bind fun t154 => ((path_Depth.f a0).bind fun t155 => (tallymanlaw7_PathParts.j1 kj5 a0 a1 a2 (t154 != (wrap64 (t155 - 1)))))) else (tallymanlaw7_PathParts.j1 kj5 a0 a1 a2 true))) else (tallymanlaw7_PathParts.j1 kj5 a0 a1 a2 true)))) else (tallymanlaw7_PathParts.j1 kj5 a0 a1 a2 true)) else (tallymanlaw7_PathParts.j1 kj5 a0 a1 a2 true)) else (tallymanlaw7_PathParts.j1 kj5 a0 a1 a2 true)) = some r := H
          have A17 := Aside0.mk A170
          clear A170
          have HC18 := Aside0.mk H
          clear H
          go_upto_region 7 with (first | ((with_reducible refine gate_callee (f := 23) rfl ?_); refine goesL_ (some 31) rfl rfl Tryd.func23 (by kernel_rfl) rfl #[.string a0] rfl (by (try simp only [List.map_toArray, List.map_cons, List.map_nil]); first | done | rfl | (simp only [List.length_drop, List.length_take]; rfl)) ?_; (with_reducible refine (path_Up.calls a0 t147 t148 _ A15.out).mono ?_); rintro e w19 ⟨rfl, hb⟩; refine ⟨_, rfl, ?_⟩; have n0_ := Aside0.mk (below_step (by repeat (first | (with_reducible first | exact HB.out | apply below_alloc | apply pw_below_drewN | apply below_drew1) | exact HB.out)) hb); clear HB; have HB := n0_; clear n0_; (try clear hb); (try clear hb2); (try clear hk); (try clear hi)) | ((with_reducible refine gate_callee (f := 21) rfl ?_); refine goesL_ (some 37) rfl rfl Tryd.func21 (by kernel_rfl) rfl #[.string a0] rfl (by (try simp only [List.map_toArray, List.map_cons, List.map_nil]); first | done | rfl | (simp only [List.length_drop, List.length_take]; rfl)) ?_; (with_reducible refine (path_Base.calls a0 t149 _ A16.out).mono ?_); rintro e w20 ⟨rfl, hb⟩; refine ⟨_, rfl, ?_⟩; have n0_ := Aside0.mk (below_step (by repeat (first | (with_reducible first | exact HB.out | apply below_alloc | apply pw_below_drewN | apply below_drew1) | exact HB.out)) hb); clear HB; have HB := n0_; clear n0_; (try clear hb); (try clear hb2); (try clear hk); (try clear hi)) | ((with_reducible refine gate_callee (f := 18) rfl ?_); refine goesL_ (some 38) rfl rfl Tryd.func18 (by kernel_rfl) rfl #[.string t147, .string t149] rfl (by (try simp only [List.map_toArray, List.map_cons, List.map_nil]); first | done | rfl | (simp only [List.length_drop, List.length_take]; rfl)) ?_; (with_reducible refine (path_Join.calls kj5 t147 t149 t150 t151 _ A17.out).mono ?_); rintro e w21 ⟨rfl, hb⟩; refine ⟨_, rfl, ?_⟩; have n0_ := Aside0.mk (below_step (by repeat (first | (with_reducible first | exact HB.out | apply below_alloc | apply pw_below_drewN | apply below_drew1) | exact HB.out)) hb); clear HB; have HB := n0_; clear n0_; (try clear hb); (try clear hb2); (try clear hk); (try clear hi)))
          (try simp only [Act.put, List.setIfInBounds_toArray, List.set_cons_zero, List.set_cons_succ])
          go_cut [75] (fun v75 wc => ∃ (kq : Nat) (x75_17 : Bool), v75 = .bool x75_17 ∧ Aside0 (tallymanlaw7_PathParts.j1 kq a0 a1 a2 x75_17 = some r) ∧ Aside0 (kq ≤ kj5) ∧ Aside0 (Below w.heap.size w wc))
          case first =>
            have H := HC18.out
            clear HC18
            by_cases c22 : t148 = true
            · subst c22
              have H1 : (if t151 = true then (if t150.toList = a0.toList then (if t147.toList = ([] : List UInt8) then (tallymanlaw7_PathParts.j1 kj5 a0 a1 a2 false) else ((path_Under.f a0 t147).bind fun t152 => (if t152 = true then ((path_Cmp.f kj5 t147 a0).bind fun t153 => (if t153 = (-1) then ((path_Depth.f t147).bind fun t154 => ((path_Depth.f a0).bind fun t155 => (tallymanlaw7_PathParts.j1 kj5 a0 a1 a2 (t154 != (wrap64 (t155 - 1)))))) else (tallymanlaw7_PathParts.j1 kj5 a0 a1 a2 true))) else (tallymanlaw7_PathParts.j1 kj5 a0 a1 a2 true)))) else (tallymanlaw7_PathParts.j1 kj5 a0 a1 a2 true)) else (tallymanlaw7_PathParts.j1 kj5 a0 a1 a2 true)) = some r := by rw [if_pos rfl] at H; exact H
              clear H
              have H := H1
              clear H1
              by_cases c23 : t151 = true
              · subst c23
                have H1 : (if t150.toList = a0.toList then (if t147.toList = ([] : List UInt8) then (tallymanlaw7_PathParts.j1 kj5 a0 a1 a2 false) else ((path_Under.f a0 t147).bind fun t152 => (if t152 = true then ((path_Cmp.f kj5 t147 a0).bind fun t153 => (if t153 = (-1) then ((path_Depth.f t147).bind fun t154 => ((path_Depth.f a0).bind fun t155 => (tallymanlaw7_PathParts.j1 kj5 a0 a1 a2 (t154 != (wrap64 (t155 - 1)))))) else (tallymanlaw7_PathParts.j1 kj5 a0 a1 a2 true))) else (tallymanlaw7_PathParts.j1 kj5 a0 a1 a2 true)))) else (tallymanlaw7_PathParts.j1 kj5 a0 a1 a2 true)) = some r := by rw [if_pos rfl] at H; exact H
                clear H
                have H := H1
                clear H1
                by_cases c24 : t150.toList = a0.toList
                · rw [if_pos c24] at H
                  have c24b0 : (t150.toList == a0.toList) = true := beq_iff_eq.mpr c24
                  have c24b1 : (t150.toList != a0.toList) = false := bne_eq_false_iff_eq.mpr c24
                  clear c24
                  (first | rw [c24b0] | (simp only [i64_w, i32_w]; rw [c24b0]) | skip)
                  by_cases c25 : t147.toList = ([] : List UInt8)
                  · rw [if_pos c25] at H
                    have c25b0 : (t147.toList == ([] : List UInt8)) = true := beq_iff_eq.mpr c25
                    have c25b1 : (t147.toList != ([] : List UInt8)) = false := bne_eq_false_iff_eq.mpr c25
                    have c25b2 : t147.toList.isEmpty = true := by simpa using c25
                    clear c25
                    have H' := Aside0.mk H
                    clear H
                    go_wp2
                    go_meet
                    case rel => exact ⟨_, (false), (by first | rfl | (simp; done) | (simp [*]; done)), H', ⟨by have := HJ5.out; first | omega | exact Nat.le_refl _⟩, ⟨by repeat (first | (with_reducible first | exact HB.out | apply below_alloc | apply pw_below_drewN | apply below_drew1) | exact HB.out)⟩⟩
                  · rw [if_neg c25] at H
                    have c25b0 : (t147.toList == ([] : List UInt8)) = false := beq_eq_false_iff_ne.mpr c25
                    have c25b1 : (t147.toList != ([] : List UInt8)) = true := bne_iff_ne.mpr c25
                    have c25b2 : t147.toList.isEmpty = false := by simpa using c25
                    replace H := Option.bind_eq_some_iff.mp H
                    obtain ⟨t152, A260, H⟩ := H
                    replace H : (if t152 = true then ((path_Cmp.f kj5 t147 a0).bind fun t153 => (if t153 = (-1) then ((path_Depth.f t147).bind fun t154 => ((path_Depth.f a0).bind fun t155 => (tallymanlaw7_PathParts.j1 kj5 a0 a1 a2 (t154 != (wrap64 (t155 - 1)))))) else (tallymanlaw7_PathParts.j1 kj5 a0 a1 a2 true))) else (tallymanlaw7_PathParts.j1 kj5 a0 a1 a2 true)) = some r := H
                    have A26 := Aside0.mk A260
                    clear A260
                    by_cases c27 : t152 = true
                    · subst c27
                      have H1 : ((path_Cmp.f kj5 t147 a0).bind fun t153 => (if t153 = (-1) then ((path_Depth.f t147).bind fun t154 => ((path_Depth.f a0).bind fun t155 => (tallymanlaw7_PathParts.j1 kj5 a0 a1 a2 (t154 != (wrap64 (t155 - 1)))))) else (tallymanlaw7_PathParts.j1 kj5 a0 a1 a2 true))) = some r := by rw [if_pos rfl] at H; exact H
                      clear H
                      have H := H1
                      clear H1
                      replace H := Option.bind_eq_some_iff.mp H
                      obtain ⟨t153, A280, H⟩ := H
                      replace H : (if t153 = (-1) then ((path_Depth.f t147).bind fun t154 => ((path_Depth.f a0).bind fun t155 => (tallymanlaw7_PathParts.j1 kj5 a0 a1 a2 (t154 != (wrap64 (t155 - 1)))))) else (tallymanlaw7_PathParts.j1 kj5 a0 a1 a2 true)) = some r := H
                      have A28 := Aside0.mk A280
                      clear A280
                      by_cases c29 : t153 = (-1)
                      · rw [if_pos c29] at H
                        have c29b0 : (t153 == (-1)) = true := beq_iff_eq.mpr c29
                        have c29b1 : (t153 != (-1)) = false := bne_eq_false_iff_eq.mpr c29
                        clear c29
                        replace H := Option.bind_eq_some_iff.mp H
                        obtain ⟨t154, A300, H⟩ := H
                        replace H : ((path_Depth.f a0).bind fun t155 => (tallymanlaw7_PathParts.j1 kj5 a0 a1 a2 (t154 != (wrap64 (t155 - 1))))) = some r := H
                        have A30 := Aside0.mk A300
                        clear A300
                        replace H := Option.bind_eq_some_iff.mp H
                        obtain ⟨t155, A310, H⟩ := H
                        replace H : (tallymanlaw7_PathParts.j1 kj5 a0 a1 a2 (t154 != (wrap64 (t155 - 1)))) = some r := H
                        have A31 := Aside0.mk A310
                        clear A310
                        have H' := Aside0.mk H
                        clear H
                        go_wp2_with (first | (go_at_call 22; (with_reducible refine (path_Under.calls a0 t147 true _ A26.out).mono ?_); rintro e w32 ⟨rfl, hb⟩; have n0_ := Aside0.mk (below_step (by repeat (first | (with_reducible first | exact HB.out | apply below_alloc | apply pw_below_drewN | apply below_drew1) | exact HB.out)) hb); clear HB; have HB := n0_; clear n0_; (try clear hb); (try clear hb2); (try clear hk); (try clear hi)) | (go_at_call 24; (with_reducible refine (path_Cmp.calls kj5 t147 a0 t153 _ A28.out).mono ?_); rintro e w33 ⟨rfl, hb⟩; have n0_ := Aside0.mk (below_step (by repeat (first | (with_reducible first | exact HB.out | apply below_alloc | apply pw_below_drewN | apply below_drew1) | exact HB.out)) hb); clear HB; have HB := n0_; clear n0_; (try clear hb); (try clear hb2); (try clear hk); (try clear hi)) | (go_at_call 20; (with_reducible refine (path_Depth.calls t147 t154 _ A30.out).mono ?_); rintro e w34 ⟨rfl, hb⟩; have n0_ := Aside0.mk (below_step (by repeat (first | (with_reducible first | exact HB.out | apply below_alloc | apply pw_below_drewN | apply below_drew1) | exact HB.out)) hb); clear HB; have HB := n0_; clear n0_; (try clear hb); (try clear hb2); (try clear hk); (try clear hi)) | (go_at_call 20; (with_reducible refine (path_Depth.calls a0 t155 _ A31.out).mono ?_); rintro e w35 ⟨rfl, hb⟩; have n0_ := Aside0.mk (below_step (by repeat (first | (with_reducible first | exact HB.out | apply below_alloc | apply pw_below_drewN | apply below_drew1) | exact HB.out)) hb); clear HB; have HB := n0_; clear n0_; (try clear hb); (try clear hb2); (try clear hk); (try clear hi)))
                        go_meet
                        case rel => exact ⟨_, ((t154 != (wrap64 (t155 - 1)))), (by first | rfl | (simp; done) | (simp [*]; done)), H', ⟨by have := HJ5.out; first | omega | exact Nat.le_refl _⟩, ⟨by repeat (first | (with_reducible first | exact HB.out | apply below_alloc | apply pw_below_drewN | apply below_drew1) | exact HB.out)⟩⟩
                      · rw [if_neg c29] at H
                        have c29b0 : (t153 == (-1)) = false := beq_eq_false_iff_ne.mpr c29
                        have c29b1 : (t153 != (-1)) = true := bne_iff_ne.mpr c29
                        have H' := Aside0.mk H
                        clear H
                        go_wp2_with (first | (go_at_call 22; (with_reducible refine (path_Under.calls a0 t147 true _ A26.out).mono ?_); rintro e w36 ⟨rfl, hb⟩; have n0_ := Aside0.mk (below_step (by repeat (first | (with_reducible first | exact HB.out | apply below_alloc | apply pw_below_drewN | apply below_drew1) | exact HB.out)) hb); clear HB; have HB := n0_; clear n0_; (try clear hb); (try clear hb2); (try clear hk); (try clear hi)) | (go_at_call 24; (with_reducible refine (path_Cmp.calls kj5 t147 a0 t153 _ A28.out).mono ?_); rintro e w37 ⟨rfl, hb⟩; have n0_ := Aside0.mk (below_step (by repeat (first | (with_reducible first | exact HB.out | apply below_alloc | apply pw_below_drewN | apply below_drew1) | exact HB.out)) hb); clear HB; have HB := n0_; clear n0_; (try clear hb); (try clear hb2); (try clear hk); (try clear hi)))
                        go_meet
                        case rel => exact ⟨_, (true), (by first | rfl | (simp; done) | (simp [*]; done)), H', ⟨by have := HJ5.out; first | omega | exact Nat.le_refl _⟩, ⟨by repeat (first | (with_reducible first | exact HB.out | apply below_alloc | apply pw_below_drewN | apply below_drew1) | exact HB.out)⟩⟩
                    · replace c27 := Bool.eq_false_iff.mpr c27
                      subst c27
                      have H1 : (tallymanlaw7_PathParts.j1 kj5 a0 a1 a2 true) = some r := by rw [if_neg (show ¬ (false = true) by decide)] at H; exact H
                      clear H
                      have H := H1
                      clear H1
                      have H' := Aside0.mk H
                      clear H
                      go_wp2_with (first | (go_at_call 22; (with_reducible refine (path_Under.calls a0 t147 false _ A26.out).mono ?_); rintro e w38 ⟨rfl, hb⟩; have n0_ := Aside0.mk (below_step (by repeat (first | (with_reducible first | exact HB.out | apply below_alloc | apply pw_below_drewN | apply below_drew1) | exact HB.out)) hb); clear HB; have HB := n0_; clear n0_; (try clear hb); (try clear hb2); (try clear hk); (try clear hi)))
                      go_meet
                      case rel => exact ⟨_, (true), (by first | rfl | (simp; done) | (simp [*]; done)), H', ⟨by have := HJ5.out; first | omega | exact Nat.le_refl _⟩, ⟨by repeat (first | (with_reducible first | exact HB.out | apply below_alloc | apply pw_below_drewN | apply below_drew1) | exact HB.out)⟩⟩
                · rw [if_neg c24] at H
                  have c24b0 : (t150.toList == a0.toList) = false := beq_eq_false_iff_ne.mpr c24
                  have c24b1 : (t150.toList != a0.toList) = true := bne_iff_ne.mpr c24
                  (first | rw [c24b0] | (simp only [i64_w, i32_w]; rw [c24b0]) | skip)
                  have H' := Aside0.mk H
                  clear H
                  go_wp2
                  go_meet
                  case rel => exact ⟨_, (true), (by first | rfl | (simp; done) | (simp [*]; done)), H', ⟨by have := HJ5.out; first | omega | exact Nat.le_refl _⟩, ⟨by repeat (first | (with_reducible first | exact HB.out | apply below_alloc | apply pw_below_drewN | apply below_drew1) | exact HB.out)⟩⟩
              · replace c23 := Bool.eq_false_iff.mpr c23
                subst c23
                have H1 : (tallymanlaw7_PathParts.j1 kj5 a0 a1 a2 true) = some r := by rw [if_neg (show ¬ (false = true) by decide)] at H; exact H
                clear H
                have H := H1
                clear H1
                have H' := Aside0.mk H
                clear H
                go_wp2
                go_meet
                case rel => exact ⟨_, (true), (by first | rfl | (simp; done) | (simp [*]; done)), H', ⟨by have := HJ5.out; first | omega | exact Nat.le_refl _⟩, ⟨by repeat (first | (with_reducible first | exact HB.out | apply below_alloc | apply pw_below_drewN | apply below_drew1) | exact HB.out)⟩⟩
            · replace c22 := Bool.eq_false_iff.mpr c22
              subst c22
              have H1 : (tallymanlaw7_PathParts.j1 kj5 a0 a1 a2 true) = some r := by rw [if_neg (show ¬ (false = true) by decide)] at H; exact H
              clear H
              have H := H1
              clear H1
              have H' := Aside0.mk H
              clear H
              go_wp2
              go_meet
              case rel => exact ⟨_, (true), (by first | rfl | (simp; done) | (simp [*]; done)), H', ⟨by have := HJ5.out; first | omega | exact Nat.le_refl _⟩, ⟨by repeat (first | (with_reducible first | exact HB.out | apply below_alloc | apply pw_below_drewN | apply below_drew1) | exact HB.out)⟩⟩
          case rest =>
            clear HC18
            try clear c1
            try clear c2
            try clear p2
            try clear c4
            try clear c5
            try clear p6
            try clear c9
            try clear c10
            try clear c10b0
            try clear c10b1
            try clear c14
            try clear c17
            try clear c18
            try clear c19
            try clear c21
            try clear c22
            try clear c23
            try clear c24
            try clear c24b0
            try clear c24b1
            try clear c25
            try clear c25b0
            try clear c25b1
            try clear c27
            try clear c29
            try clear c29b0
            try clear c29b1
            try clear p2
            obtain ⟨kq, x75_17, rfl, HA, HJ17, HB⟩ := hcut
            cases kq with
            | zero => exact absurd HA.out (by simp [tallymanlaw7_PathParts.j1])
            | succ kj17 =>
              have H := HA.out
              clear HA
              simp only [tallymanlaw7_PathParts.j1] at H
              by_cases c39 : x75_17 = true
              · subst c39
                have H1 : (some false) = some r := by rw [if_pos rfl] at H; exact H
                clear H
                have H := H1
                clear H1
                exact absurd ((Option.some.inj H).trans HT_.out) (by decide)
              · replace c39 := Bool.eq_false_iff.mpr c39
                subst c39
                have H1 : ((path_Cmp.f kj17 a0 a1).bind fun t156 => ((path_Cmp.f kj17 a1 a2).bind fun t157 => ((path_Cmp.f kj17 a0 a2).bind fun t158 => ((path_Cmp.f kj17 a1 a0).bind fun t159 => (if t159 = (wrap64 (-t156)) then (if ((t156 == 0) == (a0.toList == a1.toList)) = true then (if t156 > 0 then ((path_Under.f a1 a0).bind fun t160 => (if t160 = true then ((path_Under.f a2 a1).bind fun t161 => (if t161 = true then ((path_Under.f a2 a0).bind fun t162 => (some t162)) else (some true))) else (some true))) else (if t157 > 0 then ((path_Under.f a1 a0).bind fun t163 => (if t163 = true then ((path_Under.f a2 a1).bind fun t164 => (if t164 = true then ((path_Under.f a2 a0).bind fun t165 => (some t165)) else (some true))) else (some true))) else (if t158 ≤ 0 then ((path_Under.f a1 a0).bind fun t166 => (if t166 = true then ((path_Under.f a2 a1).bind fun t167 => (if t167 = true then ((path_Under.f a2 a0).bind fun t168 => (some t168)) else (some true))) else (some true))) else (some false)))) else (some false)) else (some false)))))) = some r := by rw [if_neg (show ¬ (false = true) by decide)] at H; exact H
                clear H
                have H := H1
                clear H1
                replace H := Option.bind_eq_some_iff.mp H
                obtain ⟨t156, A400, H⟩ := H
                replace H : ((path_Cmp.f kj17 a1 a2).bind fun t157 => ((path_Cmp.f kj17 a0 a2).bind fun t158 => ((path_Cmp.f kj17 a1 a0).bind fun t159 => (if t159 = (wrap64 (-t156)) then (if ((t156 == 0) == (a0.toList == a1.toList)) = true then (if t156 > 0 then ((path_Under.f a1 a0).bind fun t160 => (if t160 = true then ((path_Under.f a2 a1).bind fun t161 => (if t161 = true then ((path_Under.f a2 a0).bind fun t162 => (some t162)) else (some true))) else (some true))) else (if t157 > 0 then ((path_Under.f a1 a0).bind fun t163 => (if t163 = true then ((path_Under.f a2 a1).bind fun t164 => (if t164 = true then ((path_Under.f a2 a0).bind fun t165 => (some t165)) else (some true))) else (some true))) else (if t158 ≤ 0 then ((path_Under.f a1 a0).bind fun t166 => (if t166 = true then ((path_Under.f a2 a1).bind fun t167 => (if t167 = true then ((path_Under.f a2 a0).bind fun t168 => (some t168)) else (some true))) else (some true))) else (some false)))) else (some false)) else (some false))))) = some r := H
                have A40 := Aside0.mk A400
                clear A400
                replace H := Option.bind_eq_some_iff.mp H
                obtain ⟨t157, A410, H⟩ := H
                replace H : ((path_Cmp.f kj17 a0 a2).bind fun t158 => ((path_Cmp.f kj17 a1 a0).bind fun t159 => (if t159 = (wrap64 (-t156)) then (if ((t156 == 0) == (a0.toList == a1.toList)) = true then (if t156 > 0 then ((path_Under.f a1 a0).bind fun t160 => (if t160 = true then ((path_Under.f a2 a1).bind fun t161 => (if t161 = true then ((path_Under.f a2 a0).bind fun t162 => (some t162)) else (some true))) else (some true))) else (if t157 > 0 then ((path_Under.f a1 a0).bind fun t163 => (if t163 = true then ((path_Under.f a2 a1).bind fun t164 => (if t164 = true then ((path_Under.f a2 a0).bind fun t165 => (some t165)) else (some true))) else (some true))) else (if t158 ≤ 0 then ((path_Under.f a1 a0).bind fun t166 => (if t166 = true then ((path_Under.f a2 a1).bind fun t167 => (if t167 = true then ((path_Under.f a2 a0).bind fun t168 => (some t168)) else (some true))) else (some true))) else (some false)))) else (some false)) else (some false)))) = some r := H
                have A41 := Aside0.mk A410
                clear A410
                replace H := Option.bind_eq_some_iff.mp H
                obtain ⟨t158, A420, H⟩ := H
                replace H : ((path_Cmp.f kj17 a1 a0).bind fun t159 => (if t159 = (wrap64 (-t156)) then (if ((t156 == 0) == (a0.toList == a1.toList)) = true then (if t156 > 0 then ((path_Under.f a1 a0).bind fun t160 => (if t160 = true then ((path_Under.f a2 a1).bind fun t161 => (if t161 = true then ((path_Under.f a2 a0).bind fun t162 => (some t162)) else (some true))) else (some true))) else (if t157 > 0 then ((path_Under.f a1 a0).bind fun t163 => (if t163 = true then ((path_Under.f a2 a1).bind fun t164 => (if t164 = true then ((path_Under.f a2 a0).bind fun t165 => (some t165)) else (some true))) else (some true))) else (if t158 ≤ 0 then ((path_Under.f a1 a0).bind fun t166 => (if t166 = true then ((path_Under.f a2 a1).bind fun t167 => (if t167 = true then ((path_Under.f a2 a0).bind fun t168 => (some t168)) else (some true))) else (some true))) else (some false)))) else (some false)) else (some false))) = some r := H
                have A42 := Aside0.mk A420
                clear A420
                replace H := Option.bind_eq_some_iff.mp H
                obtain ⟨t159, A430, H⟩ := H
                replace H : (if t159 = (wrap64 (-t156)) then (if ((t156 == 0) == (a0.toList == a1.toList)) = true then (if t156 > 0 then ((path_Under.f a1 a0).bind fun t160 => (if t160 = true then ((path_Under.f a2 a1).bind fun t161 => (if t161 = true then ((path_Under.f a2 a0).bind fun t162 => (some t162)) else (some true))) else (some true))) else (if t157 > 0 then ((path_Under.f a1 a0).bind fun t163 => (if t163 = true then ((path_Under.f a2 a1).bind fun t164 => (if t164 = true then ((path_Under.f a2 a0).bind fun t165 => (some t165)) else (some true))) else (some true))) else (if t158 ≤ 0 then ((path_Under.f a1 a0).bind fun t166 => (if t166 = true then ((path_Under.f a2 a1).bind fun t167 => (if t167 = true then ((path_Under.f a2 a0).bind fun t168 => (some t168)) else (some true))) else (some true))) else (some false)))) else (some false)) else (some false)) = some r := H
                have A43 := Aside0.mk A430
                clear A430
                by_cases c44 : t159 = (wrap64 (-t156))
                · rw [if_pos c44] at H
                  have c44b0 : (t159 == (wrap64 (-t156))) = true := beq_iff_eq.mpr c44
                  have c44b1 : (t159 != (wrap64 (-t156))) = false := bne_eq_false_iff_eq.mpr c44
                  clear c44
                  by_cases c45 : ((t156 == 0) == (a0.toList == a1.toList)) = true
                  · rw [if_pos c45] at H
                    have c45b0 : ((t156 == 0) == (a0.toList == a1.toList)) = true := c45
                    (try (have c45b1 : decide ((t156 == 0) = (a0.toList == a1.toList)) = true := by simpa using c45))
                    (try (have c45b2 : ((t156 == 0) == (a0.toList == a1.toList)) = true := by simpa using c45))
                    clear c45
                    by_cases c46 : t156 > 0
                    · rw [if_pos c46] at H
                      have c46b0 : decide (0 < t156) = true := decide_eq_true c46
                      clear c46
                      replace H := Option.bind_eq_some_iff.mp H
                      obtain ⟨t160, A470, H⟩ := H
                      replace H : (if t160 = true then ((path_Under.f a2 a1).bind fun t161 => (if t161 = true then ((path_Under.f a2 a0).bind fun t162 => (some t162)) else (some true))) else (some true)) = some r := H
                      have A47 := Aside0.mk A470
                      clear A470
                      by_cases c48 : t160 = true
                      · subst c48
                        have H1 : ((path_Under.f a2 a1).bind fun t161 => (if t161 = true then ((path_Under.f a2 a0).bind fun t162 => (some t162)) else (some true))) = some r := by rw [if_pos rfl] at H; exact H
                        clear H
                        have H := H1
                        clear H1
                        replace H := Option.bind_eq_some_iff.mp H
                        obtain ⟨t161, A490, H⟩ := H
                        replace H : (if t161 = true then ((path_Under.f a2 a0).bind fun t162 => (some t162)) else (some true)) = some r := H
                        have A49 := Aside0.mk A490
                        clear A490
                        by_cases c50 : t161 = true
                        · subst c50
                          have H1 : ((path_Under.f a2 a0).bind fun t162 => (some t162)) = some r := by rw [if_pos rfl] at H; exact H
                          clear H
                          have H := H1
                          clear H1
                          replace H := Option.bind_eq_some_iff.mp H
                          obtain ⟨t162, A510, H⟩ := H
                          replace H : (some t162) = some r := H
                          have A51 := Aside0.mk A510
                          clear A510
                          obtain rfl := Option.some.inj H
                          go_wp2_with (first | ((with_reducible refine gate_callee (f := 24) rfl ?_); refine goesL_ (some 78) rfl rfl Tryd.func24 (by kernel_rfl) rfl #[.string a0, .string a1] rfl (by (try simp only [List.map_toArray, List.map_cons, List.map_nil]); first | done | rfl | (simp only [List.length_drop, List.length_take]; rfl)) ?_; (with_reducible refine (path_Cmp.calls kj17 a0 a1 t156 _ A40.out).mono ?_); rintro e w52 ⟨rfl, hb⟩; refine ⟨_, rfl, ?_⟩; have n0_ := Aside0.mk (below_step (by repeat (first | (with_reducible first | exact HB.out | apply below_alloc | apply pw_below_drewN | apply below_drew1) | exact HB.out)) hb); clear HB; have HB := n0_; clear n0_; (try clear hb); (try clear hb2); (try clear hk); (try clear hi)) | ((with_reducible refine gate_callee (f := 24) rfl ?_); refine goesL_ (some 81) rfl rfl Tryd.func24 (by kernel_rfl) rfl #[.string a1, .string a2] rfl (by (try simp only [List.map_toArray, List.map_cons, List.map_nil]); first | done | rfl | (simp only [List.length_drop, List.length_take]; rfl)) ?_; (with_reducible refine (path_Cmp.calls kj17 a1 a2 t157 _ A41.out).mono ?_); rintro e w53 ⟨rfl, hb⟩; refine ⟨_, rfl, ?_⟩; have n0_ := Aside0.mk (below_step (by repeat (first | (with_reducible first | exact HB.out | apply below_alloc | apply pw_below_drewN | apply below_drew1) | exact HB.out)) hb); clear HB; have HB := n0_; clear n0_; (try clear hb); (try clear hb2); (try clear hk); (try clear hi)) | ((with_reducible refine gate_callee (f := 24) rfl ?_); refine goesL_ (some 84) rfl rfl Tryd.func24 (by kernel_rfl) rfl #[.string a0, .string a2] rfl (by (try simp only [List.map_toArray, List.map_cons, List.map_nil]); first | done | rfl | (simp only [List.length_drop, List.length_take]; rfl)) ?_; (with_reducible refine (path_Cmp.calls kj17 a0 a2 t158 _ A42.out).mono ?_); rintro e w54 ⟨rfl, hb⟩; refine ⟨_, rfl, ?_⟩; have n0_ := Aside0.mk (below_step (by repeat (first | (with_reducible first | exact HB.out | apply below_alloc | apply pw_below_drewN | apply below_drew1) | exact HB.out)) hb); clear HB; have HB := n0_; clear n0_; (try clear hb); (try clear hb2); (try clear hk); (try clear hi)) | ((with_reducible refine gate_callee (f := 24) rfl ?_); refine goesL_ (some 87) rfl rfl Tryd.func24 (by kernel_rfl) rfl #[.string a1, .string a0] rfl (by (try simp only [List.map_toArray, List.map_cons, List.map_nil]); first | done | rfl | (simp only [List.length_drop, List.length_take]; rfl)) ?_; (with_reducible refine (path_Cmp.calls kj17 a1 a0 t159 _ A43.out).mono ?_); rintro e w55 ⟨rfl, hb⟩; refine ⟨_, rfl, ?_⟩; have n0_ := Aside0.mk (below_step (by repeat (first | (with_reducible first | exact HB.out | apply below_alloc | apply pw_below_drewN | apply below_drew1) | exact HB.out)) hb); clear HB; have HB := n0_; clear n0_; (try clear hb); (try clear hb2); (try clear hk); (try clear hi)) | (go_at_call 22; (with_reducible refine (path_Under.calls a1 a0 true _ A47.out).mono ?_); rintro e w56 ⟨rfl, hb⟩; have n0_ := Aside0.mk (below_step (by repeat (first | (with_reducible first | exact HB.out | apply below_alloc | apply pw_below_drewN | apply below_drew1) | exact HB.out)) hb); clear HB; have HB := n0_; clear n0_; (try clear hb); (try clear hb2); (try clear hk); (try clear hi)) | (go_at_call 22; (with_reducible refine (path_Under.calls a2 a1 true _ A49.out).mono ?_); rintro e w57 ⟨rfl, hb⟩; have n0_ := Aside0.mk (below_step (by repeat (first | (with_reducible first | exact HB.out | apply below_alloc | apply pw_below_drewN | apply below_drew1) | exact HB.out)) hb); clear HB; have HB := n0_; clear n0_; (try clear hb); (try clear hb2); (try clear hk); (try clear hi)) | (go_at_call 22; (with_reducible refine (path_Under.calls a2 a0 t162 _ A51.out).mono ?_); rintro e w58 ⟨rfl, hb⟩; have n0_ := Aside0.mk (below_step (by repeat (first | (with_reducible first | exact HB.out | apply below_alloc | apply pw_below_drewN | apply below_drew1) | exact HB.out)) hb); clear HB; have HB := n0_; clear n0_; (try clear hb); (try clear hb2); (try clear hk); (try clear hi)))
                          go_ret
                          exact ⟨by first | rfl | (simp [errW_none, errW_some] <;> rfl) | (simp [*, errW_none, errW_some] <;> rfl), by repeat (first | (with_reducible first | exact HB.out | apply below_alloc | apply pw_below_drewN | apply below_drew1) | exact HB.out)⟩
                        · replace c50 := Bool.eq_false_iff.mpr c50
                          subst c50
                          have H1 : (some true) = some r := by rw [if_neg (show ¬ (false = true) by decide)] at H; exact H
                          clear H
                          have H := H1
                          clear H1
                          obtain rfl := Option.some.inj H
                          go_wp2_with (first | ((with_reducible refine gate_callee (f := 24) rfl ?_); refine goesL_ (some 78) rfl rfl Tryd.func24 (by kernel_rfl) rfl #[.string a0, .string a1] rfl (by (try simp only [List.map_toArray, List.map_cons, List.map_nil]); first | done | rfl | (simp only [List.length_drop, List.length_take]; rfl)) ?_; (with_reducible refine (path_Cmp.calls kj17 a0 a1 t156 _ A40.out).mono ?_); rintro e w59 ⟨rfl, hb⟩; refine ⟨_, rfl, ?_⟩; have n0_ := Aside0.mk (below_step (by repeat (first | (with_reducible first | exact HB.out | apply below_alloc | apply pw_below_drewN | apply below_drew1) | exact HB.out)) hb); clear HB; have HB := n0_; clear n0_; (try clear hb); (try clear hb2); (try clear hk); (try clear hi)) | ((with_reducible refine gate_callee (f := 24) rfl ?_); refine goesL_ (some 81) rfl rfl Tryd.func24 (by kernel_rfl) rfl #[.string a1, .string a2] rfl (by (try simp only [List.map_toArray, List.map_cons, List.map_nil]); first | done | rfl | (simp only [List.length_drop, List.length_take]; rfl)) ?_; (with_reducible refine (path_Cmp.calls kj17 a1 a2 t157 _ A41.out).mono ?_); rintro e w60 ⟨rfl, hb⟩; refine ⟨_, rfl, ?_⟩; have n0_ := Aside0.mk (below_step (by repeat (first | (with_reducible first | exact HB.out | apply below_alloc | apply pw_below_drewN | apply below_drew1) | exact HB.out)) hb); clear HB; have HB := n0_; clear n0_; (try clear hb); (try clear hb2); (try clear hk); (try clear hi)) | ((with_reducible refine gate_callee (f := 24) rfl ?_); refine goesL_ (some 84) rfl rfl Tryd.func24 (by kernel_rfl) rfl #[.string a0, .string a2] rfl (by (try simp only [List.map_toArray, List.map_cons, List.map_nil]); first | done | rfl | (simp only [List.length_drop, List.length_take]; rfl)) ?_; (with_reducible refine (path_Cmp.calls kj17 a0 a2 t158 _ A42.out).mono ?_); rintro e w61 ⟨rfl, hb⟩; refine ⟨_, rfl, ?_⟩; have n0_ := Aside0.mk (below_step (by repeat (first | (with_reducible first | exact HB.out | apply below_alloc | apply pw_below_drewN | apply below_drew1) | exact HB.out)) hb); clear HB; have HB := n0_; clear n0_; (try clear hb); (try clear hb2); (try clear hk); (try clear hi)) | ((with_reducible refine gate_callee (f := 24) rfl ?_); refine goesL_ (some 87) rfl rfl Tryd.func24 (by kernel_rfl) rfl #[.string a1, .string a0] rfl (by (try simp only [List.map_toArray, List.map_cons, List.map_nil]); first | done | rfl | (simp only [List.length_drop, List.length_take]; rfl)) ?_; (with_reducible refine (path_Cmp.calls kj17 a1 a0 t159 _ A43.out).mono ?_); rintro e w62 ⟨rfl, hb⟩; refine ⟨_, rfl, ?_⟩; have n0_ := Aside0.mk (below_step (by repeat (first | (with_reducible first | exact HB.out | apply below_alloc | apply pw_below_drewN | apply below_drew1) | exact HB.out)) hb); clear HB; have HB := n0_; clear n0_; (try clear hb); (try clear hb2); (try clear hk); (try clear hi)) | (go_at_call 22; (with_reducible refine (path_Under.calls a1 a0 true _ A47.out).mono ?_); rintro e w63 ⟨rfl, hb⟩; have n0_ := Aside0.mk (below_step (by repeat (first | (with_reducible first | exact HB.out | apply below_alloc | apply pw_below_drewN | apply below_drew1) | exact HB.out)) hb); clear HB; have HB := n0_; clear n0_; (try clear hb); (try clear hb2); (try clear hk); (try clear hi)) | (go_at_call 22; (with_reducible refine (path_Under.calls a2 a1 false _ A49.out).mono ?_); rintro e w64 ⟨rfl, hb⟩; have n0_ := Aside0.mk (below_step (by repeat (first | (with_reducible first | exact HB.out | apply below_alloc | apply pw_below_drewN | apply below_drew1) | exact HB.out)) hb); clear HB; have HB := n0_; clear n0_; (try clear hb); (try clear hb2); (try clear hk); (try clear hi)))
                          go_ret
                          exact ⟨by first | rfl | (simp [errW_none, errW_some] <;> rfl) | (simp [*, errW_none, errW_some] <;> rfl), by repeat (first | (with_reducible first | exact HB.out | apply below_alloc | apply pw_below_drewN | apply below_drew1) | exact HB.out)⟩
                      · replace c48 := Bool.eq_false_iff.mpr c48
                        subst c48
                        have H1 : (some true) = some r := by rw [if_neg (show ¬ (false = true) by decide)] at H; exact H
                        clear H
                        have H := H1
                        clear H1
                        obtain rfl := Option.some.inj H
                        go_wp2_with (first | ((with_reducible refine gate_callee (f := 24) rfl ?_); refine goesL_ (some 78) rfl rfl Tryd.func24 (by kernel_rfl) rfl #[.string a0, .string a1] rfl (by (try simp only [List.map_toArray, List.map_cons, List.map_nil]); first | done | rfl | (simp only [List.length_drop, List.length_take]; rfl)) ?_; (with_reducible refine (path_Cmp.calls kj17 a0 a1 t156 _ A40.out).mono ?_); rintro e w65 ⟨rfl, hb⟩; refine ⟨_, rfl, ?_⟩; have n0_ := Aside0.mk (below_step (by repeat (first | (with_reducible first | exact HB.out | apply below_alloc | apply pw_below_drewN | apply below_drew1) | exact HB.out)) hb); clear HB; have HB := n0_; clear n0_; (try clear hb); (try clear hb2); (try clear hk); (try clear hi)) | ((with_reducible refine gate_callee (f := 24) rfl ?_); refine goesL_ (some 81) rfl rfl Tryd.func24 (by kernel_rfl) rfl #[.string a1, .string a2] rfl (by (try simp only [List.map_toArray, List.map_cons, List.map_nil]); first | done | rfl | (simp only [List.length_drop, List.length_take]; rfl)) ?_; (with_reducible refine (path_Cmp.calls kj17 a1 a2 t157 _ A41.out).mono ?_); rintro e w66 ⟨rfl, hb⟩; refine ⟨_, rfl, ?_⟩; have n0_ := Aside0.mk (below_step (by repeat (first | (with_reducible first | exact HB.out | apply below_alloc | apply pw_below_drewN | apply below_drew1) | exact HB.out)) hb); clear HB; have HB := n0_; clear n0_; (try clear hb); (try clear hb2); (try clear hk); (try clear hi)) | ((with_reducible refine gate_callee (f := 24) rfl ?_); refine goesL_ (some 84) rfl rfl Tryd.func24 (by kernel_rfl) rfl #[.string a0, .string a2] rfl (by (try simp only [List.map_toArray, List.map_cons, List.map_nil]); first | done | rfl | (simp only [List.length_drop, List.length_take]; rfl)) ?_; (with_reducible refine (path_Cmp.calls kj17 a0 a2 t158 _ A42.out).mono ?_); rintro e w67 ⟨rfl, hb⟩; refine ⟨_, rfl, ?_⟩; have n0_ := Aside0.mk (below_step (by repeat (first | (with_reducible first | exact HB.out | apply below_alloc | apply pw_below_drewN | apply below_drew1) | exact HB.out)) hb); clear HB; have HB := n0_; clear n0_; (try clear hb); (try clear hb2); (try clear hk); (try clear hi)) | ((with_reducible refine gate_callee (f := 24) rfl ?_); refine goesL_ (some 87) rfl rfl Tryd.func24 (by kernel_rfl) rfl #[.string a1, .string a0] rfl (by (try simp only [List.map_toArray, List.map_cons, List.map_nil]); first | done | rfl | (simp only [List.length_drop, List.length_take]; rfl)) ?_; (with_reducible refine (path_Cmp.calls kj17 a1 a0 t159 _ A43.out).mono ?_); rintro e w68 ⟨rfl, hb⟩; refine ⟨_, rfl, ?_⟩; have n0_ := Aside0.mk (below_step (by repeat (first | (with_reducible first | exact HB.out | apply below_alloc | apply pw_below_drewN | apply below_drew1) | exact HB.out)) hb); clear HB; have HB := n0_; clear n0_; (try clear hb); (try clear hb2); (try clear hk); (try clear hi)) | (go_at_call 22; (with_reducible refine (path_Under.calls a1 a0 false _ A47.out).mono ?_); rintro e w69 ⟨rfl, hb⟩; have n0_ := Aside0.mk (below_step (by repeat (first | (with_reducible first | exact HB.out | apply below_alloc | apply pw_below_drewN | apply below_drew1) | exact HB.out)) hb); clear HB; have HB := n0_; clear n0_; (try clear hb); (try clear hb2); (try clear hk); (try clear hi)))
                        go_ret
                        exact ⟨by first | rfl | (simp [errW_none, errW_some] <;> rfl) | (simp [*, errW_none, errW_some] <;> rfl), by repeat (first | (with_reducible first | exact HB.out | apply below_alloc | apply pw_below_drewN | apply below_drew1) | exact HB.out)⟩
                    · rw [if_neg c46] at H
                      have c46b0 : decide (0 < t156) = false := decide_eq_false c46
                      clear c46
                      by_cases c70 : t157 > 0
                      · rw [if_pos c70] at H
                        have c70b0 : decide (0 < t157) = true := decide_eq_true c70
                        clear c70
                        replace H := Option.bind_eq_some_iff.mp H
                        obtain ⟨t163, A710, H⟩ := H
                        replace H : (if t163 = true then ((path_Under.f a2 a1).bind fun t164 => (if t164 = true then ((path_Under.f a2 a0).bind fun t165 => (some t165)) else (some true))) else (some true)) = some r := H
                        have A71 := Aside0.mk A710
                        clear A710
                        by_cases c72 : t163 = true
                        · subst c72
                          have H1 : ((path_Under.f a2 a1).bind fun t164 => (if t164 = true then ((path_Under.f a2 a0).bind fun t165 => (some t165)) else (some true))) = some r := by rw [if_pos rfl] at H; exact H
                          clear H
                          have H := H1
                          clear H1
                          replace H := Option.bind_eq_some_iff.mp H
                          obtain ⟨t164, A730, H⟩ := H
                          replace H : (if t164 = true then ((path_Under.f a2 a0).bind fun t165 => (some t165)) else (some true)) = some r := H
                          have A73 := Aside0.mk A730
                          clear A730
                          by_cases c74 : t164 = true
                          · subst c74
                            have H1 : ((path_Under.f a2 a0).bind fun t165 => (some t165)) = some r := by rw [if_pos rfl] at H; exact H
                            clear H
                            have H := H1
                            clear H1
                            replace H := Option.bind_eq_some_iff.mp H
                            obtain ⟨t165, A750, H⟩ := H
                            replace H : (some t165) = some r := H
                            have A75 := Aside0.mk A750
                            clear A750
                            obtain rfl := Option.some.inj H
                            go_wp2_with (first | ((with_reducible refine gate_callee (f := 24) rfl ?_); refine goesL_ (some 78) rfl rfl Tryd.func24 (by kernel_rfl) rfl #[.string a0, .string a1] rfl (by (try simp only [List.map_toArray, List.map_cons, List.map_nil]); first | done | rfl | (simp only [List.length_drop, List.length_take]; rfl)) ?_; (with_reducible refine (path_Cmp.calls kj17 a0 a1 t156 _ A40.out).mono ?_); rintro e w76 ⟨rfl, hb⟩; refine ⟨_, rfl, ?_⟩; have n0_ := Aside0.mk (below_step (by repeat (first | (with_reducible first | exact HB.out | apply below_alloc | apply pw_below_drewN | apply below_drew1) | exact HB.out)) hb); clear HB; have HB := n0_; clear n0_; (try clear hb); (try clear hb2); (try clear hk); (try clear hi)) | ((with_reducible refine gate_callee (f := 24) rfl ?_); refine goesL_ (some 81) rfl rfl Tryd.func24 (by kernel_rfl) rfl #[.string a1, .string a2] rfl (by (try simp only [List.map_toArray, List.map_cons, List.map_nil]); first | done | rfl | (simp only [List.length_drop, List.length_take]; rfl)) ?_; (with_reducible refine (path_Cmp.calls kj17 a1 a2 t157 _ A41.out).mono ?_); rintro e w77 ⟨rfl, hb⟩; refine ⟨_, rfl, ?_⟩; have n0_ := Aside0.mk (below_step (by repeat (first | (with_reducible first | exact HB.out | apply below_alloc | apply pw_below_drewN | apply below_drew1) | exact HB.out)) hb); clear HB; have HB := n0_; clear n0_; (try clear hb); (try clear hb2); (try clear hk); (try clear hi)) | ((with_reducible refine gate_callee (f := 24) rfl ?_); refine goesL_ (some 84) rfl rfl Tryd.func24 (by kernel_rfl) rfl #[.string a0, .string a2] rfl (by (try simp only [List.map_toArray, List.map_cons, List.map_nil]); first | done | rfl | (simp only [List.length_drop, List.length_take]; rfl)) ?_; (with_reducible refine (path_Cmp.calls kj17 a0 a2 t158 _ A42.out).mono ?_); rintro e w78 ⟨rfl, hb⟩; refine ⟨_, rfl, ?_⟩; have n0_ := Aside0.mk (below_step (by repeat (first | (with_reducible first | exact HB.out | apply below_alloc | apply pw_below_drewN | apply below_drew1) | exact HB.out)) hb); clear HB; have HB := n0_; clear n0_; (try clear hb); (try clear hb2); (try clear hk); (try clear hi)) | ((with_reducible refine gate_callee (f := 24) rfl ?_); refine goesL_ (some 87) rfl rfl Tryd.func24 (by kernel_rfl) rfl #[.string a1, .string a0] rfl (by (try simp only [List.map_toArray, List.map_cons, List.map_nil]); first | done | rfl | (simp only [List.length_drop, List.length_take]; rfl)) ?_; (with_reducible refine (path_Cmp.calls kj17 a1 a0 t159 _ A43.out).mono ?_); rintro e w79 ⟨rfl, hb⟩; refine ⟨_, rfl, ?_⟩; have n0_ := Aside0.mk (below_step (by repeat (first | (with_reducible first | exact HB.out | apply below_alloc | apply pw_below_drewN | apply below_drew1) | exact HB.out)) hb); clear HB; have HB := n0_; clear n0_; (try clear hb); (try clear hb2); (try clear hk); (try clear hi)) | (go_at_call 22; (with_reducible refine (path_Under.calls a1 a0 true _ A71.out).mono ?_); rintro e w80 ⟨rfl, hb⟩; have n0_ := Aside0.mk (below_step (by repeat (first | (with_reducible first | exact HB.out | apply below_alloc | apply pw_below_drewN | apply below_drew1) | exact HB.out)) hb); clear HB; have HB := n0_; clear n0_; (try clear hb); (try clear hb2); (try clear hk); (try clear hi)) | (go_at_call 22; (with_reducible refine (path_Under.calls a2 a1 true _ A73.out).mono ?_); rintro e w81 ⟨rfl, hb⟩; have n0_ := Aside0.mk (below_step (by repeat (first | (with_reducible first | exact HB.out | apply below_alloc | apply pw_below_drewN | apply below_drew1) | exact HB.out)) hb); clear HB; have HB := n0_; clear n0_; (try clear hb); (try clear hb2); (try clear hk); (try clear hi)) | (go_at_call 22; (with_reducible refine (path_Under.calls a2 a0 t165 _ A75.out).mono ?_); rintro e w82 ⟨rfl, hb⟩; have n0_ := Aside0.mk (below_step (by repeat (first | (with_reducible first | exact HB.out | apply below_alloc | apply pw_below_drewN | apply below_drew1) | exact HB.out)) hb); clear HB; have HB := n0_; clear n0_; (try clear hb); (try clear hb2); (try clear hk); (try clear hi)))
                            go_ret
                            exact ⟨by first | rfl | (simp [errW_none, errW_some] <;> rfl) | (simp [*, errW_none, errW_some] <;> rfl), by repeat (first | (with_reducible first | exact HB.out | apply below_alloc | apply pw_below_drewN | apply below_drew1) | exact HB.out)⟩
                          · replace c74 := Bool.eq_false_iff.mpr c74
                            subst c74
                            have H1 : (some true) = some r := by rw [if_neg (show ¬ (false = true) by decide)] at H; exact H
                            clear H
                            have H := H1
                            clear H1
                            obtain rfl := Option.some.inj H
                            go_wp2_with (first | ((with_reducible refine gate_callee (f := 24) rfl ?_); refine goesL_ (some 78) rfl rfl Tryd.func24 (by kernel_rfl) rfl #[.string a0, .string a1] rfl (by (try simp only [List.map_toArray, List.map_cons, List.map_nil]); first | done | rfl | (simp only [List.length_drop, List.length_take]; rfl)) ?_; (with_reducible refine (path_Cmp.calls kj17 a0 a1 t156 _ A40.out).mono ?_); rintro e w83 ⟨rfl, hb⟩; refine ⟨_, rfl, ?_⟩; have n0_ := Aside0.mk (below_step (by repeat (first | (with_reducible first | exact HB.out | apply below_alloc | apply pw_below_drewN | apply below_drew1) | exact HB.out)) hb); clear HB; have HB := n0_; clear n0_; (try clear hb); (try clear hb2); (try clear hk); (try clear hi)) | ((with_reducible refine gate_callee (f := 24) rfl ?_); refine goesL_ (some 81) rfl rfl Tryd.func24 (by kernel_rfl) rfl #[.string a1, .string a2] rfl (by (try simp only [List.map_toArray, List.map_cons, List.map_nil]); first | done | rfl | (simp only [List.length_drop, List.length_take]; rfl)) ?_; (with_reducible refine (path_Cmp.calls kj17 a1 a2 t157 _ A41.out).mono ?_); rintro e w84 ⟨rfl, hb⟩; refine ⟨_, rfl, ?_⟩; have n0_ := Aside0.mk (below_step (by repeat (first | (with_reducible first | exact HB.out | apply below_alloc | apply pw_below_drewN | apply below_drew1) | exact HB.out)) hb); clear HB; have HB := n0_; clear n0_; (try clear hb); (try clear hb2); (try clear hk); (try clear hi)) | ((with_reducible refine gate_callee (f := 24) rfl ?_); refine goesL_ (some 84) rfl rfl Tryd.func24 (by kernel_rfl) rfl #[.string a0, .string a2] rfl (by (try simp only [List.map_toArray, List.map_cons, List.map_nil]); first | done | rfl | (simp only [List.length_drop, List.length_take]; rfl)) ?_; (with_reducible refine (path_Cmp.calls kj17 a0 a2 t158 _ A42.out).mono ?_); rintro e w85 ⟨rfl, hb⟩; refine ⟨_, rfl, ?_⟩; have n0_ := Aside0.mk (below_step (by repeat (first | (with_reducible first | exact HB.out | apply below_alloc | apply pw_below_drewN | apply below_drew1) | exact HB.out)) hb); clear HB; have HB := n0_; clear n0_; (try clear hb); (try clear hb2); (try clear hk); (try clear hi)) | ((with_reducible refine gate_callee (f := 24) rfl ?_); refine goesL_ (some 87) rfl rfl Tryd.func24 (by kernel_rfl) rfl #[.string a1, .string a0] rfl (by (try simp only [List.map_toArray, List.map_cons, List.map_nil]); first | done | rfl | (simp only [List.length_drop, List.length_take]; rfl)) ?_; (with_reducible refine (path_Cmp.calls kj17 a1 a0 t159 _ A43.out).mono ?_); rintro e w86 ⟨rfl, hb⟩; refine ⟨_, rfl, ?_⟩; have n0_ := Aside0.mk (below_step (by repeat (first | (with_reducible first | exact HB.out | apply below_alloc | apply pw_below_drewN | apply below_drew1) | exact HB.out)) hb); clear HB; have HB := n0_; clear n0_; (try clear hb); (try clear hb2); (try clear hk); (try clear hi)) | (go_at_call 22; (with_reducible refine (path_Under.calls a1 a0 true _ A71.out).mono ?_); rintro e w87 ⟨rfl, hb⟩; have n0_ := Aside0.mk (below_step (by repeat (first | (with_reducible first | exact HB.out | apply below_alloc | apply pw_below_drewN | apply below_drew1) | exact HB.out)) hb); clear HB; have HB := n0_; clear n0_; (try clear hb); (try clear hb2); (try clear hk); (try clear hi)) | (go_at_call 22; (with_reducible refine (path_Under.calls a2 a1 false _ A73.out).mono ?_); rintro e w88 ⟨rfl, hb⟩; have n0_ := Aside0.mk (below_step (by repeat (first | (with_reducible first | exact HB.out | apply below_alloc | apply pw_below_drewN | apply below_drew1) | exact HB.out)) hb); clear HB; have HB := n0_; clear n0_; (try clear hb); (try clear hb2); (try clear hk); (try clear hi)))
                            go_ret
                            exact ⟨by first | rfl | (simp [errW_none, errW_some] <;> rfl) | (simp [*, errW_none, errW_some] <;> rfl), by repeat (first | (with_reducible first | exact HB.out | apply below_alloc | apply pw_below_drewN | apply below_drew1) | exact HB.out)⟩
                        · replace c72 := Bool.eq_false_iff.mpr c72
                          subst c72
                          have H1 : (some true) = some r := by rw [if_neg (show ¬ (false = true) by decide)] at H; exact H
                          clear H
                          have H := H1
                          clear H1
                          obtain rfl := Option.some.inj H
                          go_wp2_with (first | ((with_reducible refine gate_callee (f := 24) rfl ?_); refine goesL_ (some 78) rfl rfl Tryd.func24 (by kernel_rfl) rfl #[.string a0, .string a1] rfl (by (try simp only [List.map_toArray, List.map_cons, List.map_nil]); first | done | rfl | (simp only [List.length_drop, List.length_take]; rfl)) ?_; (with_reducible refine (path_Cmp.calls kj17 a0 a1 t156 _ A40.out).mono ?_); rintro e w89 ⟨rfl, hb⟩; refine ⟨_, rfl, ?_⟩; have n0_ := Aside0.mk (below_step (by repeat (first | (with_reducible first | exact HB.out | apply below_alloc | apply pw_below_drewN | apply below_drew1) | exact HB.out)) hb); clear HB; have HB := n0_; clear n0_; (try clear hb); (try clear hb2); (try clear hk); (try clear hi)) | ((with_reducible refine gate_callee (f := 24) rfl ?_); refine goesL_ (some 81) rfl rfl Tryd.func24 (by kernel_rfl) rfl #[.string a1, .string a2] rfl (by (try simp only [List.map_toArray, List.map_cons, List.map_nil]); first | done | rfl | (simp only [List.length_drop, List.length_take]; rfl)) ?_; (with_reducible refine (path_Cmp.calls kj17 a1 a2 t157 _ A41.out).mono ?_); rintro e w90 ⟨rfl, hb⟩; refine ⟨_, rfl, ?_⟩; have n0_ := Aside0.mk (below_step (by repeat (first | (with_reducible first | exact HB.out | apply below_alloc | apply pw_below_drewN | apply below_drew1) | exact HB.out)) hb); clear HB; have HB := n0_; clear n0_; (try clear hb); (try clear hb2); (try clear hk); (try clear hi)) | ((with_reducible refine gate_callee (f := 24) rfl ?_); refine goesL_ (some 84) rfl rfl Tryd.func24 (by kernel_rfl) rfl #[.string a0, .string a2] rfl (by (try simp only [List.map_toArray, List.map_cons, List.map_nil]); first | done | rfl | (simp only [List.length_drop, List.length_take]; rfl)) ?_; (with_reducible refine (path_Cmp.calls kj17 a0 a2 t158 _ A42.out).mono ?_); rintro e w91 ⟨rfl, hb⟩; refine ⟨_, rfl, ?_⟩; have n0_ := Aside0.mk (below_step (by repeat (first | (with_reducible first | exact HB.out | apply below_alloc | apply pw_below_drewN | apply below_drew1) | exact HB.out)) hb); clear HB; have HB := n0_; clear n0_; (try clear hb); (try clear hb2); (try clear hk); (try clear hi)) | ((with_reducible refine gate_callee (f := 24) rfl ?_); refine goesL_ (some 87) rfl rfl Tryd.func24 (by kernel_rfl) rfl #[.string a1, .string a0] rfl (by (try simp only [List.map_toArray, List.map_cons, List.map_nil]); first | done | rfl | (simp only [List.length_drop, List.length_take]; rfl)) ?_; (with_reducible refine (path_Cmp.calls kj17 a1 a0 t159 _ A43.out).mono ?_); rintro e w92 ⟨rfl, hb⟩; refine ⟨_, rfl, ?_⟩; have n0_ := Aside0.mk (below_step (by repeat (first | (with_reducible first | exact HB.out | apply below_alloc | apply pw_below_drewN | apply below_drew1) | exact HB.out)) hb); clear HB; have HB := n0_; clear n0_; (try clear hb); (try clear hb2); (try clear hk); (try clear hi)) | (go_at_call 22; (with_reducible refine (path_Under.calls a1 a0 false _ A71.out).mono ?_); rintro e w93 ⟨rfl, hb⟩; have n0_ := Aside0.mk (below_step (by repeat (first | (with_reducible first | exact HB.out | apply below_alloc | apply pw_below_drewN | apply below_drew1) | exact HB.out)) hb); clear HB; have HB := n0_; clear n0_; (try clear hb); (try clear hb2); (try clear hk); (try clear hi)))
                          go_ret
                          exact ⟨by first | rfl | (simp [errW_none, errW_some] <;> rfl) | (simp [*, errW_none, errW_some] <;> rfl), by repeat (first | (with_reducible first | exact HB.out | apply below_alloc | apply pw_below_drewN | apply below_drew1) | exact HB.out)⟩
                      · rw [if_neg c70] at H
                        have c70b0 : decide (0 < t157) = false := decide_eq_false c70
                        clear c70
                        by_cases c94 : t158 ≤ 0
                        · rw [if_pos c94] at H
                          have c94b0 : decide (t158 ≤ 0) = true := decide_eq_true c94
                          clear c94
                          replace H := Option.bind_eq_some_iff.mp H
                          obtain ⟨t166, A950, H⟩ := H
                          replace H : (if t166 = true then ((path_Under.f a2 a1).bind fun t167 => (if t167 = true then ((path_Under.f a2 a0).bind fun t168 => (some t168)) else (some true))) else (some true)) = some r := H
                          have A95 := Aside0.mk A950
                          clear A950
                          by_cases c96 : t166 = true
                          · subst c96
                            have H1 : ((path_Under.f a2 a1).bind fun t167 => (if t167 = true then ((path_Under.f a2 a0).bind fun t168 => (some t168)) else (some true))) = some r := by rw [if_pos rfl] at H; exact H
                            clear H
                            have H := H1
                            clear H1
                            replace H := Option.bind_eq_some_iff.mp H
                            obtain ⟨t167, A970, H⟩ := H
                            replace H : (if t167 = true then ((path_Under.f a2 a0).bind fun t168 => (some t168)) else (some true)) = some r := H
                            have A97 := Aside0.mk A970
                            clear A970
                            by_cases c98 : t167 = true
                            · subst c98
                              have H1 : ((path_Under.f a2 a0).bind fun t168 => (some t168)) = some r := by rw [if_pos rfl] at H; exact H
                              clear H
                              have H := H1
                              clear H1
                              replace H := Option.bind_eq_some_iff.mp H
                              obtain ⟨t168, A990, H⟩ := H
                              replace H : (some t168) = some r := H
                              have A99 := Aside0.mk A990
                              clear A990
                              obtain rfl := Option.some.inj H
                              go_wp2_with (first | ((with_reducible refine gate_callee (f := 24) rfl ?_); refine goesL_ (some 78) rfl rfl Tryd.func24 (by kernel_rfl) rfl #[.string a0, .string a1] rfl (by (try simp only [List.map_toArray, List.map_cons, List.map_nil]); first | done | rfl | (simp only [List.length_drop, List.length_take]; rfl)) ?_; (with_reducible refine (path_Cmp.calls kj17 a0 a1 t156 _ A40.out).mono ?_); rintro e w100 ⟨rfl, hb⟩; refine ⟨_, rfl, ?_⟩; have n0_ := Aside0.mk (below_step (by repeat (first | (with_reducible first | exact HB.out | apply below_alloc | apply pw_below_drewN | apply below_drew1) | exact HB.out)) hb); clear HB; have HB := n0_; clear n0_; (try clear hb); (try clear hb2); (try clear hk); (try clear hi)) | ((with_reducible refine gate_callee (f := 24) rfl ?_); refine goesL_ (some 81) rfl rfl Tryd.func24 (by kernel_rfl) rfl #[.string a1, .string a2] rfl (by (try simp only [List.map_toArray, List.map_cons, List.map_nil]); first | done | rfl | (simp only [List.length_drop, List.length_take]; rfl)) ?_; (with_reducible refine (path_Cmp.calls kj17 a1 a2 t157 _ A41.out).mono ?_); rintro e w101 ⟨rfl, hb⟩; refine ⟨_, rfl, ?_⟩; have n0_ := Aside0.mk (below_step (by repeat (first | (with_reducible first | exact HB.out | apply below_alloc | apply pw_below_drewN | apply below_drew1) | exact HB.out)) hb); clear HB; have HB := n0_; clear n0_; (try clear hb); (try clear hb2); (try clear hk); (try clear hi)) | ((with_reducible refine gate_callee (f := 24) rfl ?_); refine goesL_ (some 84) rfl rfl Tryd.func24 (by kernel_rfl) rfl #[.string a0, .string a2] rfl (by (try simp only [List.map_toArray, List.map_cons, List.map_nil]); first | done | rfl | (simp only [List.length_drop, List.length_take]; rfl)) ?_; (with_reducible refine (path_Cmp.calls kj17 a0 a2 t158 _ A42.out).mono ?_); rintro e w102 ⟨rfl, hb⟩; refine ⟨_, rfl, ?_⟩; have n0_ := Aside0.mk (below_step (by repeat (first | (with_reducible first | exact HB.out | apply below_alloc | apply pw_below_drewN | apply below_drew1) | exact HB.out)) hb); clear HB; have HB := n0_; clear n0_; (try clear hb); (try clear hb2); (try clear hk); (try clear hi)) | ((with_reducible refine gate_callee (f := 24) rfl ?_); refine goesL_ (some 87) rfl rfl Tryd.func24 (by kernel_rfl) rfl #[.string a1, .string a0] rfl (by (try simp only [List.map_toArray, List.map_cons, List.map_nil]); first | done | rfl | (simp only [List.length_drop, List.length_take]; rfl)) ?_; (with_reducible refine (path_Cmp.calls kj17 a1 a0 t159 _ A43.out).mono ?_); rintro e w103 ⟨rfl, hb⟩; refine ⟨_, rfl, ?_⟩; have n0_ := Aside0.mk (below_step (by repeat (first | (with_reducible first | exact HB.out | apply below_alloc | apply pw_below_drewN | apply below_drew1) | exact HB.out)) hb); clear HB; have HB := n0_; clear n0_; (try clear hb); (try clear hb2); (try clear hk); (try clear hi)) | (go_at_call 22; (with_reducible refine (path_Under.calls a1 a0 true _ A95.out).mono ?_); rintro e w104 ⟨rfl, hb⟩; have n0_ := Aside0.mk (below_step (by repeat (first | (with_reducible first | exact HB.out | apply below_alloc | apply pw_below_drewN | apply below_drew1) | exact HB.out)) hb); clear HB; have HB := n0_; clear n0_; (try clear hb); (try clear hb2); (try clear hk); (try clear hi)) | (go_at_call 22; (with_reducible refine (path_Under.calls a2 a1 true _ A97.out).mono ?_); rintro e w105 ⟨rfl, hb⟩; have n0_ := Aside0.mk (below_step (by repeat (first | (with_reducible first | exact HB.out | apply below_alloc | apply pw_below_drewN | apply below_drew1) | exact HB.out)) hb); clear HB; have HB := n0_; clear n0_; (try clear hb); (try clear hb2); (try clear hk); (try clear hi)) | (go_at_call 22; (with_reducible refine (path_Under.calls a2 a0 t168 _ A99.out).mono ?_); rintro e w106 ⟨rfl, hb⟩; have n0_ := Aside0.mk (below_step (by repeat (first | (with_reducible first | exact HB.out | apply below_alloc | apply pw_below_drewN | apply below_drew1) | exact HB.out)) hb); clear HB; have HB := n0_; clear n0_; (try clear hb); (try clear hb2); (try clear hk); (try clear hi)))
                              go_ret
                              exact ⟨by first | rfl | (simp [errW_none, errW_some] <;> rfl) | (simp [*, errW_none, errW_some] <;> rfl), by repeat (first | (with_reducible first | exact HB.out | apply below_alloc | apply pw_below_drewN | apply below_drew1) | exact HB.out)⟩
                            · replace c98 := Bool.eq_false_iff.mpr c98
                              subst c98
                              have H1 : (some true) = some r := by rw [if_neg (show ¬ (false = true) by decide)] at H; exact H
                              clear H
                              have H := H1
                              clear H1
                              obtain rfl := Option.some.inj H
                              go_wp2_with (first | ((with_reducible refine gate_callee (f := 24) rfl ?_); refine goesL_ (some 78) rfl rfl Tryd.func24 (by kernel_rfl) rfl #[.string a0, .string a1] rfl (by (try simp only [List.map_toArray, List.map_cons, List.map_nil]); first | done | rfl | (simp only [List.length_drop, List.length_take]; rfl)) ?_; (with_reducible refine (path_Cmp.calls kj17 a0 a1 t156 _ A40.out).mono ?_); rintro e w107 ⟨rfl, hb⟩; refine ⟨_, rfl, ?_⟩; have n0_ := Aside0.mk (below_step (by repeat (first | (with_reducible first | exact HB.out | apply below_alloc | apply pw_below_drewN | apply below_drew1) | exact HB.out)) hb); clear HB; have HB := n0_; clear n0_; (try clear hb); (try clear hb2); (try clear hk); (try clear hi)) | ((with_reducible refine gate_callee (f := 24) rfl ?_); refine goesL_ (some 81) rfl rfl Tryd.func24 (by kernel_rfl) rfl #[.string a1, .string a2] rfl (by (try simp only [List.map_toArray, List.map_cons, List.map_nil]); first | done | rfl | (simp only [List.length_drop, List.length_take]; rfl)) ?_; (with_reducible refine (path_Cmp.calls kj17 a1 a2 t157 _ A41.out).mono ?_); rintro e w108 ⟨rfl, hb⟩; refine ⟨_, rfl, ?_⟩; have n0_ := Aside0.mk (below_step (by repeat (first | (with_reducible first | exact HB.out | apply below_alloc | apply pw_below_drewN | apply below_drew1) | exact HB.out)) hb); clear HB; have HB := n0_; clear n0_; (try clear hb); (try clear hb2); (try clear hk); (try clear hi)) | ((with_reducible refine gate_callee (f := 24) rfl ?_); refine goesL_ (some 84) rfl rfl Tryd.func24 (by kernel_rfl) rfl #[.string a0, .string a2] rfl (by (try simp only [List.map_toArray, List.map_cons, List.map_nil]); first | done | rfl | (simp only [List.length_drop, List.length_take]; rfl)) ?_; (with_reducible refine (path_Cmp.calls kj17 a0 a2 t158 _ A42.out).mono ?_); rintro e w109 ⟨rfl, hb⟩; refine ⟨_, rfl, ?_⟩; have n0_ := Aside0.mk (below_step (by repeat (first | (with_reducible first | exact HB.out | apply below_alloc | apply pw_below_drewN | apply below_drew1) | exact HB.out)) hb); clear HB; have HB := n0_; clear n0_; (try clear hb); (try clear hb2); (try clear hk); (try clear hi)) | ((with_reducible refine gate_callee (f := 24) rfl ?_); refine goesL_ (some 87) rfl rfl Tryd.func24 (by kernel_rfl) rfl #[.string a1, .string a0] rfl (by (try simp only [List.map_toArray, List.map_cons, List.map_nil]); first | done | rfl | (simp only [List.length_drop, List.length_take]; rfl)) ?_; (with_reducible refine (path_Cmp.calls kj17 a1 a0 t159 _ A43.out).mono ?_); rintro e w110 ⟨rfl, hb⟩; refine ⟨_, rfl, ?_⟩; have n0_ := Aside0.mk (below_step (by repeat (first | (with_reducible first | exact HB.out | apply below_alloc | apply pw_below_drewN | apply below_drew1) | exact HB.out)) hb); clear HB; have HB := n0_; clear n0_; (try clear hb); (try clear hb2); (try clear hk); (try clear hi)) | (go_at_call 22; (with_reducible refine (path_Under.calls a1 a0 true _ A95.out).mono ?_); rintro e w111 ⟨rfl, hb⟩; have n0_ := Aside0.mk (below_step (by repeat (first | (with_reducible first | exact HB.out | apply below_alloc | apply pw_below_drewN | apply below_drew1) | exact HB.out)) hb); clear HB; have HB := n0_; clear n0_; (try clear hb); (try clear hb2); (try clear hk); (try clear hi)) | (go_at_call 22; (with_reducible refine (path_Under.calls a2 a1 false _ A97.out).mono ?_); rintro e w112 ⟨rfl, hb⟩; have n0_ := Aside0.mk (below_step (by repeat (first | (with_reducible first | exact HB.out | apply below_alloc | apply pw_below_drewN | apply below_drew1) | exact HB.out)) hb); clear HB; have HB := n0_; clear n0_; (try clear hb); (try clear hb2); (try clear hk); (try clear hi)))
                              go_ret
                              exact ⟨by first | rfl | (simp [errW_none, errW_some] <;> rfl) | (simp [*, errW_none, errW_some] <;> rfl), by repeat (first | (with_reducible first | exact HB.out | apply below_alloc | apply pw_below_drewN | apply below_drew1) | exact HB.out)⟩
                          · replace c96 := Bool.eq_false_iff.mpr c96
                            subst c96
                            have H1 : (some true) = some r := by rw [if_neg (show ¬ (false = true) by decide)] at H; exact H
                            clear H
                            have H := H1
                            clear H1
                            obtain rfl := Option.some.inj H
                            go_wp2_with (first | ((with_reducible refine gate_callee (f := 24) rfl ?_); refine goesL_ (some 78) rfl rfl Tryd.func24 (by kernel_rfl) rfl #[.string a0, .string a1] rfl (by (try simp only [List.map_toArray, List.map_cons, List.map_nil]); first | done | rfl | (simp only [List.length_drop, List.length_take]; rfl)) ?_; (with_reducible refine (path_Cmp.calls kj17 a0 a1 t156 _ A40.out).mono ?_); rintro e w113 ⟨rfl, hb⟩; refine ⟨_, rfl, ?_⟩; have n0_ := Aside0.mk (below_step (by repeat (first | (with_reducible first | exact HB.out | apply below_alloc | apply pw_below_drewN | apply below_drew1) | exact HB.out)) hb); clear HB; have HB := n0_; clear n0_; (try clear hb); (try clear hb2); (try clear hk); (try clear hi)) | ((with_reducible refine gate_callee (f := 24) rfl ?_); refine goesL_ (some 81) rfl rfl Tryd.func24 (by kernel_rfl) rfl #[.string a1, .string a2] rfl (by (try simp only [List.map_toArray, List.map_cons, List.map_nil]); first | done | rfl | (simp only [List.length_drop, List.length_take]; rfl)) ?_; (with_reducible refine (path_Cmp.calls kj17 a1 a2 t157 _ A41.out).mono ?_); rintro e w114 ⟨rfl, hb⟩; refine ⟨_, rfl, ?_⟩; have n0_ := Aside0.mk (below_step (by repeat (first | (with_reducible first | exact HB.out | apply below_alloc | apply pw_below_drewN | apply below_drew1) | exact HB.out)) hb); clear HB; have HB := n0_; clear n0_; (try clear hb); (try clear hb2); (try clear hk); (try clear hi)) | ((with_reducible refine gate_callee (f := 24) rfl ?_); refine goesL_ (some 84) rfl rfl Tryd.func24 (by kernel_rfl) rfl #[.string a0, .string a2] rfl (by (try simp only [List.map_toArray, List.map_cons, List.map_nil]); first | done | rfl | (simp only [List.length_drop, List.length_take]; rfl)) ?_; (with_reducible refine (path_Cmp.calls kj17 a0 a2 t158 _ A42.out).mono ?_); rintro e w115 ⟨rfl, hb⟩; refine ⟨_, rfl, ?_⟩; have n0_ := Aside0.mk (below_step (by repeat (first | (with_reducible first | exact HB.out | apply below_alloc | apply pw_below_drewN | apply below_drew1) | exact HB.out)) hb); clear HB; have HB := n0_; clear n0_; (try clear hb); (try clear hb2); (try clear hk); (try clear hi)) | ((with_reducible refine gate_callee (f := 24) rfl ?_); refine goesL_ (some 87) rfl rfl Tryd.func24 (by kernel_rfl) rfl #[.string a1, .string a0] rfl (by (try simp only [List.map_toArray, List.map_cons, List.map_nil]); first | done | rfl | (simp only [List.length_drop, List.length_take]; rfl)) ?_; (with_reducible refine (path_Cmp.calls kj17 a1 a0 t159 _ A43.out).mono ?_); rintro e w116 ⟨rfl, hb⟩; refine ⟨_, rfl, ?_⟩; have n0_ := Aside0.mk (below_step (by repeat (first | (with_reducible first | exact HB.out | apply below_alloc | apply pw_below_drewN | apply below_drew1) | exact HB.out)) hb); clear HB; have HB := n0_; clear n0_; (try clear hb); (try clear hb2); (try clear hk); (try clear hi)) | (go_at_call 22; (with_reducible refine (path_Under.calls a1 a0 false _ A95.out).mono ?_); rintro e w117 ⟨rfl, hb⟩; have n0_ := Aside0.mk (below_step (by repeat (first | (with_reducible first | exact HB.out | apply below_alloc | apply pw_below_drewN | apply below_drew1) | exact HB.out)) hb); clear HB; have HB := n0_; clear n0_; (try clear hb); (try clear hb2); (try clear hk); (try clear hi)))
                            go_ret
                            exact ⟨by first | rfl | (simp [errW_none, errW_some] <;> rfl) | (simp [*, errW_none, errW_some] <;> rfl), by repeat (first | (with_reducible first | exact HB.out | apply below_alloc | apply pw_below_drewN | apply below_drew1) | exact HB.out)⟩
                        · rw [if_neg c94] at H
                          have c94b0 : decide (t158 ≤ 0) = false := decide_eq_false c94
                          clear c94
                          exact absurd ((Option.some.inj H).trans HT_.out) (by decide)
                  · rw [if_neg c45] at H
                    have c45b0 : ((t156 == 0) == (a0.toList == a1.toList)) = false := by simpa using c45
                    (try (have c45b1 : decide ((t156 == 0) = (a0.toList == a1.toList)) = false := by simpa using c45))
                    (try (have c45b2 : ((t156 == 0) == (a0.toList == a1.toList)) = false := by simpa using c45))
                    (try (have c45b3 : ¬ ((t156 == 0) = (a0.toList == a1.toList)) := by simpa using c45))
                    clear c45
                    exact absurd ((Option.some.inj H).trans HT_.out) (by decide)
                · rw [if_neg c44] at H
                  have c44b0 : (t159 == (wrap64 (-t156))) = false := beq_eq_false_iff_ne.mpr c44
                  have c44b1 : (t159 != (wrap64 (-t156))) = true := bne_iff_ne.mpr c44
                  exact absurd ((Option.some.inj H).trans HT_.out) (by decide)
  · replace c5 := Bool.eq_false_iff.mpr c5
    subst c5
    have H1 : (some false) = some r := by rw [if_neg (show ¬ (false = true) by decide)] at H; exact H
    clear H
    have H := H1
    clear H1
    exact absurd ((Option.some.inj H).trans HT_.out) (by decide)

/-- THE ONE PURE STATEMENT of tallymanlaw7_PathParts: yours. -/
def tallymanlaw7_PathParts.Pure : Prop := ∀ (a0 : ByteArray) (a1 : ByteArray) (a2 : ByteArray), a0.size ≤ 140737488351232 → a1.size ≤ 140737488351232 → a2.size ≤ 140737488351232 → ∃ k, tallymanlaw7_PathParts.f k a0 a1 a2 = some true
theorem tallymanlaw7_PathParts.walk (P : tallymanlaw7_PathParts.Pure) (a0 : ByteArray) (a1 : ByteArray) (a2 : ByteArray) (w : World) (w0 : a0.size ≤ 140737488351232) (w1 : a1.size ≤ 140737488351232) (w2 : a2.size ≤ 140737488351232) :
    Calls Tryd.prog 4 #[.string a0, .string a1, .string a2] w fun e w' => e = .returned (.bool true) ∧ Below w.heap.size w w' := by
  obtain ⟨k, h⟩ := P a0 a1 a2 w0 w1 w2
  refine (tallymanlaw7_PathParts.calls k a0 a1 a2 true w h rfl).mono ?_
  rintro e w' ⟨rfl, hd⟩
  exact ⟨rfl, hd⟩

end Go.Proofs.YtoedkhoddiefoaaDoor.P
