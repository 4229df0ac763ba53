/- Written by pp.py, a program of this session over the printer of the kit: what the functions of the program compute, and that they do so; of a law: its row, without a condition. -/
import Derived.Test.YtidlldfghkaeeaaDoorPx0
import Derived.Test.YtidlldfghkaeeaaDoorPx1
import Derived.Test.YtidlldfghkaeeaaDoorPx2
import Derived.Test.YtidlldfghkaeeaaDoorPx3
namespace Go.Proofs.YtidlldfghkaeeaaDoor.P
open Go.RowKit Go.Proofs.YtidlldfghkaeeaaDoorW.PrintWords Go.Proofs.YtidlldfghkaeeaaDoorW.PrintLast Go.Proofs.YtidlldfghkaeeaaDoorW.PrintMore
attribute [local go_sem] max2_int min2_int max_two min_two max_three min_three max_four min_four   -- for this text's walks alone
set_option linter.unusedVariables false
set_option linter.unusedSimpArgs false

/-! ### tallymanlaw7_PathSays: function 9 -/
def tallymanlaw7_PathSays.j0 : Nat → ByteArray → ByteArray → List ByteArray → Bool → Option (Bool)
  | 0, _, _, _, _ => none
  | k + 1, x0, x1, x2, x29 => if x29 = true then (some true) else ((path_Up.f x0).bind fun bt146 => ((tallymanref7_Up.f k x0).bind fun bt148 => ((path_Join.f k x0 x1).bind fun bt150 => ((tallymanref7_Join.f k x0 x1).bind fun bt152 => ((path_Good.f x0).bind fun t154 => ((tallymanref7_Good.f x0).bind fun t155 => (if (t154 == t155) = true then (if bt146.1.toList = bt148.1.toList then (if (bt146.2 == bt148.2) = true then (if bt150.1.toList = bt152.1.toList then (if (bt150.2 == bt152.2) = true then ((path_Base.f x0).bind fun t156 => ((tallymanref7_Base.f x0).bind fun t157 => (if t156.toList = t157.toList then ((path_Depth.f x0).bind fun t158 => ((tallymanref7_Depth.f x0).bind fun t159 => (if t158 = t159 then ((path_Under.f x0 x1).bind fun t160 => ((tallymanref7_Under.f x0 x1).bind fun t161 => (if (t160 == t161) = true then ((path_Inside.f x0).bind fun t162 => ((tallymanref7_Inside.f x0).bind fun t163 => (if (t162 == t163) = true then ((path_Cmp.f x0 x1).bind fun t164 => ((tallymanref7_Cmp.f x0 x1).bind fun t165 => (if t164 = t165 then ((path_Sort.f x2).bind fun t166 => ((tallymanref7_Sort.f x2).bind fun t169 => ((tallymanlaw7_texts.f k t166 t169).bind fun t172 => (some t172)))) else (some false)))) else (some false)))) else (some false)))) else (some false)))) else (some false)))) else (some false)) else (some false)) else (some false)) else (some false)) else (some false))))))))
def tallymanlaw7_PathSays.f (k : Nat) (a0 : ByteArray) (a1 : ByteArray) (l2 : List ByteArray) : Option (Bool) := (tallymanlaw7_awake.f).bind fun t145 => (if t145 = true then (if (a0.size : Int) > 200 then (tallymanlaw7_PathSays.j0 k a0 a1 l2 true) else (if (a1.size : Int) > 200 then (tallymanlaw7_PathSays.j0 k a0 a1 l2 true) else (tallymanlaw7_PathSays.j0 k a0 a1 l2 (decide ((l2.length : Int) > 60))))) else (some false))
theorem tallymanlaw7_PathSays.mono_l : ∀ k, (∀ y0 y1 y2 y3, LeO (tallymanlaw7_PathSays.j0 k y0 y1 y2 y3) (tallymanlaw7_PathSays.j0 (k + 1) y0 y1 y2 y3))
  | 0 => fun _ _ _ _ r h => by simp [tallymanlaw7_PathSays.j0] at h
  | k + 1 => by
    have ih0 := tallymanlaw7_PathSays.mono_l k
    · intro y0 y1 y2 y3
      unfold tallymanlaw7_PathSays.j0
      repeat' first
      | (with_reducible exact ih0 _ _ _ _)
      | (with_reducible exact path_Join.mono _ _ _)
      | (with_reducible exact tallymanlaw7_texts.mono _ _ _)
      | (with_reducible exact tallymanref7_Join.mono _ _ _)
      | (with_reducible exact tallymanref7_Up.mono _ _)
      | (with_reducible exact LeO.refl _)
      | (with_reducible exact LeO.none _)
      | (with_reducible refine LeO.ite ?_ ?_)
      | (with_reducible refine LeO.bind ?_ (fun _ => ?_))
      | exact ih0 _ _ _ _
      | exact path_Join.mono _ _ _
      | exact tallymanlaw7_texts.mono _ _ _
      | exact tallymanref7_Join.mono _ _ _
      | exact tallymanref7_Up.mono _ _
      | exact LeO.none _
      | refine LeO.ite ?_ ?_
      | refine LeO.bind ?_ (fun _ => ?_)
theorem tallymanlaw7_PathSays.mono : ∀ a0 a1 a2 k, LeO (tallymanlaw7_PathSays.f k a0 a1 a2) (tallymanlaw7_PathSays.f (k + 1) a0 a1 a2) := by
  intro a0 a1 a2 k
  have ih0 := tallymanlaw7_PathSays.mono_l k
  unfold tallymanlaw7_PathSays.f
  repeat' first
      | (with_reducible exact ih0 _ _ _ _)
      | (with_reducible exact path_Join.mono _ _ _)
      | (with_reducible exact tallymanlaw7_texts.mono _ _ _)
      | (with_reducible exact tallymanref7_Join.mono _ _ _)
      | (with_reducible exact tallymanref7_Up.mono _ _)
      | (with_reducible exact LeO.refl _)
      | (with_reducible exact LeO.none _)
      | (with_reducible refine LeO.ite ?_ ?_)
      | (with_reducible refine LeO.bind ?_ (fun _ => ?_))
      | exact ih0 _ _ _ _
      | exact path_Join.mono _ _ _
      | exact tallymanlaw7_texts.mono _ _ _
      | exact tallymanref7_Join.mono _ _ _
      | exact tallymanref7_Up.mono _ _
      | exact LeO.none _
      | refine LeO.ite ?_ ?_
      | refine LeO.bind ?_ (fun _ => ?_)
set_option maxHeartbeats 8000000 in
set_option maxRecDepth 100000 in
theorem tallymanlaw7_PathSays.calls (k : Nat) (a0 : ByteArray) (a1 : ByteArray) (A2 : Option Addr) (c2 : Nat) (l2 : List ByteArray) (r : Bool) (w : World) (hr2 : Kd.C Kd.string w A2 l2.length l2) (hc2 : l2.length ≤ c2) (h : tallymanlaw7_PathSays.f k a0 a1 l2 = some r) (hr_ : r = true) :
    Calls Tryd.prog 9 #[.string a0, .string a1, .slice A2 l2.length c2] w fun e w' => e = .returned (.bool r) ∧ Below w.heap.size w w' := by
  have HT_ := Aside0.mk hr_
  clear hr_
  have HR2 := Aside0.mk hr2
  have HC2 := Aside0.mk hc2
  clear hr2 hc2
  have HB := Aside0.mk (Below.refl w.heap.size w)
  have H : ((tallymanlaw7_awake.f).bind fun t145 => (if t145 = true then (if (a0.size : Int) > 200 then (tallymanlaw7_PathSays.j0 k a0 a1 l2 true) else (if (a1.size : Int) > 200 then (tallymanlaw7_PathSays.j0 k a0 a1 l2 true) else (tallymanlaw7_PathSays.j0 k a0 a1 l2 (decide ((l2.length : Int) > 60))))) else (some false))) = some r := h
  clear h
  replace H := Option.bind_eq_some_iff.mp H
  obtain ⟨t145, A40, H⟩ := H
  replace H : (if t145 = true then (if (a0.size : Int) > 200 then (tallymanlaw7_PathSays.j0 k a0 a1 l2 true) else (if (a1.size : Int) > 200 then (tallymanlaw7_PathSays.j0 k a0 a1 l2 true) else (tallymanlaw7_PathSays.j0 k a0 a1 l2 (decide ((l2.length : Int) > 60))))) else (some false)) = some r := H
  have A4 := Aside0.mk A40
  clear A40
  by_cases c5 : t145 = true
  · subst c5
    have H1 : (if (a0.size : Int) > 200 then (tallymanlaw7_PathSays.j0 k a0 a1 l2 true) else (if (a1.size : Int) > 200 then (tallymanlaw7_PathSays.j0 k a0 a1 l2 true) else (tallymanlaw7_PathSays.j0 k a0 a1 l2 (decide ((l2.length : Int) > 60))))) = some r := by rw [if_pos rfl] at H; exact H
    clear H
    have H := H1
    clear H1
    have HC6 := Aside0.mk H
    clear H
    go_enter Tryd.func9, Tryd.ntmps9
    (try simp only [List.append_eq, List.cons_append, List.nil_append])
    go_upto_region 3 with (first | ((with_reducible refine gate_callee (f := 36) rfl ?_); refine goesL_ (some 15) rfl rfl Tryd.func36 (by kernel_rfl) rfl #[] rfl (by (try simp only [List.map_toArray, List.map_cons, List.map_nil]); first | done | rfl | (simp only [List.length_drop, List.length_take]; rfl)) ?_; (with_reducible refine (tallymanlaw7_awake.calls  true _ A4.out).mono ?_); rintro e w7 ⟨rfl, hb⟩; refine ⟨_, rfl, ?_⟩; have n0_ := Aside0.mk (below_step (by repeat (first | (with_reducible first | exact HB.out | apply below_alloc | apply pw_below_drewN | apply below_drew1) | exact HB.out)) hb); clear HB; have HB := n0_; clear n0_; (try clear hb); (try clear hb2); (try clear hk); (try clear hi)))
    (try simp only [Act.put, List.setIfInBounds_toArray, List.set_cons_zero, List.set_cons_succ])
    go_cut [29] (fun v29 wc => ∃ (kq : Nat) (x29_5 : Bool), v29 = .bool x29_5 ∧ Aside0 (tallymanlaw7_PathSays.j0 kq a0 a1 l2 x29_5 = some r) ∧ Aside0 (kq ≤ k) ∧ Aside0 (Below w.heap.size w wc))
    case first =>
      have H := HC6.out
      clear HC6
      by_cases c8 : (a0.size : Int) > 200
      · rw [if_pos c8] at H
        have c8b0 : decide (200 < (a0.size : Int)) = true := decide_eq_true c8
        have c8b1 : decide (200 < a0.size) = true := decide_eq_true (by omega)
        clear c8
        (first | rw [c8b0] | (simp only [i64_w, i32_w]; rw [c8b0]) | skip)
        have H' := Aside0.mk H
        clear H
        go_wp2
        go_meet
        case rel => exact ⟨_, (true), (by first | rfl | (simp; done) | (simp [*]; done)), H', ⟨by first | omega | exact Nat.le_refl _⟩, ⟨by repeat (first | (with_reducible first | exact HB.out | apply below_alloc | apply pw_below_drewN | apply below_drew1) | exact HB.out)⟩⟩
      · rw [if_neg c8] at H
        have c8b0 : decide (200 < (a0.size : Int)) = false := decide_eq_false c8
        have c8b1 : decide (200 < a0.size) = false := decide_eq_false (by omega)
        clear c8
        (first | rw [c8b0] | (simp only [i64_w, i32_w]; rw [c8b0]) | skip)
        by_cases c9 : (a1.size : Int) > 200
        · rw [if_pos c9] at H
          have c9b0 : decide (200 < (a1.size : Int)) = true := decide_eq_true c9
          have c9b1 : decide (200 < a1.size) = true := decide_eq_true (by omega)
          clear c9
          have H' := Aside0.mk H
          clear H
          go_wp2
          go_meet
          case rel => exact ⟨_, (true), (by first | rfl | (simp; done) | (simp [*]; done)), H', ⟨by first | omega | exact Nat.le_refl _⟩, ⟨by repeat (first | (with_reducible first | exact HB.out | apply below_alloc | apply pw_below_drewN | apply below_drew1) | exact HB.out)⟩⟩
        · rw [if_neg c9] at H
          have c9b0 : decide (200 < (a1.size : Int)) = false := decide_eq_false c9
          have c9b1 : decide (200 < a1.size) = false := decide_eq_false (by omega)
          clear c9
          have H' := Aside0.mk H
          clear H
          go_wp2
          go_meet
          case rel => exact ⟨_, (decide ((l2.length : Int) > 60)), (by first | rfl | (simp; done) | (simp [*]; done)), H', ⟨by first | omega | exact Nat.le_refl _⟩, ⟨by repeat (first | (with_reducible first | exact HB.out | apply below_alloc | apply pw_below_drewN | apply below_drew1) | exact HB.out)⟩⟩
    case rest =>
      clear HC6
      try clear c2
      try clear p2
      try clear c3
      try clear c5
      try clear c8
      try clear c8b0
      try clear c8b1
      try clear c9
      try clear c9b0
      try clear c9b1
      obtain ⟨kq, x29_5, rfl, HA, HJ5, HB⟩ := hcut
      cases kq with
      | zero => exact absurd HA.out (by simp [tallymanlaw7_PathSays.j0])
      | succ kj5 =>
        have H := HA.out
        clear HA
        simp only [tallymanlaw7_PathSays.j0] at H
        by_cases c10 : x29_5 = true
        · subst c10
          have H1 : (some true) = some r := by rw [if_pos rfl] at H; exact H
          clear H
          have H := H1
          clear H1
          obtain rfl := Option.some.inj H
          go_wp2
          go_ret
          exact ⟨by first | rfl | (simp [errW_none, errW_some] <;> rfl) | (simp [*, errW_none, errW_some] <;> rfl), by repeat (first | (with_reducible first | exact HB.out | apply below_alloc | apply pw_below_drewN | apply below_drew1) | exact HB.out)⟩
        · replace c10 := Bool.eq_false_iff.mpr c10
          subst c10
          have H1 : ((path_Up.f a0).bind fun bt146 => ((tallymanref7_Up.f kj5 a0).bind fun bt148 => ((path_Join.f kj5 a0 a1).bind fun bt150 => ((tallymanref7_Join.f kj5 a0 a1).bind fun bt152 => ((path_Good.f a0).bind fun t154 => ((tallymanref7_Good.f a0).bind fun t155 => (if (t154 == t155) = true then (if bt146.1.toList = bt148.1.toList then (if (bt146.2 == bt148.2) = true then (if bt150.1.toList = bt152.1.toList then (if (bt150.2 == bt152.2) = true then ((path_Base.f a0).bind fun t156 => ((tallymanref7_Base.f a0).bind fun t157 => (if t156.toList = t157.toList then ((path_Depth.f a0).bind fun t158 => ((tallymanref7_Depth.f a0).bind fun t159 => (if t158 = t159 then ((path_Under.f a0 a1).bind fun t160 => ((tallymanref7_Under.f a0 a1).bind fun t161 => (if (t160 == t161) = true then ((path_Inside.f a0).bind fun t162 => ((tallymanref7_Inside.f a0).bind fun t163 => (if (t162 == t163) = true then ((path_Cmp.f a0 a1).bind fun t164 => ((tallymanref7_Cmp.f a0 a1).bind fun t165 => (if t164 = t165 then ((path_Sort.f l2).bind fun t166 => ((tallymanref7_Sort.f l2).bind fun t169 => ((tallymanlaw7_texts.f kj5 t166 t169).bind fun t172 => (some t172)))) else (some false)))) else (some false)))) else (some false)))) else (some false)))) else (some false)))) else (some false)) else (some false)) else (some false)) else (some false)) else (some false)))))))) = some r := by rw [if_neg (show ¬ (false = true) by decide)] at H; exact H
          clear H
          have H := H1
          clear H1
          replace H := Option.bind_eq_some_iff.mp H
          obtain ⟨⟨t146, t147⟩, A110, H⟩ := H
          replace H : ((tallymanref7_Up.f kj5 a0).bind fun bt148 => ((path_Join.f kj5 a0 a1).bind fun bt150 => ((tallymanref7_Join.f kj5 a0 a1).bind fun bt152 => ((path_Good.f a0).bind fun t154 => ((tallymanref7_Good.f a0).bind fun t155 => (if (t154 == t155) = true then (if t146.toList = bt148.1.toList then (if (t147 == bt148.2) = true then (if bt150.1.toList = bt152.1.toList then (if (bt150.2 == bt152.2) = true then ((path_Base.f a0).bind fun t156 => ((tallymanref7_Base.f a0).bind fun t157 => (if t156.toList = t157.toList then ((path_Depth.f a0).bind fun t158 => ((tallymanref7_Depth.f a0).bind fun t159 => (if t158 = t159 then ((path_Under.f a0 a1).bind fun t160 => ((tallymanref7_Under.f a0 a1).bind fun t161 => (if (t160 == t161) = true then ((path_Inside.f a0).bind fun t162 => ((tallymanref7_Inside.f a0).bind fun t163 => (if (t162 == t163) = true then ((path_Cmp.f a0 a1).bind fun t164 => ((tallymanref7_Cmp.f a0 a1).bind fun t165 => (if t164 = t165 then ((path_Sort.f l2).bind fun t166 => ((tallymanref7_Sort.f l2).bind fun t169 => ((tallymanlaw7_texts.f kj5 t166 t169).bind fun t172 => (some t172)))) else (some false)))) else (some false)))) else (some false)))) else (some false)))) else (some false)))) else (some false)) else (some false)) else (some false)) else (some false)) else (some false))))))) = some r := H
          have A11 := Aside0.mk A110
          clear A110
          replace H := Option.bind_eq_some_iff.mp H
          obtain ⟨⟨t148, t149⟩, A120, H⟩ := H
          replace H : ((path_Join.f kj5 a0 a1).bind fun bt150 => ((tallymanref7_Join.f kj5 a0 a1).bind fun bt152 => ((path_Good.f a0).bind fun t154 => ((tallymanref7_Good.f a0).bind fun t155 => (if (t154 == t155) = true then (if t146.toList = t148.toList then (if (t147 == t149) = true then (if bt150.1.toList = bt152.1.toList then (if (bt150.2 == bt152.2) = true then ((path_Base.f a0).bind fun t156 => ((tallymanref7_Base.f a0).bind fun t157 => (if t156.toList = t157.toList then ((path_Depth.f a0).bind fun t158 => ((tallymanref7_Depth.f a0).bind fun t159 => (if t158 = t159 then ((path_Under.f a0 a1).bind fun t160 => ((tallymanref7_Under.f a0 a1).bind fun t161 => (if (t160 == t161) = true then ((path_Inside.f a0).bind fun t162 => ((tallymanref7_Inside.f a0).bind fun t163 => (if (t162 == t163) = true then ((path_Cmp.f a0 a1).bind fun t164 => ((tallymanref7_Cmp.f a0 a1).bind fun t165 => (if t164 = t165 then ((path_Sort.f l2).bind fun t166 => ((tallymanref7_Sort.f l2).bind fun t169 => ((tallymanlaw7_texts.f kj5 t166 t169).bind fun t172 => (some t172)))) else (some false)))) else (some false)))) else (some false)))) else (some false)))) else (some false)))) else (some false)) else (some false)) else (some false)) else (some false)) else (some false)))))) = some r := H
          have A12 := Aside0.mk A120
          clear A120
          replace H := Option.bind_eq_some_iff.mp H
          obtain ⟨⟨t150, t151⟩, A130, H⟩ := H
          replace H : ((tallymanref7_Join.f kj5 a0 a1).bind fun bt152 => ((path_Good.f a0).bind fun t154 => ((tallymanref7_Good.f a0).bind fun t155 => (if (t154 == t155) = true then (if t146.toList = t148.toList then (if (t147 == t149) = true then (if t150.toList = bt152.1.toList then (if (t151 == bt152.2) = true then ((path_Base.f a0).bind fun t156 => ((tallymanref7_Base.f a0).bind fun t157 => (if t156.toList = t157.toList then ((path_Depth.f a0).bind fun t158 => ((tallymanref7_Depth.f a0).bind fun t159 => (if t158 = t159 then ((path_Under.f a0 a1).bind fun t160 => ((tallymanref7_Under.f a0 a1).bind fun t161 => (if (t160 == t161) = true then ((path_Inside.f a0).bind fun t162 => ((tallymanref7_Inside.f a0).bind fun t163 => (if (t162 == t163) = true then ((path_Cmp.f a0 a1).bind fun t164 => ((tallymanref7_Cmp.f a0 a1).bind fun t165 => (if t164 = t165 then ((path_Sort.f l2).bind fun t166 => ((tallymanref7_Sort.f l2).bind fun t169 => ((tallymanlaw7_texts.f kj5 t166 t169).bind fun t172 => (some t172)))) else (some false)))) else (some false)))) else (some false)))) else (some false)))) else (some false)))) else (some false)) else (some false)) else (some false)) else (some false)) else (some false))))) = some r := H
          have A13 := Aside0.mk A130
          clear A130
          replace H := Option.bind_eq_some_iff.mp H
          obtain ⟨⟨t152, t153⟩, A140, H⟩ := H
          replace H : ((path_Good.f a0).bind fun t154 => ((tallymanref7_Good.f a0).bind fun t155 => (if (t154 == t155) = true then (if t146.toList = t148.toList then (if (t147 == t149) = true then (if t150.toList = t152.toList then (if (t151 == t153) = true then ((path_Base.f a0).bind fun t156 => ((tallymanref7_Base.f a0).bind fun t157 => (if t156.toList = t157.toList then ((path_Depth.f a0).bind fun t158 => ((tallymanref7_Depth.f a0).bind fun t159 => (if t158 = t159 then ((path_Under.f a0 a1).bind fun t160 => ((tallymanref7_Under.f a0 a1).bind fun t161 => (if (t160 == t161) = true then ((path_Inside.f a0).bind fun t162 => ((tallymanref7_Inside.f a0).bind fun t163 => (if (t162 == t163) = true then ((path_Cmp.f a0 a1).bind fun t164 => ((tallymanref7_Cmp.f a0 a1).bind fun t165 => (if t164 = t165 then ((path_Sort.f l2).bind fun t166 => ((tallymanref7_Sort.f l2).bind fun t169 => ((tallymanlaw7_texts.f kj5 t166 t169).bind fun t172 => (some t172)))) else (some false)))) else (some false)))) else (some false)))) else (some false)))) else (some false)))) else (some false)) else (some false)) else (some false)) else (some false)) else (some false)))) = some r := H
          have A14 := Aside0.mk A140
          clear A140
          replace H := Option.bind_eq_some_iff.mp H
          obtain ⟨t154, A150, H⟩ := H
          replace H : ((tallymanref7_Good.f a0).bind fun t155 => (if (t154 == t155) = true then (if t146.toList = t148.toList then (if (t147 == t149) = true then (if t150.toList = t152.toList then (if (t151 == t153) = true then ((path_Base.f a0).bind fun t156 => ((tallymanref7_Base.f a0).bind fun t157 => (if t156.toList = t157.toList then ((path_Depth.f a0).bind fun t158 => ((tallymanref7_Depth.f a0).bind fun t159 => (if t158 = t159 then ((path_Under.f a0 a1).bind fun t160 => ((tallymanref7_Under.f a0 a1).bind fun t161 => (if (t160 == t161) = true then ((path_Inside.f a0).bind fun t162 => ((tallymanref7_Inside.f a0).bind fun t163 => (if (t162 == t163) = true then ((path_Cmp.f a0 a1).bind fun t164 => ((tallymanref7_Cmp.f a0 a1).bind fun t165 => (if t164 = t165 then ((path_Sort.f l2).bind fun t166 => ((tallymanref7_Sort.f l2).bind fun t169 => ((tallymanlaw7_texts.f kj5 t166 t169).bind fun t172 => (some t172)))) else (some false)))) else (some false)))) else (some false)))) else (some false)))) else (some false)))) else (some false)) else (some false)) else (some false)) else (some false)) else (some false))) = some r := H
          have A15 := Aside0.mk A150
          clear A150
          replace H := Option.bind_eq_some_iff.mp H
          obtain ⟨t155, A160, H⟩ := H
          replace H : (if (t154 == t155) = true then (if t146.toList = t148.toList then (if (t147 == t149) = true then (if t150.toList = t152.toList then (if (t151 == t153) = true then ((path_Base.f a0).bind fun t156 => ((tallymanref7_Base.f a0).bind fun t157 => (if t156.toList = t157.toList then ((path_Depth.f a0).bind fun t158 => ((tallymanref7_Depth.f a0).bind fun t159 => (if t158 = t159 then ((path_Under.f a0 a1).bind fun t160 => ((tallymanref7_Under.f a0 a1).bind fun t161 => (if (t160 == t161) = true then ((path_Inside.f a0).bind fun t162 => ((tallymanref7_Inside.f a0).bind fun t163 => (if (t162 == t163) = true then ((path_Cmp.f a0 a1).bind fun t164 => ((tallymanref7_Cmp.f a0 a1).bind fun t165 => (if t164 = t165 then ((path_Sort.f l2).bind fun t166 => ((tallymanref7_Sort.f l2).bind fun t169 => ((tallymanlaw7_texts.f kj5 t166 t169).bind fun t172 => (some t172)))) else (some false)))) else (some false)))) else (some false)))) else (some false)))) else (some false)))) else (some false)) else (some false)) else (some false)) else (some false)) else (some false)) = some r := H
          have A16 := Aside0.mk A160
          clear A160
          by_cases c17 : (t154 == t155) = true
          · rw [if_pos c17] at H
            have c17b0 : (t154 == t155) = true := c17
            (try (have c17b1 : decide (t154 = t155) = true := by simpa using c17))
            (try (have c17b2 : (t154 == t155) = true := by simpa using c17))
            clear c17
            by_cases c18 : t146.toList = t148.toList
            · rw [if_pos c18] at H
              have c18b0 : (t146.toList == t148.toList) = true := beq_iff_eq.mpr c18
              have c18b1 : (t146.toList != t148.toList) = false := bne_eq_false_iff_eq.mpr c18
              clear c18
              by_cases c19 : (t147 == t149) = true
              · rw [if_pos c19] at H
                have c19b0 : (t147 == t149) = true := c19
                (try (have c19b1 : decide (t147 = t149) = true := by simpa using c19))
                (try (have c19b2 : (t147 == t149) = true := by simpa using c19))
                clear c19
                by_cases c20 : t150.toList = t152.toList
                · rw [if_pos c20] at H
                  have c20b0 : (t150.toList == t152.toList) = true := beq_iff_eq.mpr c20
                  have c20b1 : (t150.toList != t152.toList) = false := bne_eq_false_iff_eq.mpr c20
                  clear c20
                  by_cases c21 : (t151 == t153) = true
                  · rw [if_pos c21] at H
                    have c21b0 : (t151 == t153) = true := c21
                    (try (have c21b1 : decide (t151 = t153) = true := by simpa using c21))
                    (try (have c21b2 : (t151 == t153) = true := by simpa using c21))
                    clear c21
                    replace H := Option.bind_eq_some_iff.mp H
                    obtain ⟨t156, A220, H⟩ := H
                    replace H : ((tallymanref7_Base.f a0).bind fun t157 => (if t156.toList = t157.toList then ((path_Depth.f a0).bind fun t158 => ((tallymanref7_Depth.f a0).bind fun t159 => (if t158 = t159 then ((path_Under.f a0 a1).bind fun t160 => ((tallymanref7_Under.f a0 a1).bind fun t161 => (if (t160 == t161) = true then ((path_Inside.f a0).bind fun t162 => ((tallymanref7_Inside.f a0).bind fun t163 => (if (t162 == t163) = true then ((path_Cmp.f a0 a1).bind fun t164 => ((tallymanref7_Cmp.f a0 a1).bind fun t165 => (if t164 = t165 then ((path_Sort.f l2).bind fun t166 => ((tallymanref7_Sort.f l2).bind fun t169 => ((tallymanlaw7_texts.f kj5 t166 t169).bind fun t172 => (some t172)))) else (some false)))) else (some false)))) else (some false)))) else (some false)))) else (some false))) = some r := H
                    have A22 := Aside0.mk A220
                    clear A220
                    replace H := Option.bind_eq_some_iff.mp H
                    obtain ⟨t157, A230, H⟩ := H
                    replace H : (if t156.toList = t157.toList then ((path_Depth.f a0).bind fun t158 => ((tallymanref7_Depth.f a0).bind fun t159 => (if t158 = t159 then ((path_Under.f a0 a1).bind fun t160 => ((tallymanref7_Under.f a0 a1).bind fun t161 => (if (t160 == t161) = true then ((path_Inside.f a0).bind fun t162 => ((tallymanref7_Inside.f a0).bind fun t163 => (if (t162 == t163) = true then ((path_Cmp.f a0 a1).bind fun t164 => ((tallymanref7_Cmp.f a0 a1).bind fun t165 => (if t164 = t165 then ((path_Sort.f l2).bind fun t166 => ((tallymanref7_Sort.f l2).bind fun t169 => ((tallymanlaw7_texts.f kj5 t166 t169).bind fun t172 => (some t172)))) else (some false)))) else (some false)))) else (some false)))) else (some false)))) else (some false)) = some r := H
                    have A23 := Aside0.mk A230
                    clear A230
                    by_cases c24 : t156.toList = t157.toList
                    · rw [if_pos c24] at H
                      have c24b0 : (t156.toList == t157.toList) = true := beq_iff_eq.mpr c24
                      have c24b1 : (t156.toList != t157.toList) = false := bne_eq_false_iff_eq.mpr c24
                      clear c24
                      replace H := Option.bind_eq_some_iff.mp H
                      obtain ⟨t158, A250, H⟩ := H
                      replace H : ((tallymanref7_Depth.f a0).bind fun t159 => (if t158 = t159 then ((path_Under.f a0 a1).bind fun t160 => ((tallymanref7_Under.f a0 a1).bind fun t161 => (if (t160 == t161) = true then ((path_Inside.f a0).bind fun t162 => ((tallymanref7_Inside.f a0).bind fun t163 => (if (t162 == t163) = true then ((path_Cmp.f a0 a1).bind fun t164 => ((tallymanref7_Cmp.f a0 a1).bind fun t165 => (if t164 = t165 then ((path_Sort.f l2).bind fun t166 => ((tallymanref7_Sort.f l2).bind fun t169 => ((tallymanlaw7_texts.f kj5 t166 t169).bind fun t172 => (some t172)))) else (some false)))) else (some false)))) else (some false)))) else (some false))) = some r := H
                      have A25 := Aside0.mk A250
                      clear A250
                      replace H := Option.bind_eq_some_iff.mp H
                      obtain ⟨t159, A260, H⟩ := H
                      replace H : (if t158 = t159 then ((path_Under.f a0 a1).bind fun t160 => ((tallymanref7_Under.f a0 a1).bind fun t161 => (if (t160 == t161) = true then ((path_Inside.f a0).bind fun t162 => ((tallymanref7_Inside.f a0).bind fun t163 => (if (t162 == t163) = true then ((path_Cmp.f a0 a1).bind fun t164 => ((tallymanref7_Cmp.f a0 a1).bind fun t165 => (if t164 = t165 then ((path_Sort.f l2).bind fun t166 => ((tallymanref7_Sort.f l2).bind fun t169 => ((tallymanlaw7_texts.f kj5 t166 t169).bind fun t172 => (some t172)))) else (some false)))) else (some false)))) else (some false)))) else (some false)) = some r := H
                      have A26 := Aside0.mk A260
                      clear A260
                      by_cases c27 : t158 = t159
                      · rw [if_pos c27] at H
                        have c27b0 : (t158 == t159) = true := beq_iff_eq.mpr c27
                        have c27b1 : (t158 != t159) = false := bne_eq_false_iff_eq.mpr c27
                        clear c27
                        replace H := Option.bind_eq_some_iff.mp H
                        obtain ⟨t160, A280, H⟩ := H
                        replace H : ((tallymanref7_Under.f a0 a1).bind fun t161 => (if (t160 == t161) = true then ((path_Inside.f a0).bind fun t162 => ((tallymanref7_Inside.f a0).bind fun t163 => (if (t162 == t163) = true then ((path_Cmp.f a0 a1).bind fun t164 => ((tallymanref7_Cmp.f a0 a1).bind fun t165 => (if t164 = t165 then ((path_Sort.f l2).bind fun t166 => ((tallymanref7_Sort.f l2).bind fun t169 => ((tallymanlaw7_texts.f kj5 t166 t169).bind fun t172 => (some t172)))) else (some false)))) else (some false)))) else (some false))) = some r := H
                        have A28 := Aside0.mk A280
                        clear A280
                        replace H := Option.bind_eq_some_iff.mp H
                        obtain ⟨t161, A290, H⟩ := H
                        replace H : (if (t160 == t161) = true then ((path_Inside.f a0).bind fun t162 => ((tallymanref7_Inside.f a0).bind fun t163 => (if (t162 == t163) = true then ((path_Cmp.f a0 a1).bind fun t164 => ((tallymanref7_Cmp.f a0 a1).bind fun t165 => (if t164 = t165 then ((path_Sort.f l2).bind fun t166 => ((tallymanref7_Sort.f l2).bind fun t169 => ((tallymanlaw7_texts.f kj5 t166 t169).bind fun t172 => (some t172)))) else (some false)))) else (some false)))) else (some false)) = some r := H
                        have A29 := Aside0.mk A290
                        clear A290
                        by_cases c30 : (t160 == t161) = true
                        · rw [if_pos c30] at H
                          have c30b0 : (t160 == t161) = true := c30
                          (try (have c30b1 : decide (t160 = t161) = true := by simpa using c30))
                          (try (have c30b2 : (t160 == t161) = true := by simpa using c30))
                          clear c30
                          replace H := Option.bind_eq_some_iff.mp H
                          obtain ⟨t162, A310, H⟩ := H
                          replace H : ((tallymanref7_Inside.f a0).bind fun t163 => (if (t162 == t163) = true then ((path_Cmp.f a0 a1).bind fun t164 => ((tallymanref7_Cmp.f a0 a1).bind fun t165 => (if t164 = t165 then ((path_Sort.f l2).bind fun t166 => ((tallymanref7_Sort.f l2).bind fun t169 => ((tallymanlaw7_texts.f kj5 t166 t169).bind fun t172 => (some t172)))) else (some false)))) else (some false))) = some r := H
                          have A31 := Aside0.mk A310
                          clear A310
                          replace H := Option.bind_eq_some_iff.mp H
                          obtain ⟨t163, A320, H⟩ := H
                          replace H : (if (t162 == t163) = true then ((path_Cmp.f a0 a1).bind fun t164 => ((tallymanref7_Cmp.f a0 a1).bind fun t165 => (if t164 = t165 then ((path_Sort.f l2).bind fun t166 => ((tallymanref7_Sort.f l2).bind fun t169 => ((tallymanlaw7_texts.f kj5 t166 t169).bind fun t172 => (some t172)))) else (some false)))) else (some false)) = some r := H
                          have A32 := Aside0.mk A320
                          clear A320
                          by_cases c33 : (t162 == t163) = true
                          · rw [if_pos c33] at H
                            have c33b0 : (t162 == t163) = true := c33
                            (try (have c33b1 : decide (t162 = t163) = true := by simpa using c33))
                            (try (have c33b2 : (t162 == t163) = true := by simpa using c33))
                            clear c33
                            replace H := Option.bind_eq_some_iff.mp H
                            obtain ⟨t164, A340, H⟩ := H
                            replace H : ((tallymanref7_Cmp.f a0 a1).bind fun t165 => (if t164 = t165 then ((path_Sort.f l2).bind fun t166 => ((tallymanref7_Sort.f l2).bind fun t169 => ((tallymanlaw7_texts.f kj5 t166 t169).bind fun t172 => (some t172)))) else (some false))) = some r := H
                            have A34 := Aside0.mk A340
                            clear A340
                            replace H := Option.bind_eq_some_iff.mp H
                            obtain ⟨t165, A350, H⟩ := H
                            replace H : (if t164 = t165 then ((path_Sort.f l2).bind fun t166 => ((tallymanref7_Sort.f l2).bind fun t169 => ((tallymanlaw7_texts.f kj5 t166 t169).bind fun t172 => (some t172)))) else (some false)) = some r := H
                            have A35 := Aside0.mk A350
                            clear A350
                            by_cases c36 : t164 = t165
                            · rw [if_pos c36] at H
                              have c36b0 : (t164 == t165) = true := beq_iff_eq.mpr c36
                              have c36b1 : (t164 != t165) = false := bne_eq_false_iff_eq.mpr c36
                              clear c36
                              replace H := Option.bind_eq_some_iff.mp H
                              obtain ⟨t166, A370, H⟩ := H
                              replace H : ((tallymanref7_Sort.f l2).bind fun t169 => ((tallymanlaw7_texts.f kj5 t166 t169).bind fun t172 => (some t172))) = some r := H
                              have A37 := Aside0.mk A370
                              clear A370
                              replace H := Option.bind_eq_some_iff.mp H
                              obtain ⟨t169, A380, H⟩ := H
                              replace H : ((tallymanlaw7_texts.f kj5 t166 t169).bind fun t172 => (some t172)) = some r := H
                              have A38 := Aside0.mk A380
                              clear A380
                              replace H := Option.bind_eq_some_iff.mp H
                              obtain ⟨t172, A390, H⟩ := H
                              replace H : (some t172) = some r := H
                              have A39 := Aside0.mk A390
                              clear A390
                              obtain rfl := Option.some.inj H
                              go_wp2_with (first | ((with_reducible refine gate_callee (f := 37) rfl ?_); refine goesL_ (some 32) rfl rfl Tryd.func37 (by kernel_rfl) rfl #[.string a0] rfl (by (try simp only [List.map_toArray, List.map_cons, List.map_nil]); first | done | rfl | (simp only [List.length_drop, List.length_take]; rfl)) ?_; (with_reducible refine (path_Up.calls a0 t146 t147 _ A11.out).mono ?_); rintro e w40 ⟨rfl, hb⟩; refine ⟨_, rfl, ?_⟩; have n0_ := Aside0.mk (below_step (by repeat (first | (with_reducible first | exact HB.out | apply below_alloc | apply pw_below_drewN | apply below_drew1) | exact HB.out)) hb); clear HB; have HB := n0_; clear n0_; (try clear hb); (try clear hb2); (try clear hk); (try clear hi)) | ((with_reducible refine gate_callee (f := 38) rfl ?_); refine goesL_ (some 37) rfl rfl Tryd.func38 (by kernel_rfl) rfl #[.string a0] rfl (by (try simp only [List.map_toArray, List.map_cons, List.map_nil]); first | done | rfl | (simp only [List.length_drop, List.length_take]; rfl)) ?_; (with_reducible refine (tallymanref7_Up.calls kj5 a0 t148 t149 _ A12.out).mono ?_); rintro e w41 ⟨rfl, hb⟩; refine ⟨_, rfl, ?_⟩; have n0_ := Aside0.mk (below_step (by repeat (first | (with_reducible first | exact HB.out | apply below_alloc | apply pw_below_drewN | apply below_drew1) | exact HB.out)) hb); clear HB; have HB := n0_; clear n0_; (try clear hb); (try clear hb2); (try clear hk); (try clear hi)) | ((with_reducible refine gate_callee (f := 39) rfl ?_); refine goesL_ (some 43) rfl rfl Tryd.func39 (by kernel_rfl) rfl #[.string a0, .string a1] rfl (by (try simp only [List.map_toArray, List.map_cons, List.map_nil]); first | done | rfl | (simp only [List.length_drop, List.length_take]; rfl)) ?_; (with_reducible refine (path_Join.calls kj5 a0 a1 t150 t151 _ A13.out).mono ?_); rintro e w42 ⟨rfl, hb⟩; refine ⟨_, rfl, ?_⟩; have n0_ := Aside0.mk (below_step (by repeat (first | (with_reducible first | exact HB.out | apply below_alloc | apply pw_below_drewN | apply below_drew1) | exact HB.out)) hb); clear HB; have HB := n0_; clear n0_; (try clear hb); (try clear hb2); (try clear hk); (try clear hi)) | ((with_reducible refine gate_callee (f := 40) rfl ?_); refine goesL_ (some 49) rfl rfl Tryd.func40 (by kernel_rfl) rfl #[.string a0, .string a1] rfl (by (try simp only [List.map_toArray, List.map_cons, List.map_nil]); first | done | rfl | (simp only [List.length_drop, List.length_take]; rfl)) ?_; (with_reducible refine (tallymanref7_Join.calls kj5 a0 a1 t152 t153 _ A14.out).mono ?_); rintro e w43 ⟨rfl, hb⟩; refine ⟨_, rfl, ?_⟩; have n0_ := Aside0.mk (below_step (by repeat (first | (with_reducible first | exact HB.out | apply below_alloc | apply pw_below_drewN | apply below_drew1) | exact HB.out)) hb); clear HB; have HB := n0_; clear n0_; (try clear hb); (try clear hb2); (try clear hk); (try clear hi)) | ((with_reducible refine gate_callee (f := 41) rfl ?_); refine goesL_ (some 53) rfl rfl Tryd.func41 (by kernel_rfl) rfl #[.string a0] rfl (by (try simp only [List.map_toArray, List.map_cons, List.map_nil]); first | done | rfl | (simp only [List.length_drop, List.length_take]; rfl)) ?_; (with_reducible refine (path_Good.calls a0 t154 _ A15.out).mono ?_); rintro e w44 ⟨rfl, hb⟩; refine ⟨_, rfl, ?_⟩; have n0_ := Aside0.mk (below_step (by repeat (first | (with_reducible first | exact HB.out | apply below_alloc | apply pw_below_drewN | apply below_drew1) | exact HB.out)) hb); clear HB; have HB := n0_; clear n0_; (try clear hb); (try clear hb2); (try clear hk); (try clear hi)) | ((with_reducible refine gate_callee (f := 42) rfl ?_); refine goesL_ (some 55) rfl rfl Tryd.func42 (by kernel_rfl) rfl #[.string a0] rfl (by (try simp only [List.map_toArray, List.map_cons, List.map_nil]); first | done | rfl | (simp only [List.length_drop, List.length_take]; rfl)) ?_; (with_reducible refine (tallymanref7_Good.calls a0 t155 _ A16.out).mono ?_); rintro e w45 ⟨rfl, hb⟩; refine ⟨_, rfl, ?_⟩; have n0_ := Aside0.mk (below_step (by repeat (first | (with_reducible first | exact HB.out | apply below_alloc | apply pw_below_drewN | apply below_drew1) | exact HB.out)) hb); clear HB; have HB := n0_; clear n0_; (try clear hb); (try clear hb2); (try clear hk); (try clear hi)) | (go_at_call 43; (with_reducible refine (path_Base.calls a0 t156 _ A22.out).mono ?_); rintro e w46 ⟨rfl, hb⟩; have n0_ := Aside0.mk (below_step (by repeat (first | (with_reducible first | exact HB.out | apply below_alloc | apply pw_below_drewN | apply below_drew1) | exact HB.out)) hb); clear HB; have HB := n0_; clear n0_; (try clear hb); (try clear hb2); (try clear hk); (try clear hi)) | (go_at_call 44; (with_reducible refine (tallymanref7_Base.calls a0 t157 _ A23.out).mono ?_); rintro e w47 ⟨rfl, hb⟩; have n0_ := Aside0.mk (below_step (by repeat (first | (with_reducible first | exact HB.out | apply below_alloc | apply pw_below_drewN | apply below_drew1) | exact HB.out)) hb); clear HB; have HB := n0_; clear n0_; (try clear hb); (try clear hb2); (try clear hk); (try clear hi)) | (go_at_call 45; (with_reducible refine (path_Depth.calls a0 t158 _ A25.out).mono ?_); rintro e w48 ⟨rfl, hb⟩; have n0_ := Aside0.mk (below_step (by repeat (first | (with_reducible first | exact HB.out | apply below_alloc | apply pw_below_drewN | apply below_drew1) | exact HB.out)) hb); clear HB; have HB := n0_; clear n0_; (try clear hb); (try clear hb2); (try clear hk); (try clear hi)) | (go_at_call 46; (with_reducible refine (tallymanref7_Depth.calls a0 t159 _ A26.out).mono ?_); rintro e w49 ⟨rfl, hb⟩; have n0_ := Aside0.mk (below_step (by repeat (first | (with_reducible first | exact HB.out | apply below_alloc | apply pw_below_drewN | apply below_drew1) | exact HB.out)) hb); clear HB; have HB := n0_; clear n0_; (try clear hb); (try clear hb2); (try clear hk); (try clear hi)) | (go_at_call 47; (with_reducible refine (path_Under.calls a0 a1 t160 _ A28.out).mono ?_); rintro e w50 ⟨rfl, hb⟩; have n0_ := Aside0.mk (below_step (by repeat (first | (with_reducible first | exact HB.out | apply below_alloc | apply pw_below_drewN | apply below_drew1) | exact HB.out)) hb); clear HB; have HB := n0_; clear n0_; (try clear hb); (try clear hb2); (try clear hk); (try clear hi)) | (go_at_call 48; (with_reducible refine (tallymanref7_Under.calls a0 a1 t161 _ A29.out).mono ?_); rintro e w51 ⟨rfl, hb⟩; have n0_ := Aside0.mk (below_step (by repeat (first | (with_reducible first | exact HB.out | apply below_alloc | apply pw_below_drewN | apply below_drew1) | exact HB.out)) hb); clear HB; have HB := n0_; clear n0_; (try clear hb); (try clear hb2); (try clear hk); (try clear hi)) | (go_at_call 49; (with_reducible refine (path_Inside.calls a0 t162 _ A31.out).mono ?_); rintro e w52 ⟨rfl, hb⟩; have n0_ := Aside0.mk (below_step (by repeat (first | (with_reducible first | exact HB.out | apply below_alloc | apply pw_below_drewN | apply below_drew1) | exact HB.out)) hb); clear HB; have HB := n0_; clear n0_; (try clear hb); (try clear hb2); (try clear hk); (try clear hi)) | (go_at_call 50; (with_reducible refine (tallymanref7_Inside.calls a0 t163 _ A32.out).mono ?_); rintro e w53 ⟨rfl, hb⟩; have n0_ := Aside0.mk (below_step (by repeat (first | (with_reducible first | exact HB.out | apply below_alloc | apply pw_below_drewN | apply below_drew1) | exact HB.out)) hb); clear HB; have HB := n0_; clear n0_; (try clear hb); (try clear hb2); (try clear hk); (try clear hi)) | (go_at_call 51; (with_reducible refine (path_Cmp.calls a0 a1 t164 _ A34.out).mono ?_); rintro e w54 ⟨rfl, hb⟩; have n0_ := Aside0.mk (below_step (by repeat (first | (with_reducible first | exact HB.out | apply below_alloc | apply pw_below_drewN | apply below_drew1) | exact HB.out)) hb); clear HB; have HB := n0_; clear n0_; (try clear hb); (try clear hb2); (try clear hk); (try clear hi)) | (go_at_call 52; (with_reducible refine (tallymanref7_Cmp.calls a0 a1 t165 _ A35.out).mono ?_); rintro e w55 ⟨rfl, hb⟩; have n0_ := Aside0.mk (below_step (by repeat (first | (with_reducible first | exact HB.out | apply below_alloc | apply pw_below_drewN | apply below_drew1) | exact HB.out)) hb); clear HB; have HB := n0_; clear n0_; (try clear hb); (try clear hb2); (try clear hk); (try clear hi)) | (go_at_call 54; (with_reducible refine (path_Sort.calls _ _ l2 t166 _ ?side1 ?side2 A37.out).mono ?_); (case side1 => repeat (first | exact (Kd.C_below HR2.out HB.out) | (with_reducible refine Kd.C_alloc ?_ _) | (with_reducible refine Kd.C_drewN ?_ _) | (with_reducible refine Kd.C_drew ?_))); (case side2 => exact HC2.out); rintro e w56 ⟨v167, rfl, ho0, hb⟩; have n0_ := Aside0.mk (Kd.R_lower ho0 (below_size (by repeat (first | (with_reducible first | exact HB.out | apply below_alloc | apply pw_below_drewN | apply below_drew1) | exact HB.out)))); have n1_ := Aside0.mk (below_step (by repeat (first | (with_reducible first | exact HB.out | apply below_alloc | apply pw_below_drewN | apply below_drew1) | exact HB.out)) hb); clear HB; have HO168 := n0_; have HB := n1_; clear n0_ n1_; (try clear hb); (try clear hb2); (try clear hk); (try clear hi); (try clear ho0)) | (go_at_call 55; (with_reducible refine (tallymanref7_Sort.calls _ _ l2 t169 _ ?side1 ?side2 A38.out).mono ?_); (case side1 => repeat (first | exact (Kd.C_below HR2.out HB.out) | (with_reducible refine Kd.C_alloc ?_ _) | (with_reducible refine Kd.C_drewN ?_ _) | (with_reducible refine Kd.C_drew ?_))); (case side2 => exact HC2.out); rintro e w57 ⟨v170, rfl, ho0, hb⟩; have n0_ := Aside0.mk (Kd.R_elder' (by (with_reducible repeat (first | apply Kd.R_alloc | apply Kd.R_drewN | apply Kd.R_drew)); exact HO168.out) (Kd.R_base ho0) hb); have n1_ := Aside0.mk (Kd.R_lower (Kd.R_new' ho0 (Kd.R_lt (by (with_reducible repeat (first | apply Kd.R_alloc | apply Kd.R_drewN | apply Kd.R_drew)); exact HO168.out))) (below_size (by repeat (first | (with_reducible first | exact HB.out | apply below_alloc | apply pw_below_drewN | apply below_drew1) | exact HB.out)))); have n2_ := Aside0.mk (below_step (by repeat (first | (with_reducible first | exact HB.out | apply below_alloc | apply pw_below_drewN | apply below_drew1) | exact HB.out)) hb); clear HO168; clear HB; have HO168 := n0_; have HO171 := n1_; have HB := n2_; clear n0_ n1_ n2_; (try clear hb); (try clear hb2); (try clear hk); (try clear hi); (try clear ho0); obtain ⟨Ao58, co58, eo58⟩ := Kd.R_slice HO168.out; subst eo58; obtain ⟨Ao59, co59, eo59⟩ := Kd.R_slice HO171.out; subst eo59) | (go_at_call 53; (with_reducible refine (tallymanlaw7_texts.calls kj5 _ _ t166 _ _ t169 t172 _ ?side1 ?side2 ?side3 ?side4 A39.out).mono ?_); (case side1 => repeat (first | exact (Kd.R_reads' HO168.out).2.2 | (with_reducible refine Kd.C_alloc ?_ _) | (with_reducible refine Kd.C_drewN ?_ _) | (with_reducible refine Kd.C_drew ?_))); (case side2 => exact (Kd.R_reads' HO168.out).2.1); (case side3 => repeat (first | exact (Kd.R_reads' HO171.out).2.2 | (with_reducible refine Kd.C_alloc ?_ _) | (with_reducible refine Kd.C_drewN ?_ _) | (with_reducible refine Kd.C_drew ?_))); (case side4 => exact (Kd.R_reads' HO171.out).2.1); rintro e w' ⟨rfl, ⟨nd, rfl⟩⟩))
                              go_ret
                              exact ⟨by first | rfl | (simp [errW_none, errW_some] <;> rfl) | (simp [*, errW_none, errW_some] <;> rfl), by repeat (first | (with_reducible first | exact HB.out | apply below_alloc | apply pw_below_drewN | apply below_drew1) | exact HB.out)⟩
                            · rw [if_neg c36] at H
                              have c36b0 : (t164 == t165) = false := beq_eq_false_iff_ne.mpr c36
                              have c36b1 : (t164 != t165) = true := bne_iff_ne.mpr c36
                              exact absurd ((Option.some.inj H).trans HT_.out) (by decide)
                          · rw [if_neg c33] at H
                            have c33b0 : (t162 == t163) = false := by simpa using c33
                            (try (have c33b1 : decide (t162 = t163) = false := by simpa using c33))
                            (try (have c33b2 : (t162 == t163) = false := by simpa using c33))
                            (try (have c33b3 : ¬ (t162 = t163) := by simpa using c33))
                            clear c33
                            exact absurd ((Option.some.inj H).trans HT_.out) (by decide)
                        · rw [if_neg c30] at H
                          have c30b0 : (t160 == t161) = false := by simpa using c30
                          (try (have c30b1 : decide (t160 = t161) = false := by simpa using c30))
                          (try (have c30b2 : (t160 == t161) = false := by simpa using c30))
                          (try (have c30b3 : ¬ (t160 = t161) := by simpa using c30))
                          clear c30
                          exact absurd ((Option.some.inj H).trans HT_.out) (by decide)
                      · rw [if_neg c27] at H
                        have c27b0 : (t158 == t159) = false := beq_eq_false_iff_ne.mpr c27
                        have c27b1 : (t158 != t159) = true := bne_iff_ne.mpr c27
                        exact absurd ((Option.some.inj H).trans HT_.out) (by decide)
                    · rw [if_neg c24] at H
                      have c24b0 : (t156.toList == t157.toList) = false := beq_eq_false_iff_ne.mpr c24
                      have c24b1 : (t156.toList != t157.toList) = true := bne_iff_ne.mpr c24
                      exact absurd ((Option.some.inj H).trans HT_.out) (by decide)
                  · rw [if_neg c21] at H
                    have c21b0 : (t151 == t153) = false := by simpa using c21
                    (try (have c21b1 : decide (t151 = t153) = false := by simpa using c21))
                    (try (have c21b2 : (t151 == t153) = false := by simpa using c21))
                    (try (have c21b3 : ¬ (t151 = t153) := by simpa using c21))
                    clear c21
                    exact absurd ((Option.some.inj H).trans HT_.out) (by decide)
                · rw [if_neg c20] at H
                  have c20b0 : (t150.toList == t152.toList) = false := beq_eq_false_iff_ne.mpr c20
                  have c20b1 : (t150.toList != t152.toList) = true := bne_iff_ne.mpr c20
                  exact absurd ((Option.some.inj H).trans HT_.out) (by decide)
              · rw [if_neg c19] at H
                have c19b0 : (t147 == t149) = false := by simpa using c19
                (try (have c19b1 : decide (t147 = t149) = false := by simpa using c19))
                (try (have c19b2 : (t147 == t149) = false := by simpa using c19))
                (try (have c19b3 : ¬ (t147 = t149) := by simpa using c19))
                clear c19
                exact absurd ((Option.some.inj H).trans HT_.out) (by decide)
            · rw [if_neg c18] at H
              have c18b0 : (t146.toList == t148.toList) = false := beq_eq_false_iff_ne.mpr c18
              have c18b1 : (t146.toList != t148.toList) = true := bne_iff_ne.mpr c18
              exact absurd ((Option.some.inj H).trans HT_.out) (by decide)
          · rw [if_neg c17] at H
            have c17b0 : (t154 == t155) = false := by simpa using c17
            (try (have c17b1 : decide (t154 = t155) = false := by simpa using c17))
            (try (have c17b2 : (t154 == t155) = false := by simpa using c17))
            (try (have c17b3 : ¬ (t154 = t155) := by simpa using c17))
            clear c17
            exact absurd ((Option.some.inj H).trans HT_.out) (by decide)
  · replace c5 := Bool.eq_false_iff.mpr c5
    subst c5
    have H1 : (some false) = some r := by rw [if_neg (show ¬ (false = true) by decide)] at H; exact H
    clear H
    have H := H1
    clear H1
    exact absurd ((Option.some.inj H).trans HT_.out) (by decide)

/-- THE ONE PURE STATEMENT of tallymanlaw7_PathSays: yours. -/
def tallymanlaw7_PathSays.Pure : Prop := ∀ (a0 : ByteArray) (a1 : ByteArray) (l2 : List ByteArray), a0.size ≤ maxLen → a1.size ≤ maxLen → (l2.length ≤ maxLen ∧ ∀ x0_ ∈ l2, x0_.size ≤ maxLen) → ∃ k, tallymanlaw7_PathSays.f k a0 a1 l2 = some true

end Go.Proofs.YtidlldfghkaeeaaDoor.P
