/- Written by pp.py, a program of this session over the printer of the kit: what the functions of the program compute, and that they do so; of a law: its row, without a condition. -/
import Derived.Test.YtlaojndlelcdaaaPx0
import Derived.Test.YtlaojndlelcdaaaPx1
import Derived.Test.YtlaojndlelcdaaaPx2
import Derived.Test.YtlaojndlelcdaaaPx3
import Derived.Test.YtlaojndlelcdaaaPx4
namespace Go.Proofs.Ytlaojndlelcdaaa.P
open Go.RowKit Go.Proofs.YtlaojndlelcdaaaW.PrintWords Go.Proofs.YtlaojndlelcdaaaW.PrintLast Go.Proofs.YtlaojndlelcdaaaW.PrintMore
attribute [local go_sem] max2_int min2_int max_two min_two max_three min_three max_four min_four   -- for this text's walks alone
set_option linter.unusedVariables false
set_option linter.unusedSimpArgs false

/-! ### tallymanlaw4_NumBack: function 7 -/
mutual
def tallymanlaw4_NumBack.j0 : Nat → Int → List Int → List Int → Bool → Option (Bool)
  | 0, _, _, _, _ => none
  | k + 1, x0, x1, x2, x31 => if x31 = true then (some true) else ((num_Put.f k ([] : List Int) x0).bind fun t304 => ((some (([] : List Int) : List Int)).bind fun y307 => (if y307.length + t304.length < 140737488355328 then ((some (y307 ++ t304 : List Int)).bind fun y310 => (if y310.length + x2.length < 140737488355328 then ((num_Get.f k (y310 ++ x2)).bind fun bt316 => ((num_PutBytes.f k ([] : List Int) x1).bind fun t319 => ((some (([] : List Int) : List Int)).bind fun y322 => (if y322.length + t319.length < 140737488355328 then ((some (y322 ++ t319 : List Int)).bind fun y325 => (if y325.length + x2.length < 140737488355328 then ((num_GetBytes.f k (y325 ++ x2) (x1.length : Int)).bind fun bt331 => (if bt316.2.2 = 0 then (if bt316.1 = x0 then (if bt316.2.1 = (t304.length : Int) then (if bt331.2.2 = 0 then (if bt331.2.1 = (t319.length : Int) then (if (strOfNums bt331.1).toList = (strOfNums x1).toList then ((num_Size.f k x0).bind fun t336 => (if (t304.length : Int) = t336 then ((num_Fold.f (wrap64 (x0))).bind fun t337 => ((num_Open.f t337).bind fun t338 => (tallymanlaw4_NumBack.j1 k x2 t304 (t338 != (wrap64 (x0)))))) else (tallymanlaw4_NumBack.j1 k x2 t304 true))) else (tallymanlaw4_NumBack.j1 k x2 t304 true)) else (tallymanlaw4_NumBack.j1 k x2 t304 true)) else (tallymanlaw4_NumBack.j1 k x2 t304 true)) else (tallymanlaw4_NumBack.j1 k x2 t304 true)) else (tallymanlaw4_NumBack.j1 k x2 t304 true)) else (tallymanlaw4_NumBack.j1 k x2 t304 true))) else (none))) else (none))))) else (none))) else (none))))
def tallymanlaw4_NumBack.j1 : Nat → List Int → List Int → Bool → Option (Bool)
  | 0, _, _, _ => none
  | k + 1, x2, x7, x103 => if x103 = true then (some false) else (tallymanlaw4_NumBack.l0 k x2 x7 0)
def tallymanlaw4_NumBack.l0 : Nat → List Int → List Int → Int → Option (Bool)
  | 0, _, _, _ => none
  | k + 1, x2, x7, x15 => if x15 < (x7.length : Int) then (if 0 ≤ x15 then (if x15 ≤ (x7.length : Int) then ((num_Get.f k (x7.take (x15 : Int).toNat)).bind fun bt343 => (if bt343.2.2 = 3 then (tallymanlaw4_NumBack.l0 k x2 x7 (wrap64 (x15 + 1))) else (some false))) else (none)) else (none)) else ((num_Get.f k x2).bind fun bt346 => (if bt346.2.2 = 0 then (if bt346.2.1 ≤ (x2.length : Int) then ((num_Put.f k ([] : List Int) bt346.1).bind fun t349 => (if 0 ≤ bt346.2.1 then (some ((strOfNums t349).toList == (strOfNums (x2.take (bt346.2.1 : Int).toNat)).toList)) else (none))) else (some false)) else (some true)))
end
def tallymanlaw4_NumBack.f (k : Nat) (a0 : Int) (l1 : List Int) (l2 : List Int) : Option (Bool) := (tallymanlaw4_awake.f k).bind fun t303 => (if t303 = true then (if (l1.length : Int) > 1000 then (tallymanlaw4_NumBack.j0 k a0 l1 l2 true) else (tallymanlaw4_NumBack.j0 k a0 l1 l2 (decide ((l2.length : Int) > 1000)))) else (some false))
theorem tallymanlaw4_NumBack.mono_l : ∀ k, (∀ y0 y1 y2 y3, LeO (tallymanlaw4_NumBack.j0 k y0 y1 y2 y3) (tallymanlaw4_NumBack.j0 (k + 1) y0 y1 y2 y3)) ∧ (∀ y0 y1 y2, LeO (tallymanlaw4_NumBack.j1 k y0 y1 y2) (tallymanlaw4_NumBack.j1 (k + 1) y0 y1 y2)) ∧ (∀ y0 y1 y2, LeO (tallymanlaw4_NumBack.l0 k y0 y1 y2) (tallymanlaw4_NumBack.l0 (k + 1) y0 y1 y2))
  | 0 => ⟨fun _ _ _ _ r h => by simp [tallymanlaw4_NumBack.j0] at h, fun _ _ _ r h => by simp [tallymanlaw4_NumBack.j1] at h, fun _ _ _ r h => by simp [tallymanlaw4_NumBack.l0] at h⟩
  | k + 1 => by
    obtain ⟨ih0, ih1, ih2⟩ := tallymanlaw4_NumBack.mono_l k
    refine ⟨?_, ?_, ?_⟩
    · intro y0 y1 y2 y3
      unfold tallymanlaw4_NumBack.j0
      repeat' first
      | (with_reducible exact ih0 _ _ _ _)
      | (with_reducible exact ih1 _ _ _)
      | (with_reducible exact ih2 _ _ _)
      | (with_reducible exact num_Get.mono _ _)
      | (with_reducible exact num_GetBytes.mono _ _ _)
      | (with_reducible exact num_Put.mono _ _ _)
      | (with_reducible exact num_PutBytes.mono _ _ _)
      | (with_reducible exact num_Size.mono _ _)
      | (with_reducible exact tallymanlaw4_awake.mono _)
      | (with_reducible exact LeO.refl _)
      | (with_reducible exact LeO.none _)
      | (with_reducible refine LeO.ite ?_ ?_)
      | (with_reducible refine LeO.bind ?_ (fun _ => ?_))
      | exact ih0 _ _ _ _
      | exact ih1 _ _ _
      | exact ih2 _ _ _
      | exact num_Get.mono _ _
      | exact num_GetBytes.mono _ _ _
      | exact num_Put.mono _ _ _
      | exact num_PutBytes.mono _ _ _
      | exact num_Size.mono _ _
      | exact tallymanlaw4_awake.mono _
      | exact LeO.none _
      | refine LeO.ite ?_ ?_
      | refine LeO.bind ?_ (fun _ => ?_)
    · intro y0 y1 y2
      unfold tallymanlaw4_NumBack.j1
      repeat' first
      | (with_reducible exact ih0 _ _ _ _)
      | (with_reducible exact ih1 _ _ _)
      | (with_reducible exact ih2 _ _ _)
      | (with_reducible exact num_Get.mono _ _)
      | (with_reducible exact num_GetBytes.mono _ _ _)
      | (with_reducible exact num_Put.mono _ _ _)
      | (with_reducible exact num_PutBytes.mono _ _ _)
      | (with_reducible exact num_Size.mono _ _)
      | (with_reducible exact tallymanlaw4_awake.mono _)
      | (with_reducible exact LeO.refl _)
      | (with_reducible exact LeO.none _)
      | (with_reducible refine LeO.ite ?_ ?_)
      | (with_reducible refine LeO.bind ?_ (fun _ => ?_))
      | exact ih0 _ _ _ _
      | exact ih1 _ _ _
      | exact ih2 _ _ _
      | exact num_Get.mono _ _
      | exact num_GetBytes.mono _ _ _
      | exact num_Put.mono _ _ _
      | exact num_PutBytes.mono _ _ _
      | exact num_Size.mono _ _
      | exact tallymanlaw4_awake.mono _
      | exact LeO.none _
      | refine LeO.ite ?_ ?_
      | refine LeO.bind ?_ (fun _ => ?_)
    · intro y0 y1 y2
      unfold tallymanlaw4_NumBack.l0
      repeat' first
      | (with_reducible exact ih0 _ _ _ _)
      | (with_reducible exact ih1 _ _ _)
      | (with_reducible exact ih2 _ _ _)
      | (with_reducible exact num_Get.mono _ _)
      | (with_reducible exact num_GetBytes.mono _ _ _)
      | (with_reducible exact num_Put.mono _ _ _)
      | (with_reducible exact num_PutBytes.mono _ _ _)
      | (with_reducible exact num_Size.mono _ _)
      | (with_reducible exact tallymanlaw4_awake.mono _)
      | (with_reducible exact LeO.refl _)
      | (with_reducible exact LeO.none _)
      | (with_reducible refine LeO.ite ?_ ?_)
      | (with_reducible refine LeO.bind ?_ (fun _ => ?_))
      | exact ih0 _ _ _ _
      | exact ih1 _ _ _
      | exact ih2 _ _ _
      | exact num_Get.mono _ _
      | exact num_GetBytes.mono _ _ _
      | exact num_Put.mono _ _ _
      | exact num_PutBytes.mono _ _ _
      | exact num_Size.mono _ _
      | exact tallymanlaw4_awake.mono _
      | exact LeO.none _
      | refine LeO.ite ?_ ?_
      | refine LeO.bind ?_ (fun _ => ?_)
theorem tallymanlaw4_NumBack.mono : ∀ a0 a1 a2 k, LeO (tallymanlaw4_NumBack.f k a0 a1 a2) (tallymanlaw4_NumBack.f (k + 1) a0 a1 a2) := by
  intro a0 a1 a2 k
  obtain ⟨ih0, ih1, ih2⟩ := tallymanlaw4_NumBack.mono_l k
  unfold tallymanlaw4_NumBack.f
  repeat' first
      | (with_reducible exact ih0 _ _ _ _)
      | (with_reducible exact ih1 _ _ _)
      | (with_reducible exact ih2 _ _ _)
      | (with_reducible exact num_Get.mono _ _)
      | (with_reducible exact num_GetBytes.mono _ _ _)
      | (with_reducible exact num_Put.mono _ _ _)
      | (with_reducible exact num_PutBytes.mono _ _ _)
      | (with_reducible exact num_Size.mono _ _)
      | (with_reducible exact tallymanlaw4_awake.mono _)
      | (with_reducible exact LeO.refl _)
      | (with_reducible exact LeO.none _)
      | (with_reducible refine LeO.ite ?_ ?_)
      | (with_reducible refine LeO.bind ?_ (fun _ => ?_))
      | exact ih0 _ _ _ _
      | exact ih1 _ _ _
      | exact ih2 _ _ _
      | exact num_Get.mono _ _
      | exact num_GetBytes.mono _ _ _
      | exact num_Put.mono _ _ _
      | exact num_PutBytes.mono _ _ _
      | exact num_Size.mono _ _
      | exact tallymanlaw4_awake.mono _
      | exact LeO.none _
      | refine LeO.ite ?_ ?_
      | refine LeO.bind ?_ (fun _ => ?_)
def tallymanlaw4_NumBack.T18 : Bool × List (List Nat × List Nat) := (true, [([], []), ([0], [0]), ([1], [1]), ([2], [2]), ([2], [2]), ([4, 2], [2, 4]), ([3, 5, 2], [2, 3, 5]), ([6, 2, 2], [2, 6]), ([7], [7]), ([8, 7, 7], [7, 8]), ([9, 7], [7, 9]), ([7], [7]), ([7], [7]), ([11, 12, 7], [7, 11, 12]), ([13, 7], [7, 13]), ([10, 14, 7], [7, 10, 14]), ([7, 15, 2], [2, 7, 15]), ([2, 16], [2, 16]), ([17, 9, 0, 1, 2, 3, 4, 5, 6, 7, 8, 9, 10, 11, 12, 13, 14, 15, 16, 17], [17])])
def tallymanlaw4_NumBack.B18 : List Nat := [0, 1, 3, 7, 7, 23, 63, 127, 255, 511, 1023, 255, 255, 6399, 14591, 32767, 65535, 131071, 262143]
theorem tallymanlaw4_NumBack.tab18 : rtab .any (opsOf Try.f7 18) = tallymanlaw4_NumBack.T18 := by kernel_rfl
theorem tallymanlaw4_NumBack.bits18 : waitsOk tallymanlaw4_NumBack.T18.2 tallymanlaw4_NumBack.B18 = true := by kernel_rfl
set_option maxHeartbeats 8000000 in
set_option maxRecDepth 100000 in
theorem tallymanlaw4_NumBack.calls (k : Nat) (a0 : Int) (A1 : Option Addr) (c1 : Nat) (l1 : List Int) (A2 : Option Addr) (c2 : Nat) (l2 : List Int) (r : Bool) (w : World) (hr1 : Kd.C (Kd.int .u8) w A1 l1.length l1) (hc1 : l1.length ≤ c1) (hr2 : Kd.C (Kd.int .u8) w A2 l2.length l2) (hc2 : l2.length ≤ c2) (h : tallymanlaw4_NumBack.f k a0 l1 l2 = some r) :
    Calls Try.prog 7 #[.int .u64 a0, .slice A1 l1.length c1, .slice A2 l2.length c2] w fun e w' => e = .returned (.bool r) ∧ Below w.heap.size w w' := by
  have HR1 := Aside0.mk hr1
  have HC1 := Aside0.mk hc1
  clear hr1 hc1
  have HR2 := Aside0.mk hr2
  have HC2 := Aside0.mk hc2
  clear hr2 hc2
  have HB := Aside0.mk (Below.refl w.heap.size w)
  have H : ((tallymanlaw4_awake.f k).bind fun t303 => (if t303 = true then (if (l1.length : Int) > 1000 then (tallymanlaw4_NumBack.j0 k a0 l1 l2 true) else (tallymanlaw4_NumBack.j0 k a0 l1 l2 (decide ((l2.length : Int) > 1000)))) else (some false))) = some r := h
  clear h
  replace H := Option.bind_eq_some_iff.mp H
  obtain ⟨t303, A40, H⟩ := H
  replace H : (if t303 = true then (if (l1.length : Int) > 1000 then (tallymanlaw4_NumBack.j0 k a0 l1 l2 true) else (tallymanlaw4_NumBack.j0 k a0 l1 l2 (decide ((l2.length : Int) > 1000)))) else (some false)) = some r := H
  have A4 := Aside0.mk A40
  clear A40
  by_cases c5 : t303 = true
  · subst c5
    have H1 : (if (l1.length : Int) > 1000 then (tallymanlaw4_NumBack.j0 k a0 l1 l2 true) else (tallymanlaw4_NumBack.j0 k a0 l1 l2 (decide ((l2.length : Int) > 1000)))) = some r := by rw [if_pos rfl] at H; exact H
    clear H
    have H := H1
    clear H1
    have HC6 := Aside0.mk H
    clear H
    go_enter Try.func7, Try.ntmps7
    go_upto_region 3 with (first | ((with_reducible refine gate_callee (f := 21) rfl ?_); refine goesL_ (some 22) rfl rfl Try.func21 (by kernel_rfl) rfl #[] rfl (by (try simp only [List.map_toArray, List.map_cons, List.map_nil]); first | done | rfl | (simp only [List.length_drop, List.length_take]; rfl)) ?_; (with_reducible refine (tallymanlaw4_awake.calls k  true _ A4.out).mono ?_); rintro e w7 ⟨rfl, hb⟩; refine ⟨_, rfl, ?_⟩; have n0_ := Aside0.mk (below_step (by repeat (first | (with_reducible first | exact HB.out | apply below_alloc | apply pw_below_drewN | apply below_drew1) | exact HB.out)) hb); clear HB; have HB := n0_; clear n0_; (try clear hb); (try clear hb2); (try clear hk); (try clear hi)))
    (try simp only [Act.put, List.setIfInBounds_toArray, List.set_cons_zero, List.set_cons_succ])
    go_cut [31] (fun v31 wc => ∃ (kq : Nat) (x31_5 : Bool), v31 = .bool x31_5 ∧ Aside0 (tallymanlaw4_NumBack.j0 kq a0 l1 l2 x31_5 = some r) ∧ Aside0 (kq ≤ k) ∧ Aside0 (Below w.heap.size w wc))
    case first =>
      have H := HC6.out
      clear HC6
      by_cases c8 : (l1.length : Int) > 1000
      · rw [if_pos c8] at H
        have c8b0 : decide (1000 < (l1.length : Int)) = true := decide_eq_true c8
        have c8b1 : decide (1000 < l1.length) = true := decide_eq_true (by omega)
        clear c8
        (first | rw [c8b0] | (simp only [i64_w, i32_w]; rw [c8b0]) | skip)
        have H' := Aside0.mk H
        clear H
        go_wp2
        go_meet
        case rel => exact ⟨_, (true), (by first | rfl | (simp; done) | (simp [*]; done)), H', ⟨by first | omega | exact Nat.le_refl _⟩, ⟨by repeat (first | (with_reducible first | exact HB.out | apply below_alloc | apply pw_below_drewN | apply below_drew1) | exact HB.out)⟩⟩
      · rw [if_neg c8] at H
        have c8b0 : decide (1000 < (l1.length : Int)) = false := decide_eq_false c8
        have c8b1 : decide (1000 < l1.length) = false := decide_eq_false (by omega)
        clear c8
        (first | rw [c8b0] | (simp only [i64_w, i32_w]; rw [c8b0]) | skip)
        have H' := Aside0.mk H
        clear H
        go_wp2
        go_meet
        case rel => exact ⟨_, (decide ((l2.length : Int) > 1000)), (by first | rfl | (simp; done) | (simp [*]; done)), H', ⟨by first | omega | exact Nat.le_refl _⟩, ⟨by repeat (first | (with_reducible first | exact HB.out | apply below_alloc | apply pw_below_drewN | apply below_drew1) | exact HB.out)⟩⟩
    case rest =>
      clear HC6
      try clear c1
      try clear c2
      try clear p2
      try clear c5
      try clear c7
      try clear c8
      try clear c8b0
      try clear c8b1
      obtain ⟨kq, x31_5, rfl, HA, HJ5, HB⟩ := hcut
      cases kq with
      | zero => exact absurd HA.out (by simp [tallymanlaw4_NumBack.j0])
      | succ kj5 =>
        have H := HA.out
        clear HA
        simp only [tallymanlaw4_NumBack.j0] at H
        by_cases c9 : x31_5 = true
        · subst c9
          have H1 : (some true) = some r := by rw [if_pos rfl] at H; exact H
          clear H
          have H := H1
          clear H1
          obtain rfl := Option.some.inj H
          go_wp2
          go_ret
          exact ⟨by first | rfl | (simp [errW_none, errW_some] <;> rfl) | (simp [*, errW_none, errW_some] <;> rfl), by repeat (first | (with_reducible first | exact HB.out | apply below_alloc | apply pw_below_drewN | apply below_drew1) | exact HB.out)⟩
        · replace c9 := Bool.eq_false_iff.mpr c9
          subst c9
          have H1 : ((num_Put.f kj5 ([] : List Int) a0).bind fun t304 => ((some (([] : List Int) : List Int)).bind fun y307 => (if y307.length + t304.length < 140737488355328 then ((some (y307 ++ t304 : List Int)).bind fun y310 => (if y310.length + l2.length < 140737488355328 then ((num_Get.f kj5 (y310 ++ l2)).bind fun bt316 => ((num_PutBytes.f kj5 ([] : List Int) l1).bind fun t319 => ((some (([] : List Int) : List Int)).bind fun y322 => (if y322.length + t319.length < 140737488355328 then ((some (y322 ++ t319 : List Int)).bind fun y325 => (if y325.length + l2.length < 140737488355328 then ((num_GetBytes.f kj5 (y325 ++ l2) (l1.length : Int)).bind fun bt331 => (if bt316.2.2 = 0 then (if bt316.1 = a0 then (if bt316.2.1 = (t304.length : Int) then (if bt331.2.2 = 0 then (if bt331.2.1 = (t319.length : Int) then (if (strOfNums bt331.1).toList = (strOfNums l1).toList then ((num_Size.f kj5 a0).bind fun t336 => (if (t304.length : Int) = t336 then ((num_Fold.f (wrap64 (a0))).bind fun t337 => ((num_Open.f t337).bind fun t338 => (tallymanlaw4_NumBack.j1 kj5 l2 t304 (t338 != (wrap64 (a0)))))) else (tallymanlaw4_NumBack.j1 kj5 l2 t304 true))) else (tallymanlaw4_NumBack.j1 kj5 l2 t304 true)) else (tallymanlaw4_NumBack.j1 kj5 l2 t304 true)) else (tallymanlaw4_NumBack.j1 kj5 l2 t304 true)) else (tallymanlaw4_NumBack.j1 kj5 l2 t304 true)) else (tallymanlaw4_NumBack.j1 kj5 l2 t304 true)) else (tallymanlaw4_NumBack.j1 kj5 l2 t304 true))) else (none))) else (none))))) else (none))) else (none)))) = some r := by rw [if_neg (show ¬ (false = true) by decide)] at H; exact H
          clear H
          have H := H1
          clear H1
          replace H := Option.bind_eq_some_iff.mp H
          obtain ⟨t304, A100, H⟩ := H
          replace H : ((some (([] : List Int) : List Int)).bind fun y307 => (if y307.length + t304.length < 140737488355328 then ((some (y307 ++ t304 : List Int)).bind fun y310 => (if y310.length + l2.length < 140737488355328 then ((num_Get.f kj5 (y310 ++ l2)).bind fun bt316 => ((num_PutBytes.f kj5 ([] : List Int) l1).bind fun t319 => ((some (([] : List Int) : List Int)).bind fun y322 => (if y322.length + t319.length < 140737488355328 then ((some (y322 ++ t319 : List Int)).bind fun y325 => (if y325.length + l2.length < 140737488355328 then ((num_GetBytes.f kj5 (y325 ++ l2) (l1.length : Int)).bind fun bt331 => (if bt316.2.2 = 0 then (if bt316.1 = a0 then (if bt316.2.1 = (t304.length : Int) then (if bt331.2.2 = 0 then (if bt331.2.1 = (t319.length : Int) then (if (strOfNums bt331.1).toList = (strOfNums l1).toList then ((num_Size.f kj5 a0).bind fun t336 => (if (t304.length : Int) = t336 then ((num_Fold.f (wrap64 (a0))).bind fun t337 => ((num_Open.f t337).bind fun t338 => (tallymanlaw4_NumBack.j1 kj5 l2 t304 (t338 != (wrap64 (a0)))))) else (tallymanlaw4_NumBack.j1 kj5 l2 t304 true))) else (tallymanlaw4_NumBack.j1 kj5 l2 t304 true)) else (tallymanlaw4_NumBack.j1 kj5 l2 t304 true)) else (tallymanlaw4_NumBack.j1 kj5 l2 t304 true)) else (tallymanlaw4_NumBack.j1 kj5 l2 t304 true)) else (tallymanlaw4_NumBack.j1 kj5 l2 t304 true)) else (tallymanlaw4_NumBack.j1 kj5 l2 t304 true))) else (none))) else (none))))) else (none))) else (none))) = some r := H
          have A10 := Aside0.mk A100
          clear A100
          obtain ⟨y307, hy307⟩ : ∃ y_ : List Int, y_ = (([] : List Int)) := ⟨_, rfl⟩
          replace H : (if y307.length + t304.length < 140737488355328 then ((some (y307 ++ t304 : List Int)).bind fun y310 => (if y310.length + l2.length < 140737488355328 then ((num_Get.f kj5 (y310 ++ l2)).bind fun bt316 => ((num_PutBytes.f kj5 ([] : List Int) l1).bind fun t319 => ((some (([] : List Int) : List Int)).bind fun y322 => (if y322.length + t319.length < 140737488355328 then ((some (y322 ++ t319 : List Int)).bind fun y325 => (if y325.length + l2.length < 140737488355328 then ((num_GetBytes.f kj5 (y325 ++ l2) (l1.length : Int)).bind fun bt331 => (if bt316.2.2 = 0 then (if bt316.1 = a0 then (if bt316.2.1 = (t304.length : Int) then (if bt331.2.2 = 0 then (if bt331.2.1 = (t319.length : Int) then (if (strOfNums bt331.1).toList = (strOfNums l1).toList then ((num_Size.f kj5 a0).bind fun t336 => (if (t304.length : Int) = t336 then ((num_Fold.f (wrap64 (a0))).bind fun t337 => ((num_Open.f t337).bind fun t338 => (tallymanlaw4_NumBack.j1 kj5 l2 t304 (t338 != (wrap64 (a0)))))) else (tallymanlaw4_NumBack.j1 kj5 l2 t304 true))) else (tallymanlaw4_NumBack.j1 kj5 l2 t304 true)) else (tallymanlaw4_NumBack.j1 kj5 l2 t304 true)) else (tallymanlaw4_NumBack.j1 kj5 l2 t304 true)) else (tallymanlaw4_NumBack.j1 kj5 l2 t304 true)) else (tallymanlaw4_NumBack.j1 kj5 l2 t304 true)) else (tallymanlaw4_NumBack.j1 kj5 l2 t304 true))) else (none))) else (none))))) else (none))) else (none)) = some r := by first | (rw [hy307]; with_reducible exact H) | (have H2_ := (Option.bind_some _ _).symm.trans H; rw [hy307]; with_reducible exact H2_) | (have H2_ := (Option.bind_some _ _).symm.trans H; with_reducible exact H2_) | with_reducible exact H | (rw [hy307]; exact H) | exact H
          have Ny307 := Aside0.mk hy307
          clear hy307
          by_cases c11 : y307.length + t304.length < 140737488355328
          · rw [if_pos c11] at H
            have LMc11 := Aside0.mk c11
            clear c11
            obtain ⟨y310, hy310⟩ : ∃ y_ : List Int, y_ = (y307 ++ t304) := ⟨_, rfl⟩
            replace H : (if y310.length + l2.length < 140737488355328 then ((num_Get.f kj5 (y310 ++ l2)).bind fun bt316 => ((num_PutBytes.f kj5 ([] : List Int) l1).bind fun t319 => ((some (([] : List Int) : List Int)).bind fun y322 => (if y322.length + t319.length < 140737488355328 then ((some (y322 ++ t319 : List Int)).bind fun y325 => (if y325.length + l2.length < 140737488355328 then ((num_GetBytes.f kj5 (y325 ++ l2) (l1.length : Int)).bind fun bt331 => (if bt316.2.2 = 0 then (if bt316.1 = a0 then (if bt316.2.1 = (t304.length : Int) then (if bt331.2.2 = 0 then (if bt331.2.1 = (t319.length : Int) then (if (strOfNums bt331.1).toList = (strOfNums l1).toList then ((num_Size.f kj5 a0).bind fun t336 => (if (t304.length : Int) = t336 then ((num_Fold.f (wrap64 (a0))).bind fun t337 => ((num_Open.f t337).bind fun t338 => (tallymanlaw4_NumBack.j1 kj5 l2 t304 (t338 != (wrap64 (a0)))))) else (tallymanlaw4_NumBack.j1 kj5 l2 t304 true))) else (tallymanlaw4_NumBack.j1 kj5 l2 t304 true)) else (tallymanlaw4_NumBack.j1 kj5 l2 t304 true)) else (tallymanlaw4_NumBack.j1 kj5 l2 t304 true)) else (tallymanlaw4_NumBack.j1 kj5 l2 t304 true)) else (tallymanlaw4_NumBack.j1 kj5 l2 t304 true)) else (tallymanlaw4_NumBack.j1 kj5 l2 t304 true))) else (none))) else (none))))) else (none)) = some r := by first | (rw [hy310]; with_reducible exact H) | (have H2_ := (Option.bind_some _ _).symm.trans H; rw [hy310]; with_reducible exact H2_) | (have H2_ := (Option.bind_some _ _).symm.trans H; with_reducible exact H2_) | with_reducible exact H | (rw [hy310]; exact H) | exact H
            have Ny310 := Aside0.mk hy310
            clear hy310
            by_cases c12 : y310.length + l2.length < 140737488355328
            · rw [if_pos c12] at H
              have LMc12 := Aside0.mk c12
              clear c12
              obtain ⟨y313, hy313⟩ : ∃ y_ : List Int, y_ = (y310 ++ l2) := ⟨_, rfl⟩
              replace H : ((num_Get.f kj5 y313).bind fun bt316 => ((num_PutBytes.f kj5 ([] : List Int) l1).bind fun t319 => ((some (([] : List Int) : List Int)).bind fun y322 => (if y322.length + t319.length < 140737488355328 then ((some (y322 ++ t319 : List Int)).bind fun y325 => (if y325.length + l2.length < 140737488355328 then ((num_GetBytes.f kj5 (y325 ++ l2) (l1.length : Int)).bind fun bt331 => (if bt316.2.2 = 0 then (if bt316.1 = a0 then (if bt316.2.1 = (t304.length : Int) then (if bt331.2.2 = 0 then (if bt331.2.1 = (t319.length : Int) then (if (strOfNums bt331.1).toList = (strOfNums l1).toList then ((num_Size.f kj5 a0).bind fun t336 => (if (t304.length : Int) = t336 then ((num_Fold.f (wrap64 (a0))).bind fun t337 => ((num_Open.f t337).bind fun t338 => (tallymanlaw4_NumBack.j1 kj5 l2 t304 (t338 != (wrap64 (a0)))))) else (tallymanlaw4_NumBack.j1 kj5 l2 t304 true))) else (tallymanlaw4_NumBack.j1 kj5 l2 t304 true)) else (tallymanlaw4_NumBack.j1 kj5 l2 t304 true)) else (tallymanlaw4_NumBack.j1 kj5 l2 t304 true)) else (tallymanlaw4_NumBack.j1 kj5 l2 t304 true)) else (tallymanlaw4_NumBack.j1 kj5 l2 t304 true)) else (tallymanlaw4_NumBack.j1 kj5 l2 t304 true))) else (none))) else (none))))) = some r := by first | (rw [hy313]; with_reducible exact H) | (have H2_ := (Option.bind_some _ _).symm.trans H; rw [hy313]; with_reducible exact H2_) | (have H2_ := (Option.bind_some _ _).symm.trans H; with_reducible exact H2_) | with_reducible exact H | (rw [hy313]; exact H) | exact H
              have Ny313 := Aside0.mk hy313
              clear hy313
              replace H := Option.bind_eq_some_iff.mp H
              obtain ⟨⟨t316, t317, t318⟩, A130, H⟩ := H
              replace H : ((num_PutBytes.f kj5 ([] : List Int) l1).bind fun t319 => ((some (([] : List Int) : List Int)).bind fun y322 => (if y322.length + t319.length < 140737488355328 then ((some (y322 ++ t319 : List Int)).bind fun y325 => (if y325.length + l2.length < 140737488355328 then ((num_GetBytes.f kj5 (y325 ++ l2) (l1.length : Int)).bind fun bt331 => (if t318 = 0 then (if t316 = a0 then (if t317 = (t304.length : Int) then (if bt331.2.2 = 0 then (if bt331.2.1 = (t319.length : Int) then (if (strOfNums bt331.1).toList = (strOfNums l1).toList then ((num_Size.f kj5 a0).bind fun t336 => (if (t304.length : Int) = t336 then ((num_Fold.f (wrap64 (a0))).bind fun t337 => ((num_Open.f t337).bind fun t338 => (tallymanlaw4_NumBack.j1 kj5 l2 t304 (t338 != (wrap64 (a0)))))) else (tallymanlaw4_NumBack.j1 kj5 l2 t304 true))) else (tallymanlaw4_NumBack.j1 kj5 l2 t304 true)) else (tallymanlaw4_NumBack.j1 kj5 l2 t304 true)) else (tallymanlaw4_NumBack.j1 kj5 l2 t304 true)) else (tallymanlaw4_NumBack.j1 kj5 l2 t304 true)) else (tallymanlaw4_NumBack.j1 kj5 l2 t304 true)) else (tallymanlaw4_NumBack.j1 kj5 l2 t304 true))) else (none))) else (none)))) = some r := H
              have A13 := Aside0.mk A130
              clear A130
              replace H := Option.bind_eq_some_iff.mp H
              obtain ⟨t319, A140, H⟩ := H
              replace H : ((some (([] : List Int) : List Int)).bind fun y322 => (if y322.length + t319.length < 140737488355328 then ((some (y322 ++ t319 : List Int)).bind fun y325 => (if y325.length + l2.length < 140737488355328 then ((num_GetBytes.f kj5 (y325 ++ l2) (l1.length : Int)).bind fun bt331 => (if t318 = 0 then (if t316 = a0 then (if t317 = (t304.length : Int) then (if bt331.2.2 = 0 then (if bt331.2.1 = (t319.length : Int) then (if (strOfNums bt331.1).toList = (strOfNums l1).toList then ((num_Size.f kj5 a0).bind fun t336 => (if (t304.length : Int) = t336 then ((num_Fold.f (wrap64 (a0))).bind fun t337 => ((num_Open.f t337).bind fun t338 => (tallymanlaw4_NumBack.j1 kj5 l2 t304 (t338 != (wrap64 (a0)))))) else (tallymanlaw4_NumBack.j1 kj5 l2 t304 true))) else (tallymanlaw4_NumBack.j1 kj5 l2 t304 true)) else (tallymanlaw4_NumBack.j1 kj5 l2 t304 true)) else (tallymanlaw4_NumBack.j1 kj5 l2 t304 true)) else (tallymanlaw4_NumBack.j1 kj5 l2 t304 true)) else (tallymanlaw4_NumBack.j1 kj5 l2 t304 true)) else (tallymanlaw4_NumBack.j1 kj5 l2 t304 true))) else (none))) else (none))) = some r := H
              have A14 := Aside0.mk A140
              clear A140
              obtain ⟨y322, hy322⟩ : ∃ y_ : List Int, y_ = (([] : List Int)) := ⟨_, rfl⟩
              replace H : (if y322.length + t319.length < 140737488355328 then ((some (y322 ++ t319 : List Int)).bind fun y325 => (if y325.length + l2.length < 140737488355328 then ((num_GetBytes.f kj5 (y325 ++ l2) (l1.length : Int)).bind fun bt331 => (if t318 = 0 then (if t316 = a0 then (if t317 = (t304.length : Int) then (if bt331.2.2 = 0 then (if bt331.2.1 = (t319.length : Int) then (if (strOfNums bt331.1).toList = (strOfNums l1).toList then ((num_Size.f kj5 a0).bind fun t336 => (if (t304.length : Int) = t336 then ((num_Fold.f (wrap64 (a0))).bind fun t337 => ((num_Open.f t337).bind fun t338 => (tallymanlaw4_NumBack.j1 kj5 l2 t304 (t338 != (wrap64 (a0)))))) else (tallymanlaw4_NumBack.j1 kj5 l2 t304 true))) else (tallymanlaw4_NumBack.j1 kj5 l2 t304 true)) else (tallymanlaw4_NumBack.j1 kj5 l2 t304 true)) else (tallymanlaw4_NumBack.j1 kj5 l2 t304 true)) else (tallymanlaw4_NumBack.j1 kj5 l2 t304 true)) else (tallymanlaw4_NumBack.j1 kj5 l2 t304 true)) else (tallymanlaw4_NumBack.j1 kj5 l2 t304 true))) else (none))) else (none)) = some r := by first | (rw [hy322]; with_reducible exact H) | (have H2_ := (Option.bind_some _ _).symm.trans H; rw [hy322]; with_reducible exact H2_) | (have H2_ := (Option.bind_some _ _).symm.trans H; with_reducible exact H2_) | with_reducible exact H | (rw [hy322]; exact H) | exact H
              have Ny322 := Aside0.mk hy322
              clear hy322
              by_cases c15 : y322.length + t319.length < 140737488355328
              · rw [if_pos c15] at H
                have LMc15 := Aside0.mk c15
                clear c15
                obtain ⟨y325, hy325⟩ : ∃ y_ : List Int, y_ = (y322 ++ t319) := ⟨_, rfl⟩
                replace H : (if y325.length + l2.length < 140737488355328 then ((num_GetBytes.f kj5 (y325 ++ l2) (l1.length : Int)).bind fun bt331 => (if t318 = 0 then (if t316 = a0 then (if t317 = (t304.length : Int) then (if bt331.2.2 = 0 then (if bt331.2.1 = (t319.length : Int) then (if (strOfNums bt331.1).toList = (strOfNums l1).toList then ((num_Size.f kj5 a0).bind fun t336 => (if (t304.length : Int) = t336 then ((num_Fold.f (wrap64 (a0))).bind fun t337 => ((num_Open.f t337).bind fun t338 => (tallymanlaw4_NumBack.j1 kj5 l2 t304 (t338 != (wrap64 (a0)))))) else (tallymanlaw4_NumBack.j1 kj5 l2 t304 true))) else (tallymanlaw4_NumBack.j1 kj5 l2 t304 true)) else (tallymanlaw4_NumBack.j1 kj5 l2 t304 true)) else (tallymanlaw4_NumBack.j1 kj5 l2 t304 true)) else (tallymanlaw4_NumBack.j1 kj5 l2 t304 true)) else (tallymanlaw4_NumBack.j1 kj5 l2 t304 true)) else (tallymanlaw4_NumBack.j1 kj5 l2 t304 true))) else (none)) = some r := by first | (rw [hy325]; with_reducible exact H) | (have H2_ := (Option.bind_some _ _).symm.trans H; rw [hy325]; with_reducible exact H2_) | (have H2_ := (Option.bind_some _ _).symm.trans H; with_reducible exact H2_) | with_reducible exact H | (rw [hy325]; exact H) | exact H
                have Ny325 := Aside0.mk hy325
                clear hy325
                by_cases c16 : y325.length + l2.length < 140737488355328
                · rw [if_pos c16] at H
                  have LMc16 := Aside0.mk c16
                  clear c16
                  obtain ⟨y328, hy328⟩ : ∃ y_ : List Int, y_ = (y325 ++ l2) := ⟨_, rfl⟩
                  replace H : ((num_GetBytes.f kj5 y328 (l1.length : Int)).bind fun bt331 => (if t318 = 0 then (if t316 = a0 then (if t317 = (t304.length : Int) then (if bt331.2.2 = 0 then (if bt331.2.1 = (t319.length : Int) then (if (strOfNums bt331.1).toList = (strOfNums l1).toList then ((num_Size.f kj5 a0).bind fun t336 => (if (t304.length : Int) = t336 then ((num_Fold.f (wrap64 (a0))).bind fun t337 => ((num_Open.f t337).bind fun t338 => (tallymanlaw4_NumBack.j1 kj5 l2 t304 (t338 != (wrap64 (a0)))))) else (tallymanlaw4_NumBack.j1 kj5 l2 t304 true))) else (tallymanlaw4_NumBack.j1 kj5 l2 t304 true)) else (tallymanlaw4_NumBack.j1 kj5 l2 t304 true)) else (tallymanlaw4_NumBack.j1 kj5 l2 t304 true)) else (tallymanlaw4_NumBack.j1 kj5 l2 t304 true)) else (tallymanlaw4_NumBack.j1 kj5 l2 t304 true)) else (tallymanlaw4_NumBack.j1 kj5 l2 t304 true))) = some r := by first | (rw [hy328]; with_reducible exact H) | (have H2_ := (Option.bind_some _ _).symm.trans H; rw [hy328]; with_reducible exact H2_) | (have H2_ := (Option.bind_some _ _).symm.trans H; with_reducible exact H2_) | with_reducible exact H | (rw [hy328]; exact H) | exact H
                  have Ny328 := Aside0.mk hy328
                  clear hy328
                  replace H := Option.bind_eq_some_iff.mp H
                  obtain ⟨⟨t331, t332, t333⟩, A170, H⟩ := H
                  replace H : (if t318 = 0 then (if t316 = a0 then (if t317 = (t304.length : Int) then (if t333 = 0 then (if t332 = (t319.length : Int) then (if (strOfNums t331).toList = (strOfNums l1).toList then ((num_Size.f kj5 a0).bind fun t336 => (if (t304.length : Int) = t336 then ((num_Fold.f (wrap64 (a0))).bind fun t337 => ((num_Open.f t337).bind fun t338 => (tallymanlaw4_NumBack.j1 kj5 l2 t304 (t338 != (wrap64 (a0)))))) else (tallymanlaw4_NumBack.j1 kj5 l2 t304 true))) else (tallymanlaw4_NumBack.j1 kj5 l2 t304 true)) else (tallymanlaw4_NumBack.j1 kj5 l2 t304 true)) else (tallymanlaw4_NumBack.j1 kj5 l2 t304 true)) else (tallymanlaw4_NumBack.j1 kj5 l2 t304 true)) else (tallymanlaw4_NumBack.j1 kj5 l2 t304 true)) else (tallymanlaw4_NumBack.j1 kj5 l2 t304 true)) = some r := H
                  have A17 := Aside0.mk A170
                  clear A170
                  have HC18 := Aside0.mk H
                  clear H
                  go_upto_region 9 with (first | ((with_reducible refine gate_callee (f := 22) rfl ?_); refine goesL_ (some 33) rfl rfl Try.func22 (by kernel_rfl) rfl #[.slice none 0 0, .int .u64 a0] rfl (by (try simp only [List.map_toArray, List.map_cons, List.map_nil]); first | done | rfl | (simp only [List.length_drop, List.length_take]; rfl)) ?_; (refine (num_Put.calls kj5 _ _ ([] : List Int) a0 t304 _ ?side1 ?side2 A10.out).mono ?_); (case side1 => exact Kd.C_nil _ _); (case side2 => exact Nat.le_refl _); rintro e w19 ⟨v305, rfl, ho0, hb⟩; refine ⟨_, rfl, ?_⟩; have n0_ := Aside0.mk (Kd.R_lower ho0 (below_size (by repeat (first | (with_reducible first | exact HB.out | apply below_alloc | apply pw_below_drewN | apply below_drew1) | exact HB.out)))); have n1_ := Aside0.mk (below_step (by repeat (first | (with_reducible first | exact HB.out | apply below_alloc | apply pw_below_drewN | apply below_drew1) | exact HB.out)) hb); clear HB; have HO306 := n0_; have HB := n1_; clear n0_ n1_; (try clear hb); (try clear hb2); (try clear hk); (try clear hi); (try clear ho0)) | ((with_reducible refine gate_dst (N := 35) rfl ?_); (try (refine gate_guard (by rfl) ?_; dsimp only)); refine Kd.R_lit (Kd.int .u8) _ 5 ?hg (N := 35) ?hd (xs := ([] : List Int)) (inner := []) (ok := fun _ => True) (okp := fun _ => True) ?hr ?hp (fun _ hk => hk) trivial (Below.refl _ _) (Nat.le_refl _) (by simp) ?_; (case hd => rfl); (case hg => rfl); (case hr => first | (go_simp; done) | (go_simp; rfl)); (case hp => exact (Reps.none _ _)); intro v308 w20 ho21 hb hg_ hnew_; clear hg_ hnew_; (first | rw [← Ny307.out] at ho21 | (simp only [Int.reduceToNat] at ho21; rw [← Ny307.out] at ho21)); have n0_ := Aside0.mk (Kd.R_elder' (by (with_reducible repeat (first | apply Kd.R_alloc | apply Kd.R_drewN | apply Kd.R_drew)); exact HO306.out) (Kd.R_base ho21) hb); have n1_ := Aside0.mk (Kd.R_lower (Kd.R_new' ho21 (Kd.R_lt (by (with_reducible repeat (first | apply Kd.R_alloc | apply Kd.R_drewN | apply Kd.R_drew)); exact HO306.out))) (below_size (by repeat (first | (with_reducible first | exact HB.out | apply below_alloc | apply pw_below_drewN | apply below_drew1) | exact HB.out)))); have n2_ := Aside0.mk (below_step (by repeat (first | (with_reducible first | exact HB.out | apply below_alloc | apply pw_below_drewN | apply below_drew1) | exact HB.out)) hb); clear HO306; clear HB; have HO306 := n0_; have HO309 := n1_; have HB := n2_; clear n0_ n1_ n2_; clear hb ho21; obtain ⟨Ao23, co23, eo23⟩ := Kd.R_slice HO306.out; subst eo23) | ((with_reducible refine gate_builtin (b := .append) (xs := #[.tmp 35, .tmp 36]) rfl ?_); (try (refine gate_guard (by rfl) ?_; dsimp only)); at_builtin; refine Kd.R_append_rows (Kd.int .u8) (w0 := w) w.heap.size rfl (.tmp 35) (.tmp 36) 24 5 (.int .u8 0) 1 rfl Try.underlying24 info5 rfl (by decide) (by omega) v308 y307 t304 _ _ _ (fun k_ => some k_ ≠ (.slice Ao23 t304.length co23 : Value).ownBlock) (fun _ => False) rfl rfl ?aO ?aR (fun _ _ h => h) (fun _ h => h.elim) ?aF ?aB ?aS ?aL ?_; (case aR => repeat (first | exact (Kd.R_reads' HO306.out).2.2 | (with_reducible refine Kd.C_alloc ?_ _) | (with_reducible refine Kd.C_drewN ?_ _) | (with_reducible refine Kd.C_drew ?_))); (case aB => exact (by repeat (first | (with_reducible first | exact HB.out | apply below_alloc | apply pw_below_drewN | apply below_drew1) | exact HB.out))); (case aF => exact (fun k_ hk => Kd.fresh' (Kd.R_lt (by (with_reducible repeat (first | apply Kd.R_alloc | apply Kd.R_drewN | apply Kd.R_drew)); exact HO306.out)) k_ hk)); (case aO => exact (by (with_reducible repeat (first | apply Kd.R_alloc | apply Kd.R_drewN | apply Kd.R_drew)); exact Kd.R_mono HO309.out (fun _ hk => hk.2))); (case aS => exact (below_size (by repeat (first | (with_reducible first | exact HB.out | apply below_alloc | apply pw_below_drewN | apply below_drew1) | exact HB.out)))); (case aL => have := LMc11.out; omega); intro v311 w22 ho hb hg hat; rw [← Ny310.out] at ho; have n0_ := Aside0.mk (Kd.R_after (ok := (fun _ => True)) (by (with_reducible repeat (first | apply Kd.R_alloc | apply Kd.R_drewN | apply Kd.R_drew)); exact HO306.out) hg hat); have n1_ := Aside0.mk (hb); have n2_ := Aside0.mk (ho); clear HO306; clear HB; clear HO309; have HO306 := n0_; have HB := n1_; have HO312 := n2_; clear n0_ n1_ n2_; clear ho hb hg hat) | ((with_reducible refine gate_builtin (b := .append) (xs := #[.tmp 37, .tmp 38]) rfl ?_); (try (refine gate_guard (by rfl) ?_; dsimp only)); at_builtin; refine Kd.R_append_rows (Kd.int .u8) (w0 := w) w.heap.size rfl (.tmp 37) (.tmp 38) 24 5 (.int .u8 0) 1 rfl Try.underlying24 info5 rfl (by decide) (by omega) v311 y310 l2 _ _ _ (fun k_ => some k_ ≠ (.slice Ao23 t304.length co23 : Value).ownBlock) (fun _ => False) rfl rfl ?aO ?aR (fun _ _ h => h) (fun _ h => h.elim) ?aF ?aB ?aS ?aL ?_; (case aR => repeat (first | exact (Kd.C_below HR2.out HB.out) | (with_reducible refine Kd.C_alloc ?_ _) | (with_reducible refine Kd.C_drewN ?_ _) | (with_reducible refine Kd.C_drew ?_))); (case aB => exact (by repeat (first | (with_reducible first | exact HB.out | apply below_alloc | apply pw_below_drewN | apply below_drew1) | exact HB.out))); (case aF => exact (fun k_ hk => Kd.fresh' (Kd.R_lt (by (with_reducible repeat (first | apply Kd.R_alloc | apply Kd.R_drewN | apply Kd.R_drew)); exact HO306.out)) k_ hk)); (case aO => exact (by (with_reducible repeat (first | apply Kd.R_alloc | apply Kd.R_drewN | apply Kd.R_drew)); exact HO312.out)); (case aS => exact (below_size (by repeat (first | (with_reducible first | exact HB.out | apply below_alloc | apply pw_below_drewN | apply below_drew1) | exact HB.out)))); (case aL => have := LMc12.out; omega); intro v314 w24 ho hb hg hat; rw [← Ny313.out] at ho; have n0_ := Aside0.mk (Kd.R_after (ok := (fun _ => True)) (by (with_reducible repeat (first | apply Kd.R_alloc | apply Kd.R_drewN | apply Kd.R_drew)); exact HO306.out) hg hat); have n1_ := Aside0.mk (hb); have n2_ := Aside0.mk (ho); clear HO306; clear HB; clear HO312; have HO306 := n0_; have HB := n1_; have HO315 := n2_; clear n0_ n1_ n2_; clear ho hb hg hat; obtain ⟨Ao25, co25, eo25⟩ := Kd.R_slice HO315.out; subst eo25) | ((with_reducible refine gate_callee (f := 24) rfl ?_); refine goesL_ (some 40) rfl rfl Try.func24 (by kernel_rfl) rfl #[.slice Ao25 y313.length co25] rfl (by (try simp only [List.map_toArray, List.map_cons, List.map_nil]); first | done | rfl | (simp only [List.length_drop, List.length_take]; rfl)) ?_; (with_reducible refine (num_Get.calls kj5 _ _ y313 t316 t317 t318 _ ?side1 ?side2 A13.out).mono ?_); (case side1 => repeat (first | exact (Kd.R_reads' HO315.out).2.2 | (with_reducible refine Kd.C_alloc ?_ _) | (with_reducible refine Kd.C_drewN ?_ _) | (with_reducible refine Kd.C_drew ?_))); (case side2 => exact (Kd.R_reads' HO315.out).2.1); rintro e w' ⟨rfl, ⟨nd, rfl⟩⟩; refine ⟨_, rfl, ?_⟩) | ((with_reducible refine gate_callee (f := 31) rfl ?_); refine goesL_ (some 45) rfl rfl Try.func31 (by kernel_rfl) rfl #[.slice none 0 0, .slice A1 l1.length c1] rfl (by (try simp only [List.map_toArray, List.map_cons, List.map_nil]); first | done | rfl | (simp only [List.length_drop, List.length_take]; rfl)) ?_; (refine (num_PutBytes.calls kj5 _ _ ([] : List Int) _ _ l1 t319 _ ?side1 ?side2 ?side3 ?side4 A14.out).mono ?_); (case side1 => exact Kd.C_nil _ _); (case side2 => exact Nat.le_refl _); (case side3 => repeat (first | exact (Kd.C_below HR1.out (by repeat (first | (with_reducible first | exact HB.out | apply below_alloc | apply pw_below_drewN | apply below_drew1) | exact HB.out))) | (with_reducible refine Kd.C_alloc ?_ _) | (with_reducible refine Kd.C_drewN ?_ _) | (with_reducible refine Kd.C_drew ?_))); (case side4 => exact HC1.out); rintro e w26 ⟨v320, rfl, ho0, hb⟩; refine ⟨_, rfl, ?_⟩; have n0_ := Aside0.mk (Kd.R_elder' (by (with_reducible repeat (first | apply Kd.R_alloc | apply Kd.R_drewN | apply Kd.R_drew)); exact HO306.out) (Kd.R_base ho0) hb); have n1_ := Aside0.mk (Kd.R_elder' (by (with_reducible repeat (first | apply Kd.R_alloc | apply Kd.R_drewN | apply Kd.R_drew)); exact HO315.out) (Kd.R_base ho0) hb); have n2_ := Aside0.mk (Kd.R_lower (Kd.R_new' (Kd.R_new' ho0 (Kd.R_lt (by (with_reducible repeat (first | apply Kd.R_alloc | apply Kd.R_drewN | apply Kd.R_drew)); exact HO306.out))) (Kd.R_lt (by (with_reducible repeat (first | apply Kd.R_alloc | apply Kd.R_drewN | apply Kd.R_drew)); exact HO315.out))) (below_size (by repeat (first | (with_reducible first | exact HB.out | apply below_alloc | apply pw_below_drewN | apply below_drew1) | exact HB.out)))); have n3_ := Aside0.mk (below_step (by repeat (first | (with_reducible first | exact HB.out | apply below_alloc | apply pw_below_drewN | apply below_drew1) | exact HB.out)) hb); clear HO306; clear HO315; clear HB; have HO306 := n0_; have HO315 := n1_; have HO321 := n2_; have HB := n3_; clear n0_ n1_ n2_ n3_; (try clear hb); (try clear hb2); (try clear hk); (try clear hi); (try clear ho0)) | ((with_reducible refine gate_dst (N := 47) rfl ?_); (try (refine gate_guard (by rfl) ?_; dsimp only)); refine Kd.R_lit (Kd.int .u8) _ 5 ?hg (N := 47) ?hd (xs := ([] : List Int)) (inner := []) (ok := fun _ => True) (okp := fun _ => True) ?hr ?hp (fun _ hk => hk) trivial (Below.refl _ _) (Nat.le_refl _) (by simp) ?_; (case hd => rfl); (case hg => rfl); (case hr => first | (go_simp; done) | (go_simp; rfl)); (case hp => exact (Reps.none _ _)); intro v323 w27 ho28 hb hg_ hnew_; clear hg_ hnew_; (first | rw [← Ny322.out] at ho28 | (simp only [Int.reduceToNat] at ho28; rw [← Ny322.out] at ho28)); have n0_ := Aside0.mk (Kd.R_elder' (by (with_reducible repeat (first | apply Kd.R_alloc | apply Kd.R_drewN | apply Kd.R_drew)); exact HO306.out) (Kd.R_base ho28) hb); have n1_ := Aside0.mk (Kd.R_elder' (by (with_reducible repeat (first | apply Kd.R_alloc | apply Kd.R_drewN | apply Kd.R_drew)); exact HO315.out) (Kd.R_base ho28) hb); have n2_ := Aside0.mk (Kd.R_elder' (by (with_reducible repeat (first | apply Kd.R_alloc | apply Kd.R_drewN | apply Kd.R_drew)); exact HO321.out) (Kd.R_base ho28) hb); have n3_ := Aside0.mk (Kd.R_lower (Kd.R_new' (Kd.R_new' (Kd.R_new' ho28 (Kd.R_lt (by (with_reducible repeat (first | apply Kd.R_alloc | apply Kd.R_drewN | apply Kd.R_drew)); exact HO306.out))) (Kd.R_lt (by (with_reducible repeat (first | apply Kd.R_alloc | apply Kd.R_drewN | apply Kd.R_drew)); exact HO315.out))) (Kd.R_lt (by (with_reducible repeat (first | apply Kd.R_alloc | apply Kd.R_drewN | apply Kd.R_drew)); exact HO321.out))) (below_size (by repeat (first | (with_reducible first | exact HB.out | apply below_alloc | apply pw_below_drewN | apply below_drew1) | exact HB.out)))); have n4_ := Aside0.mk (below_step (by repeat (first | (with_reducible first | exact HB.out | apply below_alloc | apply pw_below_drewN | apply below_drew1) | exact HB.out)) hb); clear HO306; clear HO315; clear HO321; clear HB; have HO306 := n0_; have HO315 := n1_; have HO321 := n2_; have HO324 := n3_; have HB := n4_; clear n0_ n1_ n2_ n3_ n4_; clear hb ho28; obtain ⟨Ao30, co30, eo30⟩ := Kd.R_slice HO321.out; subst eo30) | ((with_reducible refine gate_builtin (b := .append) (xs := #[.tmp 47, .tmp 48]) rfl ?_); (try (refine gate_guard (by rfl) ?_; dsimp only)); at_builtin; refine Kd.R_append_rows (Kd.int .u8) (w0 := w) w.heap.size rfl (.tmp 47) (.tmp 48) 24 5 (.int .u8 0) 1 rfl Try.underlying24 info5 rfl (by decide) (by omega) v323 y322 t319 _ _ _ (fun k_ => some k_ ≠ (.slice Ao23 t304.length co23 : Value).ownBlock ∧ some k_ ≠ (.slice Ao25 y313.length co25 : Value).ownBlock ∧ some k_ ≠ (.slice Ao30 t319.length co30 : Value).ownBlock) (fun _ => False) rfl rfl ?aO ?aR (fun _ _ h => h) (fun _ h => h.elim) ?aF ?aB ?aS ?aL ?_; (case aR => repeat (first | exact (Kd.R_reads' HO321.out).2.2 | (with_reducible refine Kd.C_alloc ?_ _) | (with_reducible refine Kd.C_drewN ?_ _) | (with_reducible refine Kd.C_drew ?_))); (case aB => exact (by repeat (first | (with_reducible first | exact HB.out | apply below_alloc | apply pw_below_drewN | apply below_drew1) | exact HB.out))); (case aF => exact (fun k_ hk => ⟨Kd.fresh' (Kd.R_lt (by (with_reducible repeat (first | apply Kd.R_alloc | apply Kd.R_drewN | apply Kd.R_drew)); exact HO306.out)) k_ hk, Kd.fresh' (Kd.R_lt (by (with_reducible repeat (first | apply Kd.R_alloc | apply Kd.R_drewN | apply Kd.R_drew)); exact HO315.out)) k_ hk, Kd.fresh' (Kd.R_lt (by (with_reducible repeat (first | apply Kd.R_alloc | apply Kd.R_drewN | apply Kd.R_drew)); exact HO321.out)) k_ hk⟩)); (case aO => exact (by (with_reducible repeat (first | apply Kd.R_alloc | apply Kd.R_drewN | apply Kd.R_drew)); exact Kd.R_mono HO324.out (fun _ hk => ⟨hk.1.1.2, ⟨hk.1.2, hk.2⟩⟩))); (case aS => exact (below_size (by repeat (first | (with_reducible first | exact HB.out | apply below_alloc | apply pw_below_drewN | apply below_drew1) | exact HB.out)))); (case aL => have := LMc15.out; omega); intro v326 w29 ho hb hg hat; rw [← Ny325.out] at ho; have n0_ := Aside0.mk (Kd.R_after (ok := (fun k_ => some k_ ≠ (.slice Ao25 y313.length co25 : Value).ownBlock ∧ some k_ ≠ (.slice Ao30 t319.length co30 : Value).ownBlock)) (by (with_reducible repeat (first | apply Kd.R_alloc | apply Kd.R_drewN | apply Kd.R_drew)); exact Kd.R_mono HO306.out (fun _ hk => ⟨⟨hk.1.1.2, hk.1.2⟩, hk.2⟩)) hg hat); have n1_ := Aside0.mk (Kd.R_after (ok := (fun k_ => some k_ ≠ (.slice Ao23 t304.length co23 : Value).ownBlock ∧ some k_ ≠ (.slice Ao30 t319.length co30 : Value).ownBlock)) (by (with_reducible repeat (first | apply Kd.R_alloc | apply Kd.R_drewN | apply Kd.R_drew)); exact HO315.out) hg hat); have n2_ := Aside0.mk (Kd.R_after (ok := (fun k_ => some k_ ≠ (.slice Ao23 t304.length co23 : Value).ownBlock ∧ some k_ ≠ (.slice Ao25 y313.length co25 : Value).ownBlock)) (by (with_reducible repeat (first | apply Kd.R_alloc | apply Kd.R_drewN | apply Kd.R_drew)); exact Kd.R_mono HO321.out (fun _ hk => ⟨⟨hk.1.1.2, hk.1.2⟩, hk.2⟩)) hg hat); have n3_ := Aside0.mk (hb); have n4_ := Aside0.mk (ho); clear HO306; clear HO315; clear HO321; clear HB; clear HO324; have HO306 := n0_; have HO315 := n1_; have HO321 := n2_; have HB := n3_; have HO327 := n4_; clear n0_ n1_ n2_ n3_ n4_; clear ho hb hg hat) | ((with_reducible refine gate_builtin (b := .append) (xs := #[.tmp 49, .tmp 50]) rfl ?_); (try (refine gate_guard (by rfl) ?_; dsimp only)); at_builtin; refine Kd.R_append_rows (Kd.int .u8) (w0 := w) w.heap.size rfl (.tmp 49) (.tmp 50) 24 5 (.int .u8 0) 1 rfl Try.underlying24 info5 rfl (by decide) (by omega) v326 y325 l2 _ _ _ (fun k_ => some k_ ≠ (.slice Ao23 t304.length co23 : Value).ownBlock ∧ some k_ ≠ (.slice Ao25 y313.length co25 : Value).ownBlock ∧ some k_ ≠ (.slice Ao30 t319.length co30 : Value).ownBlock) (fun _ => False) rfl rfl ?aO ?aR (fun _ _ h => h) (fun _ h => h.elim) ?aF ?aB ?aS ?aL ?_; (case aR => repeat (first | exact (Kd.C_below HR2.out HB.out) | (with_reducible refine Kd.C_alloc ?_ _) | (with_reducible refine Kd.C_drewN ?_ _) | (with_reducible refine Kd.C_drew ?_))); (case aB => exact (by repeat (first | (with_reducible first | exact HB.out | apply below_alloc | apply pw_below_drewN | apply below_drew1) | exact HB.out))); (case aF => exact (fun k_ hk => ⟨Kd.fresh' (Kd.R_lt (by (with_reducible repeat (first | apply Kd.R_alloc | apply Kd.R_drewN | apply Kd.R_drew)); exact HO306.out)) k_ hk, Kd.fresh' (Kd.R_lt (by (with_reducible repeat (first | apply Kd.R_alloc | apply Kd.R_drewN | apply Kd.R_drew)); exact HO315.out)) k_ hk, Kd.fresh' (Kd.R_lt (by (with_reducible repeat (first | apply Kd.R_alloc | apply Kd.R_drewN | apply Kd.R_drew)); exact HO321.out)) k_ hk⟩)); (case aO => exact (by (with_reducible repeat (first | apply Kd.R_alloc | apply Kd.R_drewN | apply Kd.R_drew)); exact HO327.out)); (case aS => exact (below_size (by repeat (first | (with_reducible first | exact HB.out | apply below_alloc | apply pw_below_drewN | apply below_drew1) | exact HB.out)))); (case aL => have := LMc16.out; omega); intro v329 w31 ho hb hg hat; rw [← Ny328.out] at ho; have n0_ := Aside0.mk (Kd.R_after (ok := (fun k_ => some k_ ≠ (.slice Ao25 y313.length co25 : Value).ownBlock ∧ some k_ ≠ (.slice Ao30 t319.length co30 : Value).ownBlock)) (by (with_reducible repeat (first | apply Kd.R_alloc | apply Kd.R_drewN | apply Kd.R_drew)); exact HO306.out) hg hat); have n1_ := Aside0.mk (Kd.R_after (ok := (fun k_ => some k_ ≠ (.slice Ao23 t304.length co23 : Value).ownBlock ∧ some k_ ≠ (.slice Ao30 t319.length co30 : Value).ownBlock)) (by (with_reducible repeat (first | apply Kd.R_alloc | apply Kd.R_drewN | apply Kd.R_drew)); exact HO315.out) hg hat); have n2_ := Aside0.mk (Kd.R_after (ok := (fun k_ => some k_ ≠ (.slice Ao23 t304.length co23 : Value).ownBlock ∧ some k_ ≠ (.slice Ao25 y313.length co25 : Value).ownBlock)) (by (with_reducible repeat (first | apply Kd.R_alloc | apply Kd.R_drewN | apply Kd.R_drew)); exact HO321.out) hg hat); have n3_ := Aside0.mk (hb); have n4_ := Aside0.mk (ho); clear HO306; clear HO315; clear HO321; clear HB; clear HO327; have HO306 := n0_; have HO315 := n1_; have HO321 := n2_; have HB := n3_; have HO330 := n4_; clear n0_ n1_ n2_ n3_ n4_; clear ho hb hg hat; obtain ⟨Ao32, co32, eo32⟩ := Kd.R_slice HO330.out; subst eo32) | ((with_reducible refine gate_callee (f := 27) rfl ?_); refine goesL_ (some 54) rfl rfl Try.func27 (by kernel_rfl) rfl #[.slice Ao32 y328.length co32, .int .i64 (l1.length : Int)] rfl (by (try simp only [List.map_toArray, List.map_cons, List.map_nil]); first | done | rfl | (simp only [List.length_drop, List.length_take]; rfl)) ?_; (with_reducible refine (num_GetBytes.calls kj5 _ _ y328 (l1.length : Int) t331 t332 t333 _ ?side1 ?side2 A17.out).mono ?_); (case side1 => repeat (first | exact (Kd.R_reads' HO330.out).2.2 | (with_reducible refine Kd.C_alloc ?_ _) | (with_reducible refine Kd.C_drewN ?_ _) | (with_reducible refine Kd.C_drew ?_))); (case side2 => exact (Kd.R_reads' HO330.out).2.1); rintro e w33 ⟨v334, rfl, ho0, hb⟩; refine ⟨_, rfl, ?_⟩; have n0_ := Aside0.mk (Kd.R_elder' (by (with_reducible repeat (first | apply Kd.R_alloc | apply Kd.R_drewN | apply Kd.R_drew)); exact HO306.out) (Kd.R_base ho0) hb); have n1_ := Aside0.mk (Kd.R_elder' (by (with_reducible repeat (first | apply Kd.R_alloc | apply Kd.R_drewN | apply Kd.R_drew)); exact HO315.out) (Kd.R_base ho0) hb); have n2_ := Aside0.mk (Kd.R_elder' (by (with_reducible repeat (first | apply Kd.R_alloc | apply Kd.R_drewN | apply Kd.R_drew)); exact HO321.out) (Kd.R_base ho0) hb); have n3_ := Aside0.mk (Kd.R_elder' (by (with_reducible repeat (first | apply Kd.R_alloc | apply Kd.R_drewN | apply Kd.R_drew)); exact HO330.out) (Kd.R_base ho0) hb); have n4_ := Aside0.mk (Kd.R_lower (Kd.R_new' (Kd.R_new' (Kd.R_new' (Kd.R_new' ho0 (Kd.R_lt (by (with_reducible repeat (first | apply Kd.R_alloc | apply Kd.R_drewN | apply Kd.R_drew)); exact HO306.out))) (Kd.R_lt (by (with_reducible repeat (first | apply Kd.R_alloc | apply Kd.R_drewN | apply Kd.R_drew)); exact HO315.out))) (Kd.R_lt (by (with_reducible repeat (first | apply Kd.R_alloc | apply Kd.R_drewN | apply Kd.R_drew)); exact HO321.out))) (Kd.R_lt (by (with_reducible repeat (first | apply Kd.R_alloc | apply Kd.R_drewN | apply Kd.R_drew)); exact HO330.out))) (below_size (by repeat (first | (with_reducible first | exact HB.out | apply below_alloc | apply pw_below_drewN | apply below_drew1) | exact HB.out)))); have n5_ := Aside0.mk (below_step (by repeat (first | (with_reducible first | exact HB.out | apply below_alloc | apply pw_below_drewN | apply below_drew1) | exact HB.out)) hb); clear HO306; clear HO315; clear HO321; clear HO330; clear HB; have HO306 := n0_; have HO315 := n1_; have HO321 := n2_; have HO330 := n3_; have HO335 := n4_; have HB := n5_; clear n0_ n1_ n2_ n3_ n4_ n5_; (try clear hb); (try clear hb2); (try clear hk); (try clear hi); (try clear ho0)))
                  (try simp only [Act.put, List.setIfInBounds_toArray, List.set_cons_zero, List.set_cons_succ])
                  go_cut [103] (fun v103 wc => ∃ (kq : Nat) (x103_17 : Bool), v103 = .bool x103_17 ∧ Aside0 (tallymanlaw4_NumBack.j1 kq l2 t304 x103_17 = some r) ∧ Aside0 (kq ≤ kj5) ∧ Aside0 (Kd.R (Kd.int .u8) 5 wc w.heap.size (fun _ => True) (.slice Ao23 t304.length co23) t304) ∧ Aside0 (Below w.heap.size w wc))
                  case first =>
                    have H := HC18.out
                    clear HC18
                    by_cases c34 : t318 = 0
                    · rw [if_pos c34] at H
                      have c34b0 : (t318 == 0) = true := beq_iff_eq.mpr c34
                      have c34b1 : (t318 != 0) = false := bne_eq_false_iff_eq.mpr c34
                      clear c34
                      (first | rw [c34b0] | (simp only [i64_w, i32_w]; rw [c34b0]) | skip)
                      by_cases c35 : t316 = a0
                      · rw [if_pos c35] at H
                        have c35b0 : (t316 == a0) = true := beq_iff_eq.mpr c35
                        have c35b1 : (t316 != a0) = false := bne_eq_false_iff_eq.mpr c35
                        clear c35
                        by_cases c36 : t317 = (t304.length : Int)
                        · rw [if_pos c36] at H
                          have c36b0 : (t317 == (t304.length : Int)) = true := beq_iff_eq.mpr c36
                          have c36b1 : (t317 != (t304.length : Int)) = false := bne_eq_false_iff_eq.mpr c36
                          clear c36
                          by_cases c37 : t333 = 0
                          · rw [if_pos c37] at H
                            have c37b0 : (t333 == 0) = true := beq_iff_eq.mpr c37
                            have c37b1 : (t333 != 0) = false := bne_eq_false_iff_eq.mpr c37
                            clear c37
                            by_cases c38 : t332 = (t319.length : Int)
                            · rw [if_pos c38] at H
                              have c38b0 : (t332 == (t319.length : Int)) = true := beq_iff_eq.mpr c38
                              have c38b1 : (t332 != (t319.length : Int)) = false := bne_eq_false_iff_eq.mpr c38
                              clear c38
                              by_cases c39 : (strOfNums t331).toList = (strOfNums l1).toList
                              · rw [if_pos c39] at H
                                have c39b0 : ((strOfNums t331).toList == (strOfNums l1).toList) = true := beq_iff_eq.mpr c39
                                have c39b1 : ((strOfNums t331).toList != (strOfNums l1).toList) = false := bne_eq_false_iff_eq.mpr c39
                                clear c39
                                replace H := Option.bind_eq_some_iff.mp H
                                obtain ⟨t336, A400, H⟩ := H
                                replace H : (if (t304.length : Int) = t336 then ((num_Fold.f (wrap64 (a0))).bind fun t337 => ((num_Open.f t337).bind fun t338 => (tallymanlaw4_NumBack.j1 kj5 l2 t304 (t338 != (wrap64 (a0)))))) else (tallymanlaw4_NumBack.j1 kj5 l2 t304 true)) = some r := H
                                have A40 := Aside0.mk A400
                                clear A400
                                by_cases c41 : (t304.length : Int) = t336
                                · rw [if_pos c41] at H
                                  have c41b0 : ((t304.length : Int) == t336) = true := beq_iff_eq.mpr c41
                                  have c41b1 : ((t304.length : Int) != t336) = false := bne_eq_false_iff_eq.mpr c41
                                  clear c41
                                  replace H := Option.bind_eq_some_iff.mp H
                                  obtain ⟨t337, A420, H⟩ := H
                                  replace H : ((num_Open.f t337).bind fun t338 => (tallymanlaw4_NumBack.j1 kj5 l2 t304 (t338 != (wrap64 (a0))))) = some r := H
                                  have A42 := Aside0.mk A420
                                  clear A420
                                  replace H := Option.bind_eq_some_iff.mp H
                                  obtain ⟨t338, A430, H⟩ := H
                                  replace H : (tallymanlaw4_NumBack.j1 kj5 l2 t304 (t338 != (wrap64 (a0)))) = some r := H
                                  have A43 := Aside0.mk A430
                                  clear A430
                                  have H' := Aside0.mk H
                                  clear H
                                  have hcv44 := own_string (P := Try.prog) Try.underlying24 Try.underlying5 Try.underlying9 (Kd.own_of_R HO335.out)
                                  have hcv45 := fun n_ : Nat => own_string (P := Try.prog) Try.underlying24 Try.underlying5 Try.underlying9 (Kd.own_of_R (Kd.R_drewN HO335.out n_))
                                  have hcv46 := Kd.C_string (P := Try.prog) (A := A1) (c := c1) Try.underlying24 Try.underlying5 Try.underlying9 (Kd.C_below HR1.out HB.out)
                                  go_wp2_with (first | (go_at_call 23; (with_reducible refine (num_Size.calls kj5 a0 t336 _ A40.out).mono ?_); rintro e w47 ⟨rfl, hb⟩; have n0_ := Aside0.mk (Kd.R_below (by (with_reducible repeat (first | apply Kd.R_alloc | apply Kd.R_drewN | apply Kd.R_drew)); exact HO306.out) hb); have n1_ := Aside0.mk (Kd.R_below (by (with_reducible repeat (first | apply Kd.R_alloc | apply Kd.R_drewN | apply Kd.R_drew)); exact HO315.out) hb); have n2_ := Aside0.mk (Kd.R_below (by (with_reducible repeat (first | apply Kd.R_alloc | apply Kd.R_drewN | apply Kd.R_drew)); exact HO321.out) hb); have n3_ := Aside0.mk (Kd.R_below (by (with_reducible repeat (first | apply Kd.R_alloc | apply Kd.R_drewN | apply Kd.R_drew)); exact HO330.out) hb); have n4_ := Aside0.mk (Kd.R_below (by (with_reducible repeat (first | apply Kd.R_alloc | apply Kd.R_drewN | apply Kd.R_drew)); exact HO335.out) hb); have n5_ := Aside0.mk (below_step (by repeat (first | (with_reducible first | exact HB.out | apply below_alloc | apply pw_below_drewN | apply below_drew1) | exact HB.out)) hb); clear HO306; clear HO315; clear HO321; clear HO330; clear HO335; clear HB; have HO306 := n0_; have HO315 := n1_; have HO321 := n2_; have HO330 := n3_; have HO335 := n4_; have HB := n5_; clear n0_ n1_ n2_ n3_ n4_ n5_; (try clear hb); (try clear hb2); (try clear hk); (try clear hi)) | (go_at_call 26; (with_reducible refine (num_Fold.calls (wrap64 (a0)) t337 _ A42.out).mono ?_); rintro e w' ⟨rfl, ⟨nd, rfl⟩⟩) | (go_at_call 25; (with_reducible refine (num_Open.calls t337 t338 _ A43.out).mono ?_); rintro e w' ⟨rfl, ⟨nd, rfl⟩⟩))
                                  go_meet
                                  case rel => exact ⟨_, ((t338 != (wrap64 (a0)))), (by first | rfl | (simp; done) | (simp [*]; done)), H', ⟨by have := HJ5.out; first | omega | exact Nat.le_refl _⟩, ⟨by (with_reducible repeat (first | apply Kd.R_alloc | apply Kd.R_drewN | apply Kd.R_drew)); exact Kd.R_mono HO306.out (fun _ hk => trivial)⟩, ⟨by repeat (first | (with_reducible first | exact HB.out | apply below_alloc | apply pw_below_drewN | apply below_drew1) | exact HB.out)⟩⟩
                                · rw [if_neg c41] at H
                                  have c41b0 : ((t304.length : Int) == t336) = false := beq_eq_false_iff_ne.mpr c41
                                  have c41b1 : ((t304.length : Int) != t336) = true := bne_iff_ne.mpr c41
                                  have H' := Aside0.mk H
                                  clear H
                                  have hcv48 := own_string (P := Try.prog) Try.underlying24 Try.underlying5 Try.underlying9 (Kd.own_of_R HO335.out)
                                  have hcv49 := fun n_ : Nat => own_string (P := Try.prog) Try.underlying24 Try.underlying5 Try.underlying9 (Kd.own_of_R (Kd.R_drewN HO335.out n_))
                                  have hcv50 := Kd.C_string (P := Try.prog) (A := A1) (c := c1) Try.underlying24 Try.underlying5 Try.underlying9 (Kd.C_below HR1.out HB.out)
                                  go_wp2_with (first | (go_at_call 23; (with_reducible refine (num_Size.calls kj5 a0 t336 _ A40.out).mono ?_); rintro e w51 ⟨rfl, hb⟩; have n0_ := Aside0.mk (Kd.R_below (by (with_reducible repeat (first | apply Kd.R_alloc | apply Kd.R_drewN | apply Kd.R_drew)); exact HO306.out) hb); have n1_ := Aside0.mk (Kd.R_below (by (with_reducible repeat (first | apply Kd.R_alloc | apply Kd.R_drewN | apply Kd.R_drew)); exact HO315.out) hb); have n2_ := Aside0.mk (Kd.R_below (by (with_reducible repeat (first | apply Kd.R_alloc | apply Kd.R_drewN | apply Kd.R_drew)); exact HO321.out) hb); have n3_ := Aside0.mk (Kd.R_below (by (with_reducible repeat (first | apply Kd.R_alloc | apply Kd.R_drewN | apply Kd.R_drew)); exact HO330.out) hb); have n4_ := Aside0.mk (Kd.R_below (by (with_reducible repeat (first | apply Kd.R_alloc | apply Kd.R_drewN | apply Kd.R_drew)); exact HO335.out) hb); have n5_ := Aside0.mk (below_step (by repeat (first | (with_reducible first | exact HB.out | apply below_alloc | apply pw_below_drewN | apply below_drew1) | exact HB.out)) hb); clear HO306; clear HO315; clear HO321; clear HO330; clear HO335; clear HB; have HO306 := n0_; have HO315 := n1_; have HO321 := n2_; have HO330 := n3_; have HO335 := n4_; have HB := n5_; clear n0_ n1_ n2_ n3_ n4_ n5_; (try clear hb); (try clear hb2); (try clear hk); (try clear hi)))
                                  go_meet
                                  case rel => exact ⟨_, (true), (by first | rfl | (simp; done) | (simp [*]; done)), H', ⟨by have := HJ5.out; first | omega | exact Nat.le_refl _⟩, ⟨by (with_reducible repeat (first | apply Kd.R_alloc | apply Kd.R_drewN | apply Kd.R_drew)); exact Kd.R_mono HO306.out (fun _ hk => trivial)⟩, ⟨by repeat (first | (with_reducible first | exact HB.out | apply below_alloc | apply pw_below_drewN | apply below_drew1) | exact HB.out)⟩⟩
                              · rw [if_neg c39] at H
                                have c39b0 : ((strOfNums t331).toList == (strOfNums l1).toList) = false := beq_eq_false_iff_ne.mpr c39
                                have c39b1 : ((strOfNums t331).toList != (strOfNums l1).toList) = true := bne_iff_ne.mpr c39
                                have H' := Aside0.mk H
                                clear H
                                have hcv52 := own_string (P := Try.prog) Try.underlying24 Try.underlying5 Try.underlying9 (Kd.own_of_R HO335.out)
                                have hcv53 := fun n_ : Nat => own_string (P := Try.prog) Try.underlying24 Try.underlying5 Try.underlying9 (Kd.own_of_R (Kd.R_drewN HO335.out n_))
                                have hcv54 := Kd.C_string (P := Try.prog) (A := A1) (c := c1) Try.underlying24 Try.underlying5 Try.underlying9 (Kd.C_below HR1.out HB.out)
                                go_wp2
                                go_meet
                                case rel => exact ⟨_, (true), (by first | rfl | (simp; done) | (simp [*]; done)), H', ⟨by have := HJ5.out; first | omega | exact Nat.le_refl _⟩, ⟨by (with_reducible repeat (first | apply Kd.R_alloc | apply Kd.R_drewN | apply Kd.R_drew)); exact Kd.R_mono HO306.out (fun _ hk => trivial)⟩, ⟨by repeat (first | (with_reducible first | exact HB.out | apply below_alloc | apply pw_below_drewN | apply below_drew1) | exact HB.out)⟩⟩
                            · rw [if_neg c38] at H
                              have c38b0 : (t332 == (t319.length : Int)) = false := beq_eq_false_iff_ne.mpr c38
                              have c38b1 : (t332 != (t319.length : Int)) = true := bne_iff_ne.mpr c38
                              have H' := Aside0.mk H
                              clear H
                              go_wp2
                              go_meet
                              case rel => exact ⟨_, (true), (by first | rfl | (simp; done) | (simp [*]; done)), H', ⟨by have := HJ5.out; first | omega | exact Nat.le_refl _⟩, ⟨by (with_reducible repeat (first | apply Kd.R_alloc | apply Kd.R_drewN | apply Kd.R_drew)); exact Kd.R_mono HO306.out (fun _ hk => trivial)⟩, ⟨by repeat (first | (with_reducible first | exact HB.out | apply below_alloc | apply pw_below_drewN | apply below_drew1) | exact HB.out)⟩⟩
                          · rw [if_neg c37] at H
                            have c37b0 : (t333 == 0) = false := beq_eq_false_iff_ne.mpr c37
                            have c37b1 : (t333 != 0) = true := bne_iff_ne.mpr c37
                            have H' := Aside0.mk H
                            clear H
                            go_wp2
                            go_meet
                            case rel => exact ⟨_, (true), (by first | rfl | (simp; done) | (simp [*]; done)), H', ⟨by have := HJ5.out; first | omega | exact Nat.le_refl _⟩, ⟨by (with_reducible repeat (first | apply Kd.R_alloc | apply Kd.R_drewN | apply Kd.R_drew)); exact Kd.R_mono HO306.out (fun _ hk => trivial)⟩, ⟨by repeat (first | (with_reducible first | exact HB.out | apply below_alloc | apply pw_below_drewN | apply below_drew1) | exact HB.out)⟩⟩
                        · rw [if_neg c36] at H
                          have c36b0 : (t317 == (t304.length : Int)) = false := beq_eq_false_iff_ne.mpr c36
                          have c36b1 : (t317 != (t304.length : Int)) = true := bne_iff_ne.mpr c36
                          have H' := Aside0.mk H
                          clear H
                          go_wp2
                          go_meet
                          case rel => exact ⟨_, (true), (by first | rfl | (simp; done) | (simp [*]; done)), H', ⟨by have := HJ5.out; first | omega | exact Nat.le_refl _⟩, ⟨by (with_reducible repeat (first | apply Kd.R_alloc | apply Kd.R_drewN | apply Kd.R_drew)); exact Kd.R_mono HO306.out (fun _ hk => trivial)⟩, ⟨by repeat (first | (with_reducible first | exact HB.out | apply below_alloc | apply pw_below_drewN | apply below_drew1) | exact HB.out)⟩⟩
                      · rw [if_neg c35] at H
                        have c35b0 : (t316 == a0) = false := beq_eq_false_iff_ne.mpr c35
                        have c35b1 : (t316 != a0) = true := bne_iff_ne.mpr c35
                        have H' := Aside0.mk H
                        clear H
                        go_wp2
                        go_meet
                        case rel => exact ⟨_, (true), (by first | rfl | (simp; done) | (simp [*]; done)), H', ⟨by have := HJ5.out; first | omega | exact Nat.le_refl _⟩, ⟨by (with_reducible repeat (first | apply Kd.R_alloc | apply Kd.R_drewN | apply Kd.R_drew)); exact Kd.R_mono HO306.out (fun _ hk => trivial)⟩, ⟨by repeat (first | (with_reducible first | exact HB.out | apply below_alloc | apply pw_below_drewN | apply below_drew1) | exact HB.out)⟩⟩
                    · rw [if_neg c34] at H
                      have c34b0 : (t318 == 0) = false := beq_eq_false_iff_ne.mpr c34
                      have c34b1 : (t318 != 0) = true := bne_iff_ne.mpr c34
                      (first | rw [c34b0] | (simp only [i64_w, i32_w]; rw [c34b0]) | skip)
                      have H' := Aside0.mk H
                      clear H
                      go_wp2
                      go_meet
                      case rel => exact ⟨_, (true), (by first | rfl | (simp; done) | (simp [*]; done)), H', ⟨by have := HJ5.out; first | omega | exact Nat.le_refl _⟩, ⟨by (with_reducible repeat (first | apply Kd.R_alloc | apply Kd.R_drewN | apply Kd.R_drew)); exact Kd.R_mono HO306.out (fun _ hk => trivial)⟩, ⟨by repeat (first | (with_reducible first | exact HB.out | apply below_alloc | apply pw_below_drewN | apply below_drew1) | exact HB.out)⟩⟩
                  case rest =>
                    clear HC18
                    try clear c1
                    try clear c2
                    try clear p2
                    try clear c3
                    try clear c4
                    try clear hcv4
                    try clear c5
                    try clear hcv5
                    try clear p6
                    try clear c7
                    try clear c8
                    try clear c8b0
                    try clear c8b1
                    try clear c9
                    try clear c11
                    try clear c12
                    try clear c15
                    try clear c16
                    try clear c21
                    try clear c22
                    try clear c24
                    try clear c27
                    try clear c31
                    try clear c34
                    try clear c34b0
                    try clear c34b1
                    try clear c35
                    try clear c35b0
                    try clear c35b1
                    try clear c36
                    try clear c36b0
                    try clear c36b1
                    try clear c37
                    try clear c37b0
                    try clear c37b1
                    try clear c38
                    try clear c38b0
                    try clear c38b1
                    try clear c39
                    try clear c39b0
                    try clear c39b1
                    try clear c41
                    try clear c41b0
                    try clear c41b1
                    try clear hcv44
                    try clear hcv45
                    try clear hcv46
                    try clear hcv48
                    try clear hcv49
                    try clear hcv50
                    try clear hcv52
                    try clear hcv53
                    try clear hcv54
                    try clear p2
                    obtain ⟨kq, x103_17, rfl, HA, HJ17, HO_7, HB⟩ := hcut
                    cases kq with
                    | zero => exact absurd HA.out (by simp [tallymanlaw4_NumBack.j1])
                    | succ kj17 =>
                      have H := HA.out
                      clear HA
                      simp only [tallymanlaw4_NumBack.j1] at H
                      by_cases c55 : x103_17 = true
                      · subst c55
                        have H1 : (some false) = some r := by rw [if_pos rfl] at H; exact H
                        clear H
                        have H := H1
                        clear H1
                        obtain rfl := Option.some.inj H
                        go_wp2
                        go_ret
                        exact ⟨by first | rfl | (simp [errW_none, errW_some] <;> rfl) | (simp [*, errW_none, errW_some] <;> rfl), by repeat (first | (with_reducible first | exact HB.out | apply below_alloc | apply pw_below_drewN | apply below_drew1) | exact HB.out)⟩
                      · replace c55 := Bool.eq_false_iff.mpr c55
                        subst c55
                        have H1 : (tallymanlaw4_NumBack.l0 kj17 l2 t304 0) = some r := by rw [if_neg (show ¬ (false = true) by decide)] at H; exact H
                        clear H
                        have H := H1
                        clear H1
                        have H' := Aside0.mk H
                        clear H
                        go_wp2
                        go_loopg [15] kj17 (fun kq v15 w' => ∃ (x15_3 : Int), v15 = .int .i64 x15_3 ∧ Aside0 (tallymanlaw4_NumBack.l0 kq l2 t304 x15_3 = some r) ∧ Aside0 (kq ≤ kj17) ∧ Aside0 (Kd.R (Kd.int .u8) 5 w' w.heap.size (fun _ => True) (.slice Ao23 t304.length co23) t304) ∧ Aside0 (Below w.heap.size w w'))
                        case atStart => exact ⟨(0), (by first | rfl | (simp; done) | (simp [*]; done)), H', ⟨Nat.le_refl _⟩, ⟨by (with_reducible repeat (first | apply Kd.R_alloc | apply Kd.R_drewN | apply Kd.R_drew)); exact HO_7.out⟩, ⟨by repeat (first | (with_reducible first | exact HB.out | apply below_alloc | apply pw_below_drewN | apply below_drew1) | exact HB.out)⟩⟩
                        case round =>
                          clear H'
                          try clear c1
                          try clear c2
                          try clear p2
                          try clear c3
                          try clear c4
                          try clear hcv4
                          try clear c5
                          try clear hcv5
                          try clear p6
                          try clear c7
                          try clear c8
                          try clear c8b0
                          try clear c8b1
                          try clear c9
                          try clear c11
                          try clear c12
                          try clear c15
                          try clear c16
                          try clear c21
                          try clear c22
                          try clear c24
                          try clear c27
                          try clear c31
                          try clear c34
                          try clear c34b0
                          try clear c34b1
                          try clear c35
                          try clear c35b0
                          try clear c35b1
                          try clear c36
                          try clear c36b0
                          try clear c36b1
                          try clear c37
                          try clear c37b0
                          try clear c37b1
                          try clear c38
                          try clear c38b0
                          try clear c38b1
                          try clear c39
                          try clear c39b0
                          try clear c39b1
                          try clear c41
                          try clear c41b0
                          try clear c41b1
                          try clear hcv44
                          try clear hcv45
                          try clear hcv46
                          try clear hcv48
                          try clear hcv49
                          try clear hcv50
                          try clear hcv52
                          try clear hcv53
                          try clear hcv54
                          try clear c55
                          try clear p2
                          try clear p6
                          obtain ⟨x15_3, rfl, HA, HK3, HO_7, HB⟩ := hrel
                          cases gk with
                          | zero => exact absurd HA.out (by simp [tallymanlaw4_NumBack.l0])
                          | succ k3 =>
                            have H := HA.out
                            clear HA
                            simp only [tallymanlaw4_NumBack.l0] at H
                            by_cases c56 : x15_3 < (t304.length : Int)
                            · rw [if_pos c56] at H
                              have c56b0 : decide (x15_3 < (t304.length : Int)) = true := decide_eq_true c56
                              clear c56
                              by_cases c57 : 0 ≤ x15_3
                              · rw [if_pos c57] at H
                                have c57b0 := eq_true c57
                                have c57b1 : decide (0 ≤ x15_3) = true := decide_eq_true c57
                                clear c57
                                by_cases c58 : x15_3 ≤ (t304.length : Int)
                                · rw [if_pos c58] at H
                                  have c58b0 := eq_true c58
                                  have c58b1 : decide (x15_3 ≤ (t304.length : Int)) = true := decide_eq_true c58
                                  clear c58
                                  obtain ⟨y339, hy339⟩ : ∃ y_ : List Int, y_ = (t304.take (x15_3 : Int).toNat) := ⟨_, rfl⟩
                                  replace H : ((num_Get.f k3 y339).bind fun bt343 => (if bt343.2.2 = 3 then (tallymanlaw4_NumBack.l0 k3 l2 t304 (wrap64 (x15_3 + 1))) else (some false))) = some r := by first | (rw [hy339]; with_reducible exact H) | (have H2_ := (Option.bind_some _ _).symm.trans H; rw [hy339]; with_reducible exact H2_) | (have H2_ := (Option.bind_some _ _).symm.trans H; with_reducible exact H2_) | with_reducible exact H | (rw [hy339]; exact H) | exact H
                                  have Ny339 := Aside0.mk hy339
                                  clear hy339
                                  replace H := Option.bind_eq_some_iff.mp H
                                  obtain ⟨⟨t343, t344, t345⟩, A590, H⟩ := H
                                  replace H : (if t345 = 3 then (tallymanlaw4_NumBack.l0 k3 l2 t304 (wrap64 (x15_3 + 1))) else (some false)) = some r := H
                                  have A59 := Aside0.mk A590
                                  clear A590
                                  by_cases c60 : t345 = 3
                                  · rw [if_pos c60] at H
                                    have c60b0 : (t345 == 3) = true := beq_iff_eq.mpr c60
                                    have c60b1 : (t345 != 3) = false := bne_eq_false_iff_eq.mpr c60
                                    clear c60
                                    have H' := Aside0.mk H
                                    clear H
                                    have q61 : (x15_3 : Int) ≤ ((t304.length : Int) : Int) := of_decide_eq_true (by first | (with_reducible assumption) | assumption)
                                    obtain ⟨i061, hi061, _, hsz61, _⟩ := info_parts info5
                                    have hroom61 : t304.length ≤ co23 := (Kd.R_reads' HO_7.out).2.1
                                    have hC61 : Kd.C (Kd.int .u8) _ Ao23 t304.length t304 := (Kd.R_reads' HO_7.out).2.2
                                    have hcut61 := cut_to (P := Try.prog) 24 5 .i64 Try.underlying24 hi061 Ao23 t304.length co23 x15_3 (of_decide_eq_true (by first | (with_reducible assumption) | assumption)) q61 hroom61
                                    have hr61 := Kd.C_take (m := (x15_3 : Int).toNat) hC61 (by omega)
                                    have hy61 : y339.length = (x15_3 : Int).toNat := (by rw [Ny339.out, List.length_take]; omega)
                                    rw [← Ny339.out] at hr61
                                    rw [← hy61] at hcut61
                                    have HR342 := Aside0.mk hr61
                                    have HC342 := Aside0.mk (show y339.length ≤ co23 from by omega)
                                    clear hr61 hC61 hroom61 hi061 hsz61
                                    have KY61 := Aside0.mk hy61
                                    clear hy61
                                    have KL61 := Aside0.mk (show (x15_3 : Int).toNat ≤ t304.length from by omega)
                                    replace q61 := eq_true q61
                                    go_wp2_with (first | ((with_reducible refine gate_callee (f := 24) rfl ?_); refine goesL_ (some 114) rfl rfl Try.func24 (by kernel_rfl) rfl #[.slice Ao23 y339.length co23] rfl (by (try simp only [List.map_toArray, List.map_cons, List.map_nil]); first | done | rfl | (simp only [List.length_drop, List.length_take]; rfl)) ?_; (with_reducible refine (num_Get.calls k3 _ _ y339 t343 t344 t345 _ ?side1 ?side2 A59.out).mono ?_); (case side1 => repeat (first | exact (by repeat (first | (with_reducible exact HR342.out) | (with_reducible refine Kd.C_alloc ?_ _) | (with_reducible refine Kd.C_drewN ?_ _) | (with_reducible refine Kd.C_drew ?_) | exact HR342.out)) | (with_reducible refine Kd.C_alloc ?_ _) | (with_reducible refine Kd.C_drewN ?_ _) | (with_reducible refine Kd.C_drew ?_))); (case side2 => exact HC342.out); rintro e w' ⟨rfl, ⟨nd, rfl⟩⟩; refine ⟨_, rfl, ?_⟩))
                                    go_roundg k3
                                    case measure => have := HJ5.out; have := HJ17.out; have := HK3.out; omega
                                    case rel => exact ⟨(wrap64 (x15_3 + 1)), (by first | rfl | (simp; done) | (simp [*]; done)), H', ⟨by have := HJ5.out; have := HJ17.out; have := HK3.out; omega⟩, ⟨by (with_reducible repeat (first | apply Kd.R_alloc | apply Kd.R_drewN | apply Kd.R_drew)); exact HO_7.out⟩, ⟨by repeat (first | (with_reducible first | exact HB.out | apply below_alloc | apply pw_below_drewN | apply below_drew1) | exact HB.out)⟩⟩
                                  · rw [if_neg c60] at H
                                    have c60b0 : (t345 == 3) = false := beq_eq_false_iff_ne.mpr c60
                                    have c60b1 : (t345 != 3) = true := bne_iff_ne.mpr c60
                                    obtain rfl := Option.some.inj H
                                    have q62 : (x15_3 : Int) ≤ ((t304.length : Int) : Int) := of_decide_eq_true (by first | (with_reducible assumption) | assumption)
                                    obtain ⟨i062, hi062, _, hsz62, _⟩ := info_parts info5
                                    have hroom62 : t304.length ≤ co23 := (Kd.R_reads' HO_7.out).2.1
                                    have hC62 : Kd.C (Kd.int .u8) _ Ao23 t304.length t304 := (Kd.R_reads' HO_7.out).2.2
                                    have hcut62 := cut_to (P := Try.prog) 24 5 .i64 Try.underlying24 hi062 Ao23 t304.length co23 x15_3 (of_decide_eq_true (by first | (with_reducible assumption) | assumption)) q62 hroom62
                                    have hr62 := Kd.C_take (m := (x15_3 : Int).toNat) hC62 (by omega)
                                    have hy62 : y339.length = (x15_3 : Int).toNat := (by rw [Ny339.out, List.length_take]; omega)
                                    rw [← Ny339.out] at hr62
                                    rw [← hy62] at hcut62
                                    have HR342 := Aside0.mk hr62
                                    have HC342 := Aside0.mk (show y339.length ≤ co23 from by omega)
                                    clear hr62 hC62 hroom62 hi062 hsz62
                                    have KY62 := Aside0.mk hy62
                                    clear hy62
                                    have KL62 := Aside0.mk (show (x15_3 : Int).toNat ≤ t304.length from by omega)
                                    replace q62 := eq_true q62
                                    go_wp2_with (first | ((with_reducible refine gate_callee (f := 24) rfl ?_); refine goesL_ (some 114) rfl rfl Try.func24 (by kernel_rfl) rfl #[.slice Ao23 y339.length co23] rfl (by (try simp only [List.map_toArray, List.map_cons, List.map_nil]); first | done | rfl | (simp only [List.length_drop, List.length_take]; rfl)) ?_; (with_reducible refine (num_Get.calls k3 _ _ y339 t343 t344 t345 _ ?side1 ?side2 A59.out).mono ?_); (case side1 => repeat (first | exact (by repeat (first | (with_reducible exact HR342.out) | (with_reducible refine Kd.C_alloc ?_ _) | (with_reducible refine Kd.C_drewN ?_ _) | (with_reducible refine Kd.C_drew ?_) | exact HR342.out)) | (with_reducible refine Kd.C_alloc ?_ _) | (with_reducible refine Kd.C_drewN ?_ _) | (with_reducible refine Kd.C_drew ?_))); (case side2 => exact HC342.out); rintro e w' ⟨rfl, ⟨nd, rfl⟩⟩; refine ⟨_, rfl, ?_⟩))
                                    go_ret
                                    exact ⟨by first | rfl | (simp [errW_none, errW_some] <;> rfl) | (simp [*, errW_none, errW_some] <;> rfl), by repeat (first | (with_reducible first | exact HB.out | apply below_alloc | apply pw_below_drewN | apply below_drew1) | exact HB.out)⟩
                                · rw [if_neg c58] at H
                                  exact absurd H (by simp)
                              · rw [if_neg c57] at H
                                exact absurd H (by simp)
                            · rw [if_neg c56] at H
                              have c56b0 : decide (x15_3 < (t304.length : Int)) = false := decide_eq_false c56
                              clear c56
                              replace H := Option.bind_eq_some_iff.mp H
                              obtain ⟨⟨t346, t347, t348⟩, A630, H⟩ := H
                              replace H : (if t348 = 0 then (if t347 ≤ (l2.length : Int) then ((num_Put.f k3 ([] : List Int) t346).bind fun t349 => (if 0 ≤ t347 then (some ((strOfNums t349).toList == (strOfNums (l2.take (t347 : Int).toNat)).toList)) else (none))) else (some false)) else (some true)) = some r := H
                              have A63 := Aside0.mk A630
                              clear A630
                              by_cases c64 : t348 = 0
                              · rw [if_pos c64] at H
                                have c64b0 : (t348 == 0) = true := beq_iff_eq.mpr c64
                                have c64b1 : (t348 != 0) = false := bne_eq_false_iff_eq.mpr c64
                                clear c64
                                by_cases c65 : t347 ≤ (l2.length : Int)
                                · rw [if_pos c65] at H
                                  have c65b0 : decide (t347 ≤ (l2.length : Int)) = true := decide_eq_true c65
                                  clear c65
                                  replace H := Option.bind_eq_some_iff.mp H
                                  obtain ⟨t349, A660, H⟩ := H
                                  replace H : (if 0 ≤ t347 then (some ((strOfNums t349).toList == (strOfNums (l2.take (t347 : Int).toNat)).toList)) else (none)) = some r := H
                                  have A66 := Aside0.mk A660
                                  clear A660
                                  by_cases c67 : 0 ≤ t347
                                  · rw [if_pos c67] at H
                                    have c67b0 := eq_true c67
                                    have c67b1 : decide (0 ≤ t347) = true := decide_eq_true c67
                                    clear c67
                                    have c68b0 := eq_true (of_decide_eq_true (by first | (with_reducible assumption) | assumption) : t347 ≤ (l2.length : Int))
                                    obtain rfl := Option.some.inj H
                                    try go_wp2_with (first | ((with_reducible refine gate_callee (f := 24) rfl ?_); refine goesL_ (some 122) rfl rfl Try.func24 (by kernel_rfl) rfl #[.slice A2 l2.length c2] rfl (by (try simp only [List.map_toArray, List.map_cons, List.map_nil]); first | done | rfl | (simp only [List.length_drop, List.length_take]; rfl)) ?_; (with_reducible refine (num_Get.calls k3 _ _ l2 t346 t347 t348 _ ?side1 ?side2 A63.out).mono ?_); (case side1 => repeat (first | exact (Kd.C_below HR2.out HB.out) | (with_reducible refine Kd.C_alloc ?_ _) | (with_reducible refine Kd.C_drewN ?_ _) | (with_reducible refine Kd.C_drew ?_))); (case side2 => exact HC2.out); rintro e w' ⟨rfl, ⟨nd, rfl⟩⟩; refine ⟨_, rfl, ?_⟩))
                                    (try (rw [drewN_self wr]; generalize hq_ : World.drewN wr _ = wr; have n0_ : Aside0 (Kd.R (Kd.int .u8) 5 wr w.heap.size (fun _ => True) (.slice Ao23 t304.length co23) t304) := ⟨by rw [← hq_]; exact (by (with_reducible repeat (first | apply Kd.R_alloc | apply Kd.R_drewN | apply Kd.R_drew)); exact HO_7.out)⟩; have n1_ : Aside0 (Below w.heap.size w wr) := ⟨by rw [← hq_]; exact (by repeat (first | (with_reducible first | exact HB.out | apply below_alloc | apply pw_below_drewN | apply below_drew1) | exact HB.out))⟩; clear HO_7 HB hq_; have HO_7 := n0_; have HB := n1_; clear n0_ n1_))
                                    have n0_ := Aside0.mk (Kd.R_drew HO_7.out)
                                    have n1_ := Aside0.mk (below_drew1 HB.out)
                                    clear HO_7
                                    clear HB
                                    have HO_7 := n0_
                                    have HB := n1_
                                    clear n0_ n1_
                                    obtain ⟨i070, hi070, _, hsz70, _⟩ := info_parts info5
                                    obtain ⟨hcut70, hA70, hC70⟩ := print_take_of (P := Try.prog) (Value.int .u8) 0 24 5 .i64 Try.underlying24 hi070 hsz70 A2 c2 l2 t347 (of_decide_eq_true (by first | (with_reducible assumption) | assumption)) (of_decide_eq_true (by first | (with_reducible assumption) | assumption)) HC2.out
                                    have HR352 := Aside0.mk (Kd.C_of_reads (h1 := fun _ => rfl) (hA70 _ (Kd.reads_of_C HR2.out)))
                                    have HC352 := Aside0.mk hC70
                                    clear hA70 hC70 hi070 hsz70
                                    refine start_ (n := 19) (S := fun w' => Sem.run Try.prog (convert 24 9 (.slice A2 (t347 : Int).toNat c2)) w' = Result.ok (.string (strOfNums (l2.take (t347 : Int).toNat))) w') (ds := []) #[false, false, false, false, false, false, false, false, false, false, false, false, false, false, false, false, false, false, false] (by kernel_rfl) rfl rfl ((C_string_n Try.underlying24 Try.underlying5 Try.underlying9 (Kd.C_below HR352.out (by repeat (first | exact HB.out | apply below_alloc | apply pw_below_drewN | apply below_drew1 | apply below_drew))) (by have hle_ : (t347 : Int) ≤ (l2.length : Int) := (by first | exact of_decide_eq_true (by first | (with_reducible assumption) | assumption) | exact of_eq_true (by assumption)); rw [List.length_take]; omega))) (fun hHeld => ?_); refine with_tabW tallymanlaw4_NumBack.tab18 tallymanlaw4_NumBack.bits18 (fun HT_ HW_ => ?_)
                                    generalize wr.drew = w69 at HO_7 HB HR352 hHeld ⊢
                                    refine pure_ (i := 0) (N := some 126) (v := ?_) (a' := ?_) #[true, false, false, false, false, false, false, false, false, false, false, false, false, false, false, false, false, false, false] rfl rfl (any_of HT_.out (by kernel_rfl)) (fun _ _ _ h => h) (Or.inl ⟨by rfl, ?_⟩) ?_ ?_
                                    rotate_left
                                    · intro w'
                                      go_simp
                                      with_reducible rfl
                                    rotate_left
                                    · simp only [Act.put, List.setIfInBounds_toArray, List.set_cons_zero, List.set_cons_succ, i64_w, i32_w]
                                      rfl
                                    refine pure_ (i := 1) (N := some 127) (v := ?_) (a' := ?_) #[true, true, false, false, false, false, false, false, false, false, false, false, false, false, false, false, false, false, false] rfl rfl (any_of HT_.out (by kernel_rfl)) (fun _ _ _ h => h) (Or.inl ⟨by rfl, ?_⟩) ?_ ?_
                                    rotate_left
                                    · intro w'
                                      go_simp
                                      with_reducible rfl
                                    rotate_left
                                    · simp only [Act.put, List.setIfInBounds_toArray, List.set_cons_zero, List.set_cons_succ, i64_w, i32_w]
                                      rfl
                                    refine pure_ (i := 2) (N := some 128) (v := ?_) (a' := ?_) #[true, true, true, false, false, false, false, false, false, false, false, false, false, false, false, false, false, false, false] rfl rfl (any_of HT_.out (by kernel_rfl)) (fun _ _ _ h => h) (Or.inl ⟨by rfl, ?_⟩) ?_ ?_
                                    rotate_left
                                    · intro w'
                                      go_simp
                                      with_reducible rfl
                                    rotate_left
                                    · simp only [Act.put, List.setIfInBounds_toArray, List.set_cons_zero, List.set_cons_succ, i64_w, i32_w]
                                      rfl
                                    refine pure_ (i := 3) (N := some 129) (v := ?_) (a' := ?_) #[true, true, true, true, false, false, false, false, false, false, false, false, false, false, false, false, false, false, false] rfl rfl (any_of HT_.out (by kernel_rfl)) (fun _ _ _ h => h) (Or.inl ⟨by rfl, ?_⟩) ?_ ?_
                                    rotate_left
                                    · intro w'
                                      go_simp
                                      with_reducible rfl
                                    rotate_left
                                    · simp only [Act.put, List.setIfInBounds_toArray, List.set_cons_zero, List.set_cons_succ, i64_w, i32_w]
                                      rfl
                                    refine pure_ (i := 4) (N := some 130) (v := ?_) (a' := ?_) #[true, true, true, true, true, false, false, false, false, false, false, false, false, false, false, false, false, false, false] rfl rfl (any_of HT_.out (by kernel_rfl)) (fun _ _ _ h => h) (Or.inl ⟨by rfl, ?_⟩) ?_ ?_
                                    rotate_left
                                    · intro w'
                                      go_simp
                                      with_reducible rfl
                                    rotate_left
                                    · simp only [Act.put, List.setIfInBounds_toArray, List.set_cons_zero, List.set_cons_succ, i64_w, i32_w]
                                      rfl
                                    refine pure_ (i := 5) (N := some 131) (v := ?_) (a' := ?_) #[true, true, true, true, true, true, false, false, false, false, false, false, false, false, false, false, false, false, false] rfl rfl (any_of HT_.out (by kernel_rfl)) (fun _ _ _ h => h) (Or.inl ⟨by rfl, ?_⟩) ?_ ?_
                                    rotate_left
                                    · intro w'
                                      go_simp
                                      with_reducible rfl
                                    rotate_left
                                    · simp only [Act.put, List.setIfInBounds_toArray, List.set_cons_zero, List.set_cons_succ, i64_w, i32_w]
                                      rfl
                                    refine pure_ (i := 6) (N := some 132) (v := ?_) (a' := ?_) #[true, true, true, true, true, true, true, false, false, false, false, false, false, false, false, false, false, false, false] rfl rfl (any_of HT_.out (by kernel_rfl)) (fun _ _ _ h => h) (Or.inl ⟨by rfl, ?_⟩) ?_ ?_
                                    rotate_left
                                    · intro w'
                                      go_simp
                                      with_reducible rfl
                                    rotate_left
                                    · simp only [Act.put, List.setIfInBounds_toArray, List.set_cons_zero, List.set_cons_succ, i64_w, i32_w]
                                      rfl
                                    refine pure_ (i := 7) (N := some 133) (v := ?_) (a' := ?_) #[true, true, true, true, true, true, true, true, false, false, false, false, false, false, false, false, false, false, false] rfl rfl (any_of HT_.out (by kernel_rfl)) (fun _ _ _ h => h) (Or.inl ⟨by rfl, ?_⟩) ?_ ?_
                                    rotate_left
                                    · intro w'
                                      go_simp
                                      with_reducible rfl
                                    rotate_left
                                    · simp only [Act.put, List.setIfInBounds_toArray, List.set_cons_zero, List.set_cons_succ, i64_w, i32_w]
                                      rfl
                                    refine pure_ (i := 8) (N := some 134) (v := ?_) (a' := ?_) #[true, true, true, true, true, true, true, true, true, false, false, false, false, false, false, false, false, false, false] rfl rfl (any_of HT_.out (by kernel_rfl)) (fun _ _ _ h => h) (Or.inl ⟨by rfl, ?_⟩) ?_ ?_
                                    rotate_left
                                    · intro w'
                                      go_simp
                                      with_reducible rfl
                                    rotate_left
                                    · simp only [Act.put, List.setIfInBounds_toArray, List.set_cons_zero, List.set_cons_succ, i64_w, i32_w]
                                      rfl
                                    refine pure_ (i := 11) (N := some 137) (v := ?_) (a' := ?_) #[true, true, true, true, true, true, true, true, true, false, false, true, false, false, false, false, false, false, false] rfl rfl (any_of HT_.out (by kernel_rfl)) (fun _ _ _ h => h) (Or.inl ⟨by rfl, ?_⟩) ?_ ?_
                                    rotate_left
                                    · intro w'
                                      go_simp
                                      with_reducible rfl
                                    rotate_left
                                    · simp only [Act.put, List.setIfInBounds_toArray, List.set_cons_zero, List.set_cons_succ, i64_w, i32_w]
                                      rfl
                                    refine pure_ (i := 12) (N := some 138) (v := ?_) (a' := ?_) #[true, true, true, true, true, true, true, true, true, false, false, true, true, false, false, false, false, false, false] rfl rfl (any_of HT_.out (by kernel_rfl)) (fun _ _ _ h => h) (Or.inl ⟨by rfl, ?_⟩) ?_ ?_
                                    rotate_left
                                    · intro w'
                                      go_simp
                                      with_reducible rfl
                                    rotate_left
                                    · simp only [Act.put, List.setIfInBounds_toArray, List.set_cons_zero, List.set_cons_succ, i64_w, i32_w]
                                      rfl
                                    refine pure_ (i := 13) (N := some 139) (v := ?_) (a' := ?_) #[true, true, true, true, true, true, true, true, true, false, false, true, true, true, false, false, false, false, false] rfl rfl (any_of HT_.out (by kernel_rfl)) (fun _ _ _ h => h) (Or.inl ⟨by rfl, ?_⟩) ?_ ?_
                                    rotate_left
                                    · intro w'
                                      go_simp
                                      with_reducible rfl
                                    rotate_left
                                    · simp only [Act.put, List.setIfInBounds_toArray, List.set_cons_zero, List.set_cons_succ, i64_w, i32_w]
                                      rfl
                                    refine take_ (i := 14) (N := some 140) (v := ?_) (a' := ?_) #[true, true, true, true, true, true, true, true, true, false, false, true, true, true, true, false, false, false, false] rfl rfl (take_ofW HT_.out HW_.out (by kernel_rfl)) (fun _ _ _ h => h) (Or.inl ⟨by rfl, ?_⟩) hHeld ?_ ?_
                                    rotate_left
                                    · intro w' s0
                                      go_simp
                                      with_reducible rfl
                                    rotate_left
                                    · simp only [Act.put, List.setIfInBounds_toArray, List.set_cons_zero, List.set_cons_succ, i64_w, i32_w]
                                      rfl
                                    refine one_ (i := 9) (N := some 135) #[true, true, true, true, true, true, true, true, true, true, false, true, true, true, true, false, false, false, false] rfl rfl (one_of HT_.out (by kernel_rfl)) (by decide) (fun K hK => ?_)
                                    refine goes_ Try.func22 (by kernel_rfl) rfl #[.slice none 0 0, .int .u64 t346] (by rfl) rfl rfl (by (try simp only [List.map_toArray, List.map_cons, List.map_nil]); first | done | rfl | (simp only [List.length_drop, List.length_take]; rfl)) ?_
                                    refine (num_Put.calls k3 _ _ ([] : List Int) t346 t349 _ ?side1 ?side2 A66.out).mono ?_
                                    (case side1 => exact Kd.C_nil _ _)
                                    (case side2 => exact Nat.le_refl _)
                                    rintro e w71 ⟨v350, rfl, ho0, hb⟩
                                    refine ⟨_, rfl, ?_⟩
                                    have n0_ := Aside0.mk (Kd.R_elder' (by (with_reducible repeat (first | apply Kd.R_alloc | apply Kd.R_drewN | apply Kd.R_drew)); exact HO_7.out) (Kd.R_base ho0) hb)
                                    have n1_ := Aside0.mk (Kd.R_lower (Kd.R_new' ho0 (Kd.R_lt (by (with_reducible repeat (first | apply Kd.R_alloc | apply Kd.R_drewN | apply Kd.R_drew)); exact HO_7.out))) (below_size (by repeat (first | (with_reducible first | exact HB.out | apply below_alloc | apply pw_below_drewN | apply below_drew1) | exact HB.out))))
                                    have n2_ := Aside0.mk (below_step (by repeat (first | (with_reducible first | exact HB.out | apply below_alloc | apply pw_below_drewN | apply below_drew1) | exact HB.out)) hb)
                                    clear HO_7
                                    clear HB
                                    have HO_7 := n0_
                                    have HO351 := n1_
                                    have HB := n2_
                                    clear n0_ n1_ n2_
                                    (try clear hb)
                                    (try clear hb2)
                                    (try clear hk)
                                    (try clear hi)
                                    (try clear ho0)
                                    refine hK.out _ _ ((C_string_n Try.underlying24 Try.underlying5 Try.underlying9 (Kd.C_below HR352.out (by repeat (first | exact HB.out | apply below_alloc | apply pw_below_drewN | apply below_drew1 | apply below_drew))) (by have hle_ : (t347 : Int) ≤ (l2.length : Int) := (by first | exact of_decide_eq_true (by first | (with_reducible assumption) | assumption) | exact of_eq_true (by assumption)); rw [List.length_take]; omega))) (fun hHeld => ?_)
                                    clear hK K
                                    refine norm_ (a' := ?_) ?_ ?_
                                    rotate_left
                                    · show Act.put _ (some 135) _ = _
                                      simp only [Act.put, List.setIfInBounds_toArray, List.set_cons_zero, List.set_cons_succ, i64_w, i32_w]
                                      rfl
                                    refine one_ (i := 10) (N := some 136) #[true, true, true, true, true, true, true, true, true, true, true, true, true, true, true, false, false, false, false] rfl rfl (one_of HT_.out (by kernel_rfl)) (by decide) (fun K hK => ?_)
                                    have hcv72 := own_string (P := Try.prog) Try.underlying24 Try.underlying5 Try.underlying9 (Kd.own_of_R HO351.out)
                                    refine value_ (w1 := ?_) (v := ?_) (by rfl) rfl ?_ ?_
                                    rotate_left 2
                                    · go_simp
                                      constructor
                                      · rfl
                                      · rfl
                                    clear hcv72
                                    refine hK.out _ _ ((C_string_n Try.underlying24 Try.underlying5 Try.underlying9 (Kd.C_below HR352.out (by repeat (first | exact HB.out | apply below_alloc | apply pw_below_drewN | apply below_drew1 | apply below_drew))) (by have hle_ : (t347 : Int) ≤ (l2.length : Int) := (by first | exact of_decide_eq_true (by first | (with_reducible assumption) | assumption) | exact of_eq_true (by assumption)); rw [List.length_take]; omega))) (fun hHeld => ?_)
                                    clear hK K
                                    refine norm_ (a' := ?_) ?_ ?_
                                    rotate_left
                                    · show Act.put _ (some 136) _ = _
                                      simp only [Act.put, List.setIfInBounds_toArray, List.set_cons_zero, List.set_cons_succ, i64_w, i32_w]
                                      rfl
                                    refine pure_ (i := 15) (N := some 141) (v := ?_) (a' := ?_) #[true, true, true, true, true, true, true, true, true, true, true, true, true, true, true, true, false, false, false] rfl rfl (any_of HT_.out (by kernel_rfl)) (fun _ _ _ h => h) (Or.inl ⟨by rfl, ?_⟩) ?_ ?_
                                    rotate_left
                                    · intro w'
                                      go_simp
                                      with_reducible rfl
                                    rotate_left
                                    · simp only [Act.put, List.setIfInBounds_toArray, List.set_cons_zero, List.set_cons_succ, i64_w, i32_w]
                                      rfl
                                    refine pure_ (i := 16) (N := some 142) (v := ?_) (a' := ?_) #[true, true, true, true, true, true, true, true, true, true, true, true, true, true, true, true, true, false, false] rfl rfl (any_of HT_.out (by kernel_rfl)) (fun _ _ _ h => h) (Or.inl ⟨by rfl, ?_⟩) ?_ ?_
                                    rotate_left
                                    · intro w'
                                      go_simp
                                      with_reducible rfl
                                    rotate_left
                                    · simp only [Act.put, List.setIfInBounds_toArray, List.set_cons_zero, List.set_cons_succ, i64_w, i32_w]
                                      rfl
                                    refine pure_ (i := 17) (N := some 143) (v := ?_) (a' := ?_) #[true, true, true, true, true, true, true, true, true, true, true, true, true, true, true, true, true, true, false] rfl rfl (any_of HT_.out (by kernel_rfl)) (fun _ _ _ h => h) (Or.inl ⟨by rfl, ?_⟩) ?_ ?_
                                    rotate_left
                                    · intro w'
                                      go_simp
                                      with_reducible rfl
                                    rotate_left
                                    · simp only [Act.put, List.setIfInBounds_toArray, List.set_cons_zero, List.set_cons_succ, i64_w, i32_w]
                                      rfl
                                    refine pure_ (i := 18) (N := some 6) (v := ?_) (a' := ?_) #[true, true, true, true, true, true, true, true, true, true, true, true, true, true, true, true, true, true, true] rfl rfl (any_of HT_.out (by kernel_rfl)) (fun _ _ _ h => h) (Or.inl ⟨by rfl, ?_⟩) ?_ ?_
                                    rotate_left
                                    · intro w'
                                      go_simp
                                      with_reducible rfl
                                    rotate_left
                                    · simp only [Act.put, List.setIfInBounds_toArray, List.set_cons_zero, List.set_cons_succ, i64_w, i32_w]
                                      rfl
                                    refine done_ (done_of HT_.out (by kernel_rfl)) ?_
                                    try go_wp2
                                    go_ret
                                    exact ⟨by first | rfl | (simp [errW_none, errW_some] <;> rfl) | (simp [*, errW_none, errW_some] <;> rfl), by repeat (first | (with_reducible first | exact HB.out | apply below_alloc | apply pw_below_drewN | apply below_drew1) | exact HB.out)⟩
                                  · rw [if_neg c67] at H
                                    exact absurd H (by simp)
                                · rw [if_neg c65] at H
                                  have c65b0 : decide (t347 ≤ (l2.length : Int)) = false := decide_eq_false c65
                                  clear c65
                                  obtain rfl := Option.some.inj H
                                  try go_wp2_with (first | ((with_reducible refine gate_callee (f := 24) rfl ?_); refine goesL_ (some 122) rfl rfl Try.func24 (by kernel_rfl) rfl #[.slice A2 l2.length c2] rfl (by (try simp only [List.map_toArray, List.map_cons, List.map_nil]); first | done | rfl | (simp only [List.length_drop, List.length_take]; rfl)) ?_; (with_reducible refine (num_Get.calls k3 _ _ l2 t346 t347 t348 _ ?side1 ?side2 A63.out).mono ?_); (case side1 => repeat (first | exact (Kd.C_below HR2.out HB.out) | (with_reducible refine Kd.C_alloc ?_ _) | (with_reducible refine Kd.C_drewN ?_ _) | (with_reducible refine Kd.C_drew ?_))); (case side2 => exact HC2.out); rintro e w' ⟨rfl, ⟨nd, rfl⟩⟩; refine ⟨_, rfl, ?_⟩))
                                  (try (rw [drewN_self wr]; generalize hq_ : World.drewN wr _ = wr; have n0_ : Aside0 (Kd.R (Kd.int .u8) 5 wr w.heap.size (fun _ => True) (.slice Ao23 t304.length co23) t304) := ⟨by rw [← hq_]; exact (by (with_reducible repeat (first | apply Kd.R_alloc | apply Kd.R_drewN | apply Kd.R_drew)); exact HO_7.out)⟩; have n1_ : Aside0 (Below w.heap.size w wr) := ⟨by rw [← hq_]; exact (by repeat (first | (with_reducible first | exact HB.out | apply below_alloc | apply pw_below_drewN | apply below_drew1) | exact HB.out))⟩; clear HO_7 HB hq_; have HO_7 := n0_; have HB := n1_; clear n0_ n1_))
                                  have n0_ := Aside0.mk (Kd.R_drew HO_7.out)
                                  have n1_ := Aside0.mk (below_drew1 HB.out)
                                  clear HO_7
                                  clear HB
                                  have HO_7 := n0_
                                  have HB := n1_
                                  clear n0_ n1_
                                  refine start_ (n := 19) (S := fun w' => True) (ds := []) #[false, false, false, false, false, false, false, false, false, false, false, false, false, false, false, false, false, false, false] (by kernel_rfl) rfl rfl trivial (fun hHeld => ?_); refine with_tabW tallymanlaw4_NumBack.tab18 tallymanlaw4_NumBack.bits18 (fun HT_ HW_ => ?_)
                                  generalize wr.drew = w74 at HO_7 HB hHeld ⊢
                                  refine pure_ (i := 0) (N := some 126) (v := ?_) (a' := ?_) #[true, false, false, false, false, false, false, false, false, false, false, false, false, false, false, false, false, false, false] rfl rfl (any_of HT_.out (by kernel_rfl)) (fun _ _ _ h => h) (Or.inl ⟨by rfl, ?_⟩) ?_ ?_
                                  rotate_left
                                  · intro w'
                                    go_simp
                                    with_reducible rfl
                                  rotate_left
                                  · simp only [Act.put, List.setIfInBounds_toArray, List.set_cons_zero, List.set_cons_succ, i64_w, i32_w]
                                    rfl
                                  refine pure_ (i := 1) (N := some 127) (v := ?_) (a' := ?_) #[true, true, false, false, false, false, false, false, false, false, false, false, false, false, false, false, false, false, false] rfl rfl (any_of HT_.out (by kernel_rfl)) (fun _ _ _ h => h) (Or.inl ⟨by rfl, ?_⟩) ?_ ?_
                                  rotate_left
                                  · intro w'
                                    go_simp
                                    with_reducible rfl
                                  rotate_left
                                  · simp only [Act.put, List.setIfInBounds_toArray, List.set_cons_zero, List.set_cons_succ, i64_w, i32_w]
                                    rfl
                                  refine pure_ (i := 2) (N := some 128) (v := ?_) (a' := ?_) #[true, true, true, false, false, false, false, false, false, false, false, false, false, false, false, false, false, false, false] rfl rfl (any_of HT_.out (by kernel_rfl)) (fun _ _ _ h => h) (Or.inl ⟨by rfl, ?_⟩) ?_ ?_
                                  rotate_left
                                  · intro w'
                                    go_simp
                                    with_reducible rfl
                                  rotate_left
                                  · simp only [Act.put, List.setIfInBounds_toArray, List.set_cons_zero, List.set_cons_succ, i64_w, i32_w]
                                    rfl
                                  refine pure_ (i := 3) (N := some 129) (v := ?_) (a' := ?_) #[true, true, true, true, false, false, false, false, false, false, false, false, false, false, false, false, false, false, false] rfl rfl (any_of HT_.out (by kernel_rfl)) (fun _ _ _ h => h) (Or.inl ⟨by rfl, ?_⟩) ?_ ?_
                                  rotate_left
                                  · intro w'
                                    go_simp
                                    with_reducible rfl
                                  rotate_left
                                  · simp only [Act.put, List.setIfInBounds_toArray, List.set_cons_zero, List.set_cons_succ, i64_w, i32_w]
                                    rfl
                                  refine pure_ (i := 4) (N := some 130) (v := ?_) (a' := ?_) #[true, true, true, true, true, false, false, false, false, false, false, false, false, false, false, false, false, false, false] rfl rfl (any_of HT_.out (by kernel_rfl)) (fun _ _ _ h => h) (Or.inl ⟨by rfl, ?_⟩) ?_ ?_
                                  rotate_left
                                  · intro w'
                                    go_simp
                                    with_reducible rfl
                                  rotate_left
                                  · simp only [Act.put, List.setIfInBounds_toArray, List.set_cons_zero, List.set_cons_succ, i64_w, i32_w]
                                    rfl
                                  refine pure_ (i := 5) (N := some 131) (v := ?_) (a' := ?_) #[true, true, true, true, true, true, false, false, false, false, false, false, false, false, false, false, false, false, false] rfl rfl (any_of HT_.out (by kernel_rfl)) (fun _ _ _ h => h) (Or.inl ⟨by rfl, ?_⟩) ?_ ?_
                                  rotate_left
                                  · intro w'
                                    go_simp
                                    with_reducible rfl
                                  rotate_left
                                  · simp only [Act.put, List.setIfInBounds_toArray, List.set_cons_zero, List.set_cons_succ, i64_w, i32_w]
                                    rfl
                                  refine pure_ (i := 6) (N := some 132) (v := ?_) (a' := ?_) #[true, true, true, true, true, true, true, false, false, false, false, false, false, false, false, false, false, false, false] rfl rfl (any_of HT_.out (by kernel_rfl)) (fun _ _ _ h => h) (Or.inl ⟨by rfl, ?_⟩) ?_ ?_
                                  rotate_left
                                  · intro w'
                                    go_simp
                                    with_reducible rfl
                                  rotate_left
                                  · simp only [Act.put, List.setIfInBounds_toArray, List.set_cons_zero, List.set_cons_succ, i64_w, i32_w]
                                    rfl
                                  refine pure_ (i := 7) (N := some 133) (v := ?_) (a' := ?_) #[true, true, true, true, true, true, true, true, false, false, false, false, false, false, false, false, false, false, false] rfl rfl (any_of HT_.out (by kernel_rfl)) (fun _ _ _ h => h) (Or.inl ⟨by rfl, ?_⟩) ?_ ?_
                                  rotate_left
                                  · intro w'
                                    go_simp
                                    with_reducible rfl
                                  rotate_left
                                  · simp only [Act.put, List.setIfInBounds_toArray, List.set_cons_zero, List.set_cons_succ, i64_w, i32_w]
                                    rfl
                                  refine pure_ (i := 8) (N := some 134) (v := undef) (a' := ?_) #[true, true, true, true, true, true, true, true, true, false, false, false, false, false, false, false, false, false, false] rfl rfl (any_of HT_.out (by kernel_rfl)) (fun _ _ _ h => h) (Or.inr ⟨by rfl, rfl⟩) ?_ ?_
                                  rotate_left
                                  · simp only [Act.put, List.setIfInBounds_toArray, List.set_cons_zero, List.set_cons_succ, i64_w, i32_w]
                                    rfl
                                  refine pure_ (i := 9) (N := some 135) (v := undef) (a' := ?_) #[true, true, true, true, true, true, true, true, true, true, false, false, false, false, false, false, false, false, false] rfl rfl (any_of HT_.out (by kernel_rfl)) (fun _ _ _ h => h) (Or.inr ⟨by rfl, rfl⟩) ?_ ?_
                                  rotate_left
                                  · simp only [Act.put, List.setIfInBounds_toArray, List.set_cons_zero, List.set_cons_succ, i64_w, i32_w]
                                    rfl
                                  refine pure_ (i := 10) (N := some 136) (v := undef) (a' := ?_) #[true, true, true, true, true, true, true, true, true, true, true, false, false, false, false, false, false, false, false] rfl rfl (any_of HT_.out (by kernel_rfl)) (fun _ _ _ h => h) (Or.inr ⟨by rfl, rfl⟩) ?_ ?_
                                  rotate_left
                                  · simp only [Act.put, List.setIfInBounds_toArray, List.set_cons_zero, List.set_cons_succ, i64_w, i32_w]
                                    rfl
                                  refine pure_ (i := 11) (N := some 137) (v := undef) (a' := ?_) #[true, true, true, true, true, true, true, true, true, true, true, true, false, false, false, false, false, false, false] rfl rfl (any_of HT_.out (by kernel_rfl)) (fun _ _ _ h => h) (Or.inr ⟨by rfl, rfl⟩) ?_ ?_
                                  rotate_left
                                  · simp only [Act.put, List.setIfInBounds_toArray, List.set_cons_zero, List.set_cons_succ, i64_w, i32_w]
                                    rfl
                                  refine pure_ (i := 12) (N := some 138) (v := undef) (a' := ?_) #[true, true, true, true, true, true, true, true, true, true, true, true, true, false, false, false, false, false, false] rfl rfl (any_of HT_.out (by kernel_rfl)) (fun _ _ _ h => h) (Or.inr ⟨by rfl, rfl⟩) ?_ ?_
                                  rotate_left
                                  · simp only [Act.put, List.setIfInBounds_toArray, List.set_cons_zero, List.set_cons_succ, i64_w, i32_w]
                                    rfl
                                  refine pure_ (i := 13) (N := some 139) (v := undef) (a' := ?_) #[true, true, true, true, true, true, true, true, true, true, true, true, true, true, false, false, false, false, false] rfl rfl (any_of HT_.out (by kernel_rfl)) (fun _ _ _ h => h) (Or.inr ⟨by rfl, rfl⟩) ?_ ?_
                                  rotate_left
                                  · simp only [Act.put, List.setIfInBounds_toArray, List.set_cons_zero, List.set_cons_succ, i64_w, i32_w]
                                    rfl
                                  refine pure_ (i := 14) (N := some 140) (v := undef) (a' := ?_) #[true, true, true, true, true, true, true, true, true, true, true, true, true, true, true, false, false, false, false] rfl rfl (any_of HT_.out (by kernel_rfl)) (fun _ _ _ h => h) (Or.inr ⟨by rfl, rfl⟩) ?_ ?_
                                  rotate_left
                                  · simp only [Act.put, List.setIfInBounds_toArray, List.set_cons_zero, List.set_cons_succ, i64_w, i32_w]
                                    rfl
                                  refine pure_ (i := 15) (N := some 141) (v := undef) (a' := ?_) #[true, true, true, true, true, true, true, true, true, true, true, true, true, true, true, true, false, false, false] rfl rfl (any_of HT_.out (by kernel_rfl)) (fun _ _ _ h => h) (Or.inr ⟨by rfl, rfl⟩) ?_ ?_
                                  rotate_left
                                  · simp only [Act.put, List.setIfInBounds_toArray, List.set_cons_zero, List.set_cons_succ, i64_w, i32_w]
                                    rfl
                                  refine pure_ (i := 16) (N := some 142) (v := ?_) (a' := ?_) #[true, true, true, true, true, true, true, true, true, true, true, true, true, true, true, true, true, false, false] rfl rfl (any_of HT_.out (by kernel_rfl)) (fun _ _ _ h => h) (Or.inl ⟨by rfl, ?_⟩) ?_ ?_
                                  rotate_left
                                  · intro w'
                                    go_simp
                                    with_reducible rfl
                                  rotate_left
                                  · simp only [Act.put, List.setIfInBounds_toArray, List.set_cons_zero, List.set_cons_succ, i64_w, i32_w]
                                    rfl
                                  refine pure_ (i := 17) (N := some 143) (v := ?_) (a' := ?_) #[true, true, true, true, true, true, true, true, true, true, true, true, true, true, true, true, true, true, false] rfl rfl (any_of HT_.out (by kernel_rfl)) (fun _ _ _ h => h) (Or.inl ⟨by rfl, ?_⟩) ?_ ?_
                                  rotate_left
                                  · intro w'
                                    go_simp
                                    with_reducible rfl
                                  rotate_left
                                  · simp only [Act.put, List.setIfInBounds_toArray, List.set_cons_zero, List.set_cons_succ, i64_w, i32_w]
                                    rfl
                                  refine pure_ (i := 18) (N := some 6) (v := ?_) (a' := ?_) #[true, true, true, true, true, true, true, true, true, true, true, true, true, true, true, true, true, true, true] rfl rfl (any_of HT_.out (by kernel_rfl)) (fun _ _ _ h => h) (Or.inl ⟨by rfl, ?_⟩) ?_ ?_
                                  rotate_left
                                  · intro w'
                                    go_simp
                                    with_reducible rfl
                                  rotate_left
                                  · simp only [Act.put, List.setIfInBounds_toArray, List.set_cons_zero, List.set_cons_succ, i64_w, i32_w]
                                    rfl
                                  refine done_ (done_of HT_.out (by kernel_rfl)) ?_
                                  try go_wp2
                                  go_ret
                                  exact ⟨by first | rfl | (simp [errW_none, errW_some] <;> rfl) | (simp [*, errW_none, errW_some] <;> rfl), by repeat (first | (with_reducible first | exact HB.out | apply below_alloc | apply pw_below_drewN | apply below_drew1) | exact HB.out)⟩
                              · rw [if_neg c64] at H
                                have c64b0 : (t348 == 0) = false := beq_eq_false_iff_ne.mpr c64
                                have c64b1 : (t348 != 0) = true := bne_iff_ne.mpr c64
                                obtain rfl := Option.some.inj H
                                try go_wp2_with (first | ((with_reducible refine gate_callee (f := 24) rfl ?_); refine goesL_ (some 122) rfl rfl Try.func24 (by kernel_rfl) rfl #[.slice A2 l2.length c2] rfl (by (try simp only [List.map_toArray, List.map_cons, List.map_nil]); first | done | rfl | (simp only [List.length_drop, List.length_take]; rfl)) ?_; (with_reducible refine (num_Get.calls k3 _ _ l2 t346 t347 t348 _ ?side1 ?side2 A63.out).mono ?_); (case side1 => repeat (first | exact (Kd.C_below HR2.out HB.out) | (with_reducible refine Kd.C_alloc ?_ _) | (with_reducible refine Kd.C_drewN ?_ _) | (with_reducible refine Kd.C_drew ?_))); (case side2 => exact HC2.out); rintro e w' ⟨rfl, ⟨nd, rfl⟩⟩; refine ⟨_, rfl, ?_⟩))
                                (try (rw [drewN_self wr]; generalize hq_ : World.drewN wr _ = wr; have n0_ : Aside0 (Kd.R (Kd.int .u8) 5 wr w.heap.size (fun _ => True) (.slice Ao23 t304.length co23) t304) := ⟨by rw [← hq_]; exact (by (with_reducible repeat (first | apply Kd.R_alloc | apply Kd.R_drewN | apply Kd.R_drew)); exact HO_7.out)⟩; have n1_ : Aside0 (Below w.heap.size w wr) := ⟨by rw [← hq_]; exact (by repeat (first | (with_reducible first | exact HB.out | apply below_alloc | apply pw_below_drewN | apply below_drew1) | exact HB.out))⟩; clear HO_7 HB hq_; have HO_7 := n0_; have HB := n1_; clear n0_ n1_))
                                have n0_ := Aside0.mk (Kd.R_drew HO_7.out)
                                have n1_ := Aside0.mk (below_drew1 HB.out)
                                clear HO_7
                                clear HB
                                have HO_7 := n0_
                                have HB := n1_
                                clear n0_ n1_
                                refine start_ (n := 19) (S := fun w' => True) (ds := []) #[false, false, false, false, false, false, false, false, false, false, false, false, false, false, false, false, false, false, false] (by kernel_rfl) rfl rfl trivial (fun hHeld => ?_); refine with_tabW tallymanlaw4_NumBack.tab18 tallymanlaw4_NumBack.bits18 (fun HT_ HW_ => ?_)
                                generalize wr.drew = w75 at HO_7 HB hHeld ⊢
                                refine pure_ (i := 0) (N := some 126) (v := ?_) (a' := ?_) #[true, false, false, false, false, false, false, false, false, false, false, false, false, false, false, false, false, false, false] rfl rfl (any_of HT_.out (by kernel_rfl)) (fun _ _ _ h => h) (Or.inl ⟨by rfl, ?_⟩) ?_ ?_
                                rotate_left
                                · intro w'
                                  go_simp
                                  with_reducible rfl
                                rotate_left
                                · simp only [Act.put, List.setIfInBounds_toArray, List.set_cons_zero, List.set_cons_succ, i64_w, i32_w]
                                  rfl
                                refine pure_ (i := 1) (N := some 127) (v := ?_) (a' := ?_) #[true, true, false, false, false, false, false, false, false, false, false, false, false, false, false, false, false, false, false] rfl rfl (any_of HT_.out (by kernel_rfl)) (fun _ _ _ h => h) (Or.inl ⟨by rfl, ?_⟩) ?_ ?_
                                rotate_left
                                · intro w'
                                  go_simp
                                  with_reducible rfl
                                rotate_left
                                · simp only [Act.put, List.setIfInBounds_toArray, List.set_cons_zero, List.set_cons_succ, i64_w, i32_w]
                                  rfl
                                refine pure_ (i := 2) (N := some 128) (v := ?_) (a' := ?_) #[true, true, true, false, false, false, false, false, false, false, false, false, false, false, false, false, false, false, false] rfl rfl (any_of HT_.out (by kernel_rfl)) (fun _ _ _ h => h) (Or.inl ⟨by rfl, ?_⟩) ?_ ?_
                                rotate_left
                                · intro w'
                                  go_simp
                                  with_reducible rfl
                                rotate_left
                                · simp only [Act.put, List.setIfInBounds_toArray, List.set_cons_zero, List.set_cons_succ, i64_w, i32_w]
                                  rfl
                                refine pure_ (i := 3) (N := some 129) (v := undef) (a' := ?_) #[true, true, true, true, false, false, false, false, false, false, false, false, false, false, false, false, false, false, false] rfl rfl (any_of HT_.out (by kernel_rfl)) (fun _ _ _ h => h) (Or.inr ⟨by rfl, rfl⟩) ?_ ?_
                                rotate_left
                                · simp only [Act.put, List.setIfInBounds_toArray, List.set_cons_zero, List.set_cons_succ, i64_w, i32_w]
                                  rfl
                                refine pure_ (i := 4) (N := some 130) (v := undef) (a' := ?_) #[true, true, true, true, true, false, false, false, false, false, false, false, false, false, false, false, false, false, false] rfl rfl (any_of HT_.out (by kernel_rfl)) (fun _ _ _ h => h) (Or.inr ⟨by rfl, rfl⟩) ?_ ?_
                                rotate_left
                                · simp only [Act.put, List.setIfInBounds_toArray, List.set_cons_zero, List.set_cons_succ, i64_w, i32_w]
                                  rfl
                                refine pure_ (i := 5) (N := some 131) (v := undef) (a' := ?_) #[true, true, true, true, true, true, false, false, false, false, false, false, false, false, false, false, false, false, false] rfl rfl (any_of HT_.out (by kernel_rfl)) (fun _ _ _ h => h) (Or.inr ⟨by rfl, rfl⟩) ?_ ?_
                                rotate_left
                                · simp only [Act.put, List.setIfInBounds_toArray, List.set_cons_zero, List.set_cons_succ, i64_w, i32_w]
                                  rfl
                                refine pure_ (i := 6) (N := some 132) (v := undef) (a' := ?_) #[true, true, true, true, true, true, true, false, false, false, false, false, false, false, false, false, false, false, false] rfl rfl (any_of HT_.out (by kernel_rfl)) (fun _ _ _ h => h) (Or.inr ⟨by rfl, rfl⟩) ?_ ?_
                                rotate_left
                                · simp only [Act.put, List.setIfInBounds_toArray, List.set_cons_zero, List.set_cons_succ, i64_w, i32_w]
                                  rfl
                                refine pure_ (i := 7) (N := some 133) (v := undef) (a' := ?_) #[true, true, true, true, true, true, true, true, false, false, false, false, false, false, false, false, false, false, false] rfl rfl (any_of HT_.out (by kernel_rfl)) (fun _ _ _ h => h) (Or.inr ⟨by rfl, rfl⟩) ?_ ?_
                                rotate_left
                                · simp only [Act.put, List.setIfInBounds_toArray, List.set_cons_zero, List.set_cons_succ, i64_w, i32_w]
                                  rfl
                                refine pure_ (i := 8) (N := some 134) (v := undef) (a' := ?_) #[true, true, true, true, true, true, true, true, true, false, false, false, false, false, false, false, false, false, false] rfl rfl (any_of HT_.out (by kernel_rfl)) (fun _ _ _ h => h) (Or.inr ⟨by rfl, rfl⟩) ?_ ?_
                                rotate_left
                                · simp only [Act.put, List.setIfInBounds_toArray, List.set_cons_zero, List.set_cons_succ, i64_w, i32_w]
                                  rfl
                                refine pure_ (i := 9) (N := some 135) (v := undef) (a' := ?_) #[true, true, true, true, true, true, true, true, true, true, false, false, false, false, false, false, false, false, false] rfl rfl (any_of HT_.out (by kernel_rfl)) (fun _ _ _ h => h) (Or.inr ⟨by rfl, rfl⟩) ?_ ?_
                                rotate_left
                                · simp only [Act.put, List.setIfInBounds_toArray, List.set_cons_zero, List.set_cons_succ, i64_w, i32_w]
                                  rfl
                                refine pure_ (i := 10) (N := some 136) (v := undef) (a' := ?_) #[true, true, true, true, true, true, true, true, true, true, true, false, false, false, false, false, false, false, false] rfl rfl (any_of HT_.out (by kernel_rfl)) (fun _ _ _ h => h) (Or.inr ⟨by rfl, rfl⟩) ?_ ?_
                                rotate_left
                                · simp only [Act.put, List.setIfInBounds_toArray, List.set_cons_zero, List.set_cons_succ, i64_w, i32_w]
                                  rfl
                                refine pure_ (i := 11) (N := some 137) (v := undef) (a' := ?_) #[true, true, true, true, true, true, true, true, true, true, true, true, false, false, false, false, false, false, false] rfl rfl (any_of HT_.out (by kernel_rfl)) (fun _ _ _ h => h) (Or.inr ⟨by rfl, rfl⟩) ?_ ?_
                                rotate_left
                                · simp only [Act.put, List.setIfInBounds_toArray, List.set_cons_zero, List.set_cons_succ, i64_w, i32_w]
                                  rfl
                                refine pure_ (i := 12) (N := some 138) (v := undef) (a' := ?_) #[true, true, true, true, true, true, true, true, true, true, true, true, true, false, false, false, false, false, false] rfl rfl (any_of HT_.out (by kernel_rfl)) (fun _ _ _ h => h) (Or.inr ⟨by rfl, rfl⟩) ?_ ?_
                                rotate_left
                                · simp only [Act.put, List.setIfInBounds_toArray, List.set_cons_zero, List.set_cons_succ, i64_w, i32_w]
                                  rfl
                                refine pure_ (i := 13) (N := some 139) (v := undef) (a' := ?_) #[true, true, true, true, true, true, true, true, true, true, true, true, true, true, false, false, false, false, false] rfl rfl (any_of HT_.out (by kernel_rfl)) (fun _ _ _ h => h) (Or.inr ⟨by rfl, rfl⟩) ?_ ?_
                                rotate_left
                                · simp only [Act.put, List.setIfInBounds_toArray, List.set_cons_zero, List.set_cons_succ, i64_w, i32_w]
                                  rfl
                                refine pure_ (i := 14) (N := some 140) (v := undef) (a' := ?_) #[true, true, true, true, true, true, true, true, true, true, true, true, true, true, true, false, false, false, false] rfl rfl (any_of HT_.out (by kernel_rfl)) (fun _ _ _ h => h) (Or.inr ⟨by rfl, rfl⟩) ?_ ?_
                                rotate_left
                                · simp only [Act.put, List.setIfInBounds_toArray, List.set_cons_zero, List.set_cons_succ, i64_w, i32_w]
                                  rfl
                                refine pure_ (i := 15) (N := some 141) (v := undef) (a' := ?_) #[true, true, true, true, true, true, true, true, true, true, true, true, true, true, true, true, false, false, false] rfl rfl (any_of HT_.out (by kernel_rfl)) (fun _ _ _ h => h) (Or.inr ⟨by rfl, rfl⟩) ?_ ?_
                                rotate_left
                                · simp only [Act.put, List.setIfInBounds_toArray, List.set_cons_zero, List.set_cons_succ, i64_w, i32_w]
                                  rfl
                                refine pure_ (i := 16) (N := some 142) (v := undef) (a' := ?_) #[true, true, true, true, true, true, true, true, true, true, true, true, true, true, true, true, true, false, false] rfl rfl (any_of HT_.out (by kernel_rfl)) (fun _ _ _ h => h) (Or.inr ⟨by rfl, rfl⟩) ?_ ?_
                                rotate_left
                                · simp only [Act.put, List.setIfInBounds_toArray, List.set_cons_zero, List.set_cons_succ, i64_w, i32_w]
                                  rfl
                                refine pure_ (i := 17) (N := some 143) (v := ?_) (a' := ?_) #[true, true, true, true, true, true, true, true, true, true, true, true, true, true, true, true, true, true, false] rfl rfl (any_of HT_.out (by kernel_rfl)) (fun _ _ _ h => h) (Or.inl ⟨by rfl, ?_⟩) ?_ ?_
                                rotate_left
                                · intro w'
                                  go_simp
                                  with_reducible rfl
                                rotate_left
                                · simp only [Act.put, List.setIfInBounds_toArray, List.set_cons_zero, List.set_cons_succ, i64_w, i32_w]
                                  rfl
                                refine pure_ (i := 18) (N := some 6) (v := ?_) (a' := ?_) #[true, true, true, true, true, true, true, true, true, true, true, true, true, true, true, true, true, true, true] rfl rfl (any_of HT_.out (by kernel_rfl)) (fun _ _ _ h => h) (Or.inl ⟨by rfl, ?_⟩) ?_ ?_
                                rotate_left
                                · intro w'
                                  go_simp
                                  with_reducible rfl
                                rotate_left
                                · simp only [Act.put, List.setIfInBounds_toArray, List.set_cons_zero, List.set_cons_succ, i64_w, i32_w]
                                  rfl
                                refine done_ (done_of HT_.out (by kernel_rfl)) ?_
                                try go_wp2
                                go_ret
                                exact ⟨by first | rfl | (simp [errW_none, errW_some] <;> rfl) | (simp [*, errW_none, errW_some] <;> rfl), by repeat (first | (with_reducible first | exact HB.out | apply below_alloc | apply pw_below_drewN | apply below_drew1) | exact HB.out)⟩
                · rw [if_neg c16] at H
                  exact absurd H (by simp)
              · rw [if_neg c15] at H
                exact absurd H (by simp)
            · rw [if_neg c12] at H
              exact absurd H (by simp)
          · rw [if_neg c11] at H
            exact absurd H (by simp)
  · replace c5 := Bool.eq_false_iff.mpr c5
    subst c5
    have H1 : (some false) = some r := by rw [if_neg (show ¬ (false = true) by decide)] at H; exact H
    clear H
    have H := H1
    clear H1
    obtain rfl := Option.some.inj H
    go_enter Try.func7, Try.ntmps7
    go_wp2_with (first | ((with_reducible refine gate_callee (f := 21) rfl ?_); refine goesL_ (some 22) rfl rfl Try.func21 (by kernel_rfl) rfl #[] rfl (by (try simp only [List.map_toArray, List.map_cons, List.map_nil]); first | done | rfl | (simp only [List.length_drop, List.length_take]; rfl)) ?_; (with_reducible refine (tallymanlaw4_awake.calls k  false _ A4.out).mono ?_); rintro e w76 ⟨rfl, hb⟩; refine ⟨_, rfl, ?_⟩; have n0_ := Aside0.mk (below_step (by repeat (first | (with_reducible first | exact HB.out | apply below_alloc | apply pw_below_drewN | apply below_drew1) | exact HB.out)) hb); clear HB; have HB := n0_; clear n0_; (try clear hb); (try clear hb2); (try clear hk); (try clear hi)))
    go_ret
    exact ⟨by first | rfl | (simp [errW_none, errW_some] <;> rfl) | (simp [*, errW_none, errW_some] <;> rfl), by repeat (first | (with_reducible first | exact HB.out | apply below_alloc | apply pw_below_drewN | apply below_drew1) | exact HB.out)⟩

/-- THE ONE PURE STATEMENT of tallymanlaw4_NumBack: yours. -/
def tallymanlaw4_NumBack.Pure : Prop := ∀ (a0 : Int) (l1 : List Int) (l2 : List Int), (Lit.int .u64 a0).wf = true → l1.length ≤ maxLen → l1.length * 1 ≤ 140737488351232 → (∀ x ∈ l1, (Lit.int .u8 x).wf = true) → l2.length ≤ maxLen → l2.length * 1 ≤ 140737488351232 → (∀ x ∈ l2, (Lit.int .u8 x).wf = true) → ∃ k, tallymanlaw4_NumBack.f k a0 l1 l2 = some true
theorem tallymanlaw4_NumBack.walk (P : tallymanlaw4_NumBack.Pure) (a0 : Int) (a1 : Option Addr) (len1 cap1 : Nat) (z1 : List Int) (a2 : Option Addr) (len2 cap2 : Nat) (z2 : List Int) (w : World) (w0 : (Lit.int .u64 a0).wf = true) (w1 : (a1 = none ∧ len1 = 0 ∧ cap1 = 0 ∧ z1 = []) ∨ ∃ x, a1 = some x ∧ len1 ≤ cap1 ∧ cap1 ≤ maxLen ∧ z1.length = cap1 ∧ (∀ i, i < z1.length → w.cell? (x.add i) = some (.int .u8 (z1.getD i 0))) ∧ ∀ n ∈ z1, (Lit.int .u8 n).wf = true) (y1 : len1 * 1 ≤ 140737488351232) (w2 : (a2 = none ∧ len2 = 0 ∧ cap2 = 0 ∧ z2 = []) ∨ ∃ x, a2 = some x ∧ len2 ≤ cap2 ∧ cap2 ≤ maxLen ∧ z2.length = cap2 ∧ (∀ i, i < z2.length → w.cell? (x.add i) = some (.int .u8 (z2.getD i 0))) ∧ ∀ n ∈ z2, (Lit.int .u8 n).wf = true) (y2 : len2 * 1 ≤ 140737488351232) :
    Calls Try.prog 7 #[.int .u64 a0, .slice a1 len1 cap1, .slice a2 len2 cap2] w fun e w' => e = .returned (.bool true) ∧ Below w.heap.size w w' := by
  obtain ⟨l1, rfl, hr1, hm1, hw1, hc1⟩ := ReadsInt.ofRowC w1
  obtain ⟨l2, rfl, hr2, hm2, hw2, hc2⟩ := ReadsInt.ofRowC w2
  obtain ⟨k, h⟩ := P a0 l1 l2 w0 hm1 y1 hw1 hm2 y2 hw2
  refine (tallymanlaw4_NumBack.calls k a0 _ _ l1 _ _ l2 true w (Kd.C_of_reads (d := (0 : Int)) (h1 := fun _ => rfl) hr1) hc1 (Kd.C_of_reads (d := (0 : Int)) (h1 := fun _ => rfl) hr2) hc2 h).mono ?_
  rintro e w' ⟨rfl, hd⟩
  exact ⟨rfl, hd⟩

end Go.Proofs.Ytlaojndlelcdaaa.P
