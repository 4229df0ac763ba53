/- Put together by pack.py: PfTallymanlaw8TreeBack -/
import Derived.Test.YtidlldfghkaeeaaDoorZbPx0
import Derived.Test.YtidlldfghkaeeaaDoorZbPfTreeBytes
import Derived.Test.YtidlldfghkaeeaaDoorZbPfTreeFind
import Derived.Test.YtidlldfghkaeeaaDoorZbPfTreeMake
import Derived.Test.YtidlldfghkaeeaaDoorZbPfTreePut
import Derived.Test.YtidlldfghkaeeaaDoorZbTreeAwk
import Derived.Test.YtidlldfghkaeeaaDoorZbTreeOk
import Derived.Test.YtidlldfghkaeeaaDoorZbTreeRem
import Derived.Test.YtidlldfghkaeeaaDoorZbTreeSam
namespace Go.Proofs.YtidlldfghkaeeaaDoor.P
open Go.RowKit Go.Proofs.YtidlldfghkaeeaaDoorW.PrintWords Go.Proofs.YtidlldfghkaeeaaDoorW.PrintLast Go.Proofs.YtidlldfghkaeeaaDoorW.PrintMore
attribute [local go_sem] max2_int min2_int max_two min_two max_three min_three max_four min_four   -- for this text's walks alone
set_option linter.unusedVariables false
set_option linter.unusedSimpArgs false
/-! ### tallymanlaw8_TreeBack: function 3 -/
mutual
def tallymanlaw8_TreeBack.j0 : Nat → ByteArray → List Int → Bool → List (S30) → Option (Bool)
  | 0, _, _, _, _ => none
  | k + 1, x1, x2, x44, x171000 => if x44 = true then (some true) else ((tree_Find.f x171000 x1).bind fun bt173 => ((tree_Put.f x171000 x1 x2).bind fun bt180 => ((tree_Make.f x171000 x1).bind fun bt185 => (if bt180.2 = 0 then (tallymanlaw8_TreeBack.j1 k x1 bt173.2.2.2 bt185.2 (bt173.2.2.2 == 5) x171000 bt180.1 bt185.1) else (tallymanlaw8_TreeBack.j1 k x1 bt173.2.2.2 bt185.2 false x171000 bt180.1 bt185.1)))))
def tallymanlaw8_TreeBack.j1 : Nat → ByteArray → Int → Int → Bool → List (S30) → List (S30) → List (S30) → Option (Bool)
  | 0, _, _, _, _, _, _, _ => none
  | k + 1, x1, x9, x13, x69, x171000, x185000, x190000 => if x69 = true then ((tree_Remove.f x185000 x1).bind fun bt190 => (if bt190.2 = 0 then ((tree_Same.f bt190.1 x171000).bind fun t195 => (if t195 = true then (tallymanlaw8_TreeBack.j2 k x1 x9 x13 x171000 x185000 x190000) else (some false))) else (some false))) else (tallymanlaw8_TreeBack.j2 k x1 x9 x13 x171000 x185000 x190000)
def tallymanlaw8_TreeBack.j2 : Nat → ByteArray → Int → Int → List (S30) → List (S30) → List (S30) → Option (Bool)
  | 0, _, _, _, _, _, _ => none
  | k + 1, x1, x9, x13, x171000, x185000, x190000 => if x13 = 0 then ((tree_Remove.f x190000 x1).bind fun bt196 => (if bt196.2 = 0 then ((tree_Same.f bt196.1 x171000).bind fun t201 => (if t201 = true then (tallymanlaw8_TreeBack.j3 k (x9 != 5) x185000 x190000) else (tallymanlaw8_TreeBack.j3 k true x185000 x190000))) else (tallymanlaw8_TreeBack.j3 k true x185000 x190000))) else ((tree_Good.f x185000).bind fun t204 => (if t204 = true then ((tree_Good.f x190000).bind fun t205 => (some t205)) else (some false)))
def tallymanlaw8_TreeBack.j3 : Nat → Bool → List (S30) → List (S30) → Option (Bool)
  | 0, _, _, _ => none
  | k + 1, x103, x185000, x190000 => if x103 = true then (some false) else ((tree_Good.f x185000).bind fun t202 => (if t202 = true then ((tree_Good.f x190000).bind fun t203 => (some t203)) else (some false)))
end
def tallymanlaw8_TreeBack.f (k : Nat) (l0 : List (S30)) (a1 : ByteArray) (l2 : List Int) : Option (Bool) := (tallymanlaw8_awake.f).bind fun t169 => (if t169 = true then (if (l0.length : Int) > 40 then (tallymanlaw8_TreeBack.j0 k a1 l2 true l0) else ((tree_Good.f l0).bind fun t171 => (if t171 = true then ((tree_Bytes.f k l0).bind fun t172 => (if t172 > 5000 then (tallymanlaw8_TreeBack.j0 k a1 l2 true l0) else (if (a1.size : Int) > 100 then (tallymanlaw8_TreeBack.j0 k a1 l2 true l0) else (tallymanlaw8_TreeBack.j0 k a1 l2 (decide ((l2.length : Int) > 500)) l0)))) else (tallymanlaw8_TreeBack.j0 k a1 l2 true l0)))) else (some false))
theorem tallymanlaw8_TreeBack.mono_l : ∀ k, (∀ y0 y1 y2 y3, LeO (tallymanlaw8_TreeBack.j0 k y0 y1 y2 y3) (tallymanlaw8_TreeBack.j0 (k + 1) y0 y1 y2 y3)) ∧ (∀ y0 y1 y2 y3 y4 y5 y6, LeO (tallymanlaw8_TreeBack.j1 k y0 y1 y2 y3 y4 y5 y6) (tallymanlaw8_TreeBack.j1 (k + 1) y0 y1 y2 y3 y4 y5 y6)) ∧ (∀ y0 y1 y2 y3 y4 y5, LeO (tallymanlaw8_TreeBack.j2 k y0 y1 y2 y3 y4 y5) (tallymanlaw8_TreeBack.j2 (k + 1) y0 y1 y2 y3 y4 y5)) ∧ (∀ y0 y1 y2, LeO (tallymanlaw8_TreeBack.j3 k y0 y1 y2) (tallymanlaw8_TreeBack.j3 (k + 1) y0 y1 y2))
  | 0 => ⟨fun _ _ _ _ r h => by simp [tallymanlaw8_TreeBack.j0] at h, fun _ _ _ _ _ _ _ r h => by simp [tallymanlaw8_TreeBack.j1] at h, fun _ _ _ _ _ _ r h => by simp [tallymanlaw8_TreeBack.j2] at h, fun _ _ _ r h => by simp [tallymanlaw8_TreeBack.j3] at h⟩
  | k + 1 => by
    obtain ⟨ih0, ih1, ih2, ih3⟩ := tallymanlaw8_TreeBack.mono_l k
    refine ⟨?_, ?_, ?_, ?_⟩
    · intro y0 y1 y2 y3
      unfold tallymanlaw8_TreeBack.j0
      repeat' first
      | (with_reducible exact ih0 _ _ _ _)
      | (with_reducible exact ih1 _ _ _ _ _ _ _)
      | (with_reducible exact ih2 _ _ _ _ _ _)
      | (with_reducible exact ih3 _ _ _)
      | (with_reducible exact tree_Bytes.mono _ _)
      | (with_reducible exact LeO.refl _)
      | (with_reducible exact LeO.none _)
      | (with_reducible refine LeO.ite ?_ ?_)
      | (with_reducible refine LeO.bind ?_ (fun _ => ?_))
      | exact ih0 _ _ _ _
      | exact ih1 _ _ _ _ _ _ _
      | exact ih2 _ _ _ _ _ _
      | exact ih3 _ _ _
      | exact tree_Bytes.mono _ _
      | exact LeO.none _
      | refine LeO.ite ?_ ?_
      | refine LeO.bind ?_ (fun _ => ?_)
    · intro y0 y1 y2 y3 y4 y5 y6
      unfold tallymanlaw8_TreeBack.j1
      repeat' first
      | (with_reducible exact ih0 _ _ _ _)
      | (with_reducible exact ih1 _ _ _ _ _ _ _)
      | (with_reducible exact ih2 _ _ _ _ _ _)
      | (with_reducible exact ih3 _ _ _)
      | (with_reducible exact tree_Bytes.mono _ _)
      | (with_reducible exact LeO.refl _)
      | (with_reducible exact LeO.none _)
      | (with_reducible refine LeO.ite ?_ ?_)
      | (with_reducible refine LeO.bind ?_ (fun _ => ?_))
      | exact ih0 _ _ _ _
      | exact ih1 _ _ _ _ _ _ _
      | exact ih2 _ _ _ _ _ _
      | exact ih3 _ _ _
      | exact tree_Bytes.mono _ _
      | exact LeO.none _
      | refine LeO.ite ?_ ?_
      | refine LeO.bind ?_ (fun _ => ?_)
    · intro y0 y1 y2 y3 y4 y5
      unfold tallymanlaw8_TreeBack.j2
      repeat' first
      | (with_reducible exact ih0 _ _ _ _)
      | (with_reducible exact ih1 _ _ _ _ _ _ _)
      | (with_reducible exact ih2 _ _ _ _ _ _)
      | (with_reducible exact ih3 _ _ _)
      | (with_reducible exact tree_Bytes.mono _ _)
      | (with_reducible exact LeO.refl _)
      | (with_reducible exact LeO.none _)
      | (with_reducible refine LeO.ite ?_ ?_)
      | (with_reducible refine LeO.bind ?_ (fun _ => ?_))
      | exact ih0 _ _ _ _
      | exact ih1 _ _ _ _ _ _ _
      | exact ih2 _ _ _ _ _ _
      | exact ih3 _ _ _
      | exact tree_Bytes.mono _ _
      | exact LeO.none _
      | refine LeO.ite ?_ ?_
      | refine LeO.bind ?_ (fun _ => ?_)
    · intro y0 y1 y2
      unfold tallymanlaw8_TreeBack.j3
      repeat' first
      | (with_reducible exact ih0 _ _ _ _)
      | (with_reducible exact ih1 _ _ _ _ _ _ _)
      | (with_reducible exact ih2 _ _ _ _ _ _)
      | (with_reducible exact ih3 _ _ _)
      | (with_reducible exact tree_Bytes.mono _ _)
      | (with_reducible exact LeO.refl _)
      | (with_reducible exact LeO.none _)
      | (with_reducible refine LeO.ite ?_ ?_)
      | (with_reducible refine LeO.bind ?_ (fun _ => ?_))
      | exact ih0 _ _ _ _
      | exact ih1 _ _ _ _ _ _ _
      | exact ih2 _ _ _ _ _ _
      | exact ih3 _ _ _
      | exact tree_Bytes.mono _ _
      | exact LeO.none _
      | refine LeO.ite ?_ ?_
      | refine LeO.bind ?_ (fun _ => ?_)
theorem tallymanlaw8_TreeBack.mono : ∀ a0 a1 a2 k, LeO (tallymanlaw8_TreeBack.f k a0 a1 a2) (tallymanlaw8_TreeBack.f (k + 1) a0 a1 a2) := by
  intro a0 a1 a2 k
  obtain ⟨ih0, ih1, ih2, ih3⟩ := tallymanlaw8_TreeBack.mono_l k
  unfold tallymanlaw8_TreeBack.f
  repeat' first
      | (with_reducible exact ih0 _ _ _ _)
      | (with_reducible exact ih1 _ _ _ _ _ _ _)
      | (with_reducible exact ih2 _ _ _ _ _ _)
      | (with_reducible exact ih3 _ _ _)
      | (with_reducible exact tree_Bytes.mono _ _)
      | (with_reducible exact LeO.refl _)
      | (with_reducible exact LeO.none _)
      | (with_reducible refine LeO.ite ?_ ?_)
      | (with_reducible refine LeO.bind ?_ (fun _ => ?_))
      | exact ih0 _ _ _ _
      | exact ih1 _ _ _ _ _ _ _
      | exact ih2 _ _ _ _ _ _
      | exact ih3 _ _ _
      | exact tree_Bytes.mono _ _
      | exact LeO.none _
      | refine LeO.ite ?_ ?_
      | refine LeO.bind ?_ (fun _ => ?_)
set_option maxHeartbeats 8000000 in
set_option maxRecDepth 100000 in
theorem tallymanlaw8_TreeBack.calls (k : Nat) (A0 : Option Addr) (c0 : Nat) (l0 : List (S30)) (a1 : ByteArray) (A2 : Option Addr) (c2 : Nat) (l2 : List Int) (r : Bool) (w : World) (hr0 : Kd.C k30 w A0 l0.length l0) (hc0 : l0.length ≤ c0) (hr2 : Kd.C (Kd.int .u8) w A2 l2.length l2) (hc2 : l2.length ≤ c2) (h : tallymanlaw8_TreeBack.f k l0 a1 l2 = some r) (hr_ : r = true) :
    Calls Tryd.prog 3 #[.slice A0 l0.length c0, .string a1, .slice A2 l2.length c2] w fun e w' => e = .returned (.bool r) ∧ Below w.heap.size w w' := by
  have HT_ := Aside0.mk hr_
  clear hr_
  have hu26 := Tryd.underlying26
  have hu30 := Tryd.underlying30
  have HR0 := Aside0.mk hr0
  have HC0 := Aside0.mk hc0
  clear hr0 hc0
  have HR2 := Aside0.mk hr2
  have HC2 := Aside0.mk hc2
  clear hr2 hc2
  have HB := Aside0.mk (Below.refl w.heap.size w)
  have H : ((tallymanlaw8_awake.f).bind fun t169 => (if t169 = true then (if (l0.length : Int) > 40 then (tallymanlaw8_TreeBack.j0 k a1 l2 true l0) else ((tree_Good.f l0).bind fun t171 => (if t171 = true then ((tree_Bytes.f k l0).bind fun t172 => (if t172 > 5000 then (tallymanlaw8_TreeBack.j0 k a1 l2 true l0) else (if (a1.size : Int) > 100 then (tallymanlaw8_TreeBack.j0 k a1 l2 true l0) else (tallymanlaw8_TreeBack.j0 k a1 l2 (decide ((l2.length : Int) > 500)) l0)))) else (tallymanlaw8_TreeBack.j0 k a1 l2 true l0)))) else (some false))) = some r := h
  clear h
  replace H := Option.bind_eq_some_iff.mp H
  obtain ⟨t169, A40, H⟩ := H
  replace H : (if t169 = true then (if (l0.length : Int) > 40 then (tallymanlaw8_TreeBack.j0 k a1 l2 true l0) else ((tree_Good.f l0).bind fun t171 => (if t171 = true then ((tree_Bytes.f k l0).bind fun t172 => (if t172 > 5000 then (tallymanlaw8_TreeBack.j0 k a1 l2 true l0) else (if (a1.size : Int) > 100 then (tallymanlaw8_TreeBack.j0 k a1 l2 true l0) else (tallymanlaw8_TreeBack.j0 k a1 l2 (decide ((l2.length : Int) > 500)) l0)))) else (tallymanlaw8_TreeBack.j0 k a1 l2 true l0)))) else (some false)) = some r := H
  have A4 := Aside0.mk A40
  clear A40
  by_cases c5 : t169 = true
  · subst c5
    have H1 : (if (l0.length : Int) > 40 then (tallymanlaw8_TreeBack.j0 k a1 l2 true l0) else ((tree_Good.f l0).bind fun t171 => (if t171 = true then ((tree_Bytes.f k l0).bind fun t172 => (if t172 > 5000 then (tallymanlaw8_TreeBack.j0 k a1 l2 true l0) else (if (a1.size : Int) > 100 then (tallymanlaw8_TreeBack.j0 k a1 l2 true l0) else (tallymanlaw8_TreeBack.j0 k a1 l2 (decide ((l2.length : Int) > 500)) l0)))) else (tallymanlaw8_TreeBack.j0 k a1 l2 true l0)))) = some r := by rw [if_pos rfl] at H; exact H
    clear H
    have H := H1
    clear H1
    have HC6 := Aside0.mk H
    clear H
    go_enter Tryd.func3, Tryd.ntmps3
    go_upto_region 4 with (first | ((with_reducible refine gate_callee (f := 13) rfl ?_); refine goesL_ (some 18) rfl rfl Tryd.func13 (by kernel_rfl) rfl #[] rfl (by (try simp only [List.map_toArray, List.map_cons, List.map_nil]); first | done | rfl | (simp only [List.length_drop, List.length_take]; rfl)) ?_; (with_reducible refine (tallymanlaw8_awake.calls  true _ A4.out).mono ?_); rintro e w7 ⟨rfl, hb⟩; refine ⟨_, rfl, ?_⟩; have n0_ := Aside0.mk (below_step (by repeat (first | (with_reducible first | exact HB.out | apply below_alloc | apply pw_below_drewN | apply below_drew1) | exact HB.out)) hb); clear HB; have HB := n0_; clear n0_; (try clear hb); (try clear hb2); (try clear hk); (try clear hi)) | ((with_reducible refine gate_dst (N := 7) rfl ?_); (try (refine gate_guard (by rfl) ?_; dsimp only)); refine box_event ?hg (N := 7) ?hd (cs := #[.slice none 0 0]) (t := 26) ?hr ?_; (case hd => rfl); (case hg => rfl); (case hr => first | (go_simp; done) | (go_simp; rfl)); intro gb170 hg w8 hbox hb; have n0_ := Aside0.mk (below_step (by repeat (first | (with_reducible first | exact HB.out | apply below_alloc | apply pw_below_drewN | apply below_drew1) | exact HB.out)) hb); have n1_ := Aside0.mk (hbox); have n2_ := Aside0.mk ((by rw [hg]; exact (below_size (by repeat (first | (with_reducible first | exact HB.out | apply below_alloc | apply pw_below_drewN | apply below_drew1) | exact HB.out))) : w.heap.size ≤ gb170)); have n3_ := Aside0.mk ((by rw [hg]; exact (below_size (by repeat (first | (with_reducible first | exact HB.out | apply below_alloc | apply pw_below_drewN | apply below_drew1) | exact HB.out))) : w.heap.size ≤ gb170)); clear HB; have HB := n0_; have BK170 := n1_; have GW170 := n2_; have GE170 := n3_; clear n0_ n1_ n2_ n3_; clear hb hbox hg; have hcz9_0 : w8.cell? ⟨gb170, 0, none⟩ = some (.slice none 0 0) := (blk_cell BK170.out 0).trans rfl; have hfz9_0 := blk_frozen BK170.out 0))
    (try simp only [Act.put, List.setIfInBounds_toArray, List.set_cons_zero, List.set_cons_succ])
    go_cut [44] (fun v44 wc => ∃ (kq : Nat) (x44_5 : Bool), v44 = .bool x44_5 ∧ Aside0 (tallymanlaw8_TreeBack.j0 kq a1 l2 x44_5 l0 = some r) ∧ Aside0 (kq ≤ k) ∧ Aside0 (wc.heap[gb170]? = some (.cells #[(.slice A0 l0.length c0)] 26 (0, 0))) ∧ Aside0 (Below w.heap.size w wc))
    case first =>
      have H := HC6.out
      clear HC6
      by_cases c10 : (l0.length : Int) > 40
      · rw [if_pos c10] at H
        have c10b0 : decide (40 < (l0.length : Int)) = true := decide_eq_true c10
        have c10b1 : decide (40 < l0.length) = true := decide_eq_true (by omega)
        clear c10
        (first | rw [c10b0] | (simp only [i64_w, i32_w]; rw [c10b0]) | skip)
        have H' := Aside0.mk H
        clear H
        go_wp2
        go_meet
        case rel => exact ⟨_, (true), (by first | rfl | (simp; done) | (simp [*]; done)), H', ⟨by first | omega | exact Nat.le_refl _⟩, ⟨by (with_reducible repeat (first | refine blk_drewN ?_ _ | refine blk_drew ?_ | refine blk_alloc ?_ _)); refine blk_put (cs := #[.slice none 0 0]) ?_ 0 _ rfl; (with_reducible repeat (first | refine blk_drewN ?_ _ | refine blk_drew ?_ | refine blk_alloc ?_ _)); exact BK170.out⟩, ⟨by repeat (first | (with_reducible first | exact HB.out | apply below_alloc | apply pw_below_drewN | apply below_drew1 | refine below_set ?_ GE170.out) | exact HB.out)⟩⟩
      · rw [if_neg c10] at H
        have c10b0 : decide (40 < (l0.length : Int)) = false := decide_eq_false c10
        have c10b1 : decide (40 < l0.length) = false := decide_eq_false (by omega)
        clear c10
        (first | rw [c10b0] | (simp only [i64_w, i32_w]; rw [c10b0]) | skip)
        replace H := Option.bind_eq_some_iff.mp H
        obtain ⟨t171, A110, H⟩ := H
        replace H : (if t171 = true then ((tree_Bytes.f k l0).bind fun t172 => (if t172 > 5000 then (tallymanlaw8_TreeBack.j0 k a1 l2 true l0) else (if (a1.size : Int) > 100 then (tallymanlaw8_TreeBack.j0 k a1 l2 true l0) else (tallymanlaw8_TreeBack.j0 k a1 l2 (decide ((l2.length : Int) > 500)) l0)))) else (tallymanlaw8_TreeBack.j0 k a1 l2 true l0)) = some r := H
        have A11 := Aside0.mk A110
        clear A110
        by_cases c12 : t171 = true
        · subst c12
          have H1 : ((tree_Bytes.f k l0).bind fun t172 => (if t172 > 5000 then (tallymanlaw8_TreeBack.j0 k a1 l2 true l0) else (if (a1.size : Int) > 100 then (tallymanlaw8_TreeBack.j0 k a1 l2 true l0) else (tallymanlaw8_TreeBack.j0 k a1 l2 (decide ((l2.length : Int) > 500)) l0)))) = some r := by rw [if_pos rfl] at H; exact H
          clear H
          have H := H1
          clear H1
          replace H := Option.bind_eq_some_iff.mp H
          obtain ⟨t172, A130, H⟩ := H
          replace H : (if t172 > 5000 then (tallymanlaw8_TreeBack.j0 k a1 l2 true l0) else (if (a1.size : Int) > 100 then (tallymanlaw8_TreeBack.j0 k a1 l2 true l0) else (tallymanlaw8_TreeBack.j0 k a1 l2 (decide ((l2.length : Int) > 500)) l0))) = some r := H
          have A13 := Aside0.mk A130
          clear A130
          by_cases c14 : t172 > 5000
          · rw [if_pos c14] at H
            have c14b0 : decide (5000 < t172) = true := decide_eq_true c14
            clear c14
            have H' := Aside0.mk H
            clear H
            have hcz15_0 : w8.cell? ⟨gb170, 0, none⟩ = some (.slice none 0 0) := (blk_cell BK170.out 0).trans rfl
            have hfz15_0 := blk_frozen BK170.out 0
            go_wp2_with (first | (go_at_call 14; (with_reducible refine (tree_Good.calls _ _ l0 true _ ?side1 ?side2 A11.out).mono ?_); (case side1 => exact Kd.C_below HR0.out (by repeat (first | (with_reducible first | exact HB.out | apply below_alloc | apply pw_below_drewN | apply below_drew1 | refine below_set ?_ GE170.out) | exact HB.out))); (case side2 => exact HC0.out); rintro e w16 ⟨rfl, hb⟩; have n0_ := Aside0.mk (blk_below (g := gb170) (o := .cells #[.slice A0 l0.length c0] 26 (0, 0)) (by (with_reducible repeat (first | refine blk_drewN ?_ _ | refine blk_drew ?_ | refine blk_alloc ?_ _)); refine blk_put (cs := #[.slice none 0 0]) ?_ 0 _ rfl; (with_reducible repeat (first | refine blk_drewN ?_ _ | refine blk_drew ?_ | refine blk_alloc ?_ _)); exact BK170.out) hb); have n1_ := Aside0.mk (below_step (by repeat (first | (with_reducible first | exact HB.out | apply below_alloc | apply pw_below_drewN | apply below_drew1 | refine below_set ?_ GE170.out) | exact HB.out)) hb); clear BK170; clear HB; have BK170 := n0_; have HB := n1_; clear n0_ n1_; (try clear hb); (try clear hb2); (try clear hk); (try clear hi); have hcz17_0 : w16.cell? ⟨gb170, 0, none⟩ = some (.slice A0 l0.length c0) := (blk_cell BK170.out 0).trans rfl; have hfz17_0 := blk_frozen BK170.out 0) | (go_at_call 15; (with_reducible refine (tree_Bytes.calls k _ _ l0 t172 _ ?side1 ?side2 A13.out).mono ?_); (case side1 => repeat (first | exact (Kd.C_below HR0.out HB.out) | (with_reducible refine Kd.C_alloc ?_ _) | (with_reducible refine Kd.C_drewN ?_ _) | (with_reducible refine Kd.C_drew ?_))); (case side2 => exact HC0.out); rintro e w18 ⟨rfl, hb⟩; have n0_ := Aside0.mk (blk_below (g := gb170) (o := .cells #[.slice A0 l0.length c0] 26 (0, 0)) (by (with_reducible repeat (first | refine blk_drewN ?_ _ | refine blk_drew ?_ | refine blk_alloc ?_ _)); exact BK170.out) hb); have n1_ := Aside0.mk (below_step (by repeat (first | (with_reducible first | exact HB.out | apply below_alloc | apply pw_below_drewN | apply below_drew1 | refine below_set ?_ GE170.out) | exact HB.out)) hb); clear BK170; clear HB; have BK170 := n0_; have HB := n1_; clear n0_ n1_; (try clear hb); (try clear hb2); (try clear hk); (try clear hi)))
            go_meet
            case rel => exact ⟨_, (true), (by first | rfl | (simp; done) | (simp [*]; done)), H', ⟨by first | omega | exact Nat.le_refl _⟩, ⟨by (with_reducible repeat (first | refine blk_drewN ?_ _ | refine blk_drew ?_ | refine blk_alloc ?_ _)); exact BK170.out⟩, ⟨by repeat (first | (with_reducible first | exact HB.out | apply below_alloc | apply pw_below_drewN | apply below_drew1 | refine below_set ?_ GE170.out) | exact HB.out)⟩⟩
          · rw [if_neg c14] at H
            have c14b0 : decide (5000 < t172) = false := decide_eq_false c14
            clear c14
            by_cases c19 : (a1.size : Int) > 100
            · rw [if_pos c19] at H
              have c19b0 : decide (100 < (a1.size : Int)) = true := decide_eq_true c19
              have c19b1 : decide (100 < a1.size) = true := decide_eq_true (by omega)
              clear c19
              have H' := Aside0.mk H
              clear H
              have hcz20_0 : w8.cell? ⟨gb170, 0, none⟩ = some (.slice none 0 0) := (blk_cell BK170.out 0).trans rfl
              have hfz20_0 := blk_frozen BK170.out 0
              go_wp2_with (first | (go_at_call 14; (with_reducible refine (tree_Good.calls _ _ l0 true _ ?side1 ?side2 A11.out).mono ?_); (case side1 => exact Kd.C_below HR0.out (by repeat (first | (with_reducible first | exact HB.out | apply below_alloc | apply pw_below_drewN | apply below_drew1 | refine below_set ?_ GE170.out) | exact HB.out))); (case side2 => exact HC0.out); rintro e w21 ⟨rfl, hb⟩; have n0_ := Aside0.mk (blk_below (g := gb170) (o := .cells #[.slice A0 l0.length c0] 26 (0, 0)) (by (with_reducible repeat (first | refine blk_drewN ?_ _ | refine blk_drew ?_ | refine blk_alloc ?_ _)); refine blk_put (cs := #[.slice none 0 0]) ?_ 0 _ rfl; (with_reducible repeat (first | refine blk_drewN ?_ _ | refine blk_drew ?_ | refine blk_alloc ?_ _)); exact BK170.out) hb); have n1_ := Aside0.mk (below_step (by repeat (first | (with_reducible first | exact HB.out | apply below_alloc | apply pw_below_drewN | apply below_drew1 | refine below_set ?_ GE170.out) | exact HB.out)) hb); clear BK170; clear HB; have BK170 := n0_; have HB := n1_; clear n0_ n1_; (try clear hb); (try clear hb2); (try clear hk); (try clear hi); have hcz22_0 : w21.cell? ⟨gb170, 0, none⟩ = some (.slice A0 l0.length c0) := (blk_cell BK170.out 0).trans rfl; have hfz22_0 := blk_frozen BK170.out 0) | (go_at_call 15; (with_reducible refine (tree_Bytes.calls k _ _ l0 t172 _ ?side1 ?side2 A13.out).mono ?_); (case side1 => repeat (first | exact (Kd.C_below HR0.out HB.out) | (with_reducible refine Kd.C_alloc ?_ _) | (with_reducible refine Kd.C_drewN ?_ _) | (with_reducible refine Kd.C_drew ?_))); (case side2 => exact HC0.out); rintro e w23 ⟨rfl, hb⟩; have n0_ := Aside0.mk (blk_below (g := gb170) (o := .cells #[.slice A0 l0.length c0] 26 (0, 0)) (by (with_reducible repeat (first | refine blk_drewN ?_ _ | refine blk_drew ?_ | refine blk_alloc ?_ _)); exact BK170.out) hb); have n1_ := Aside0.mk (below_step (by repeat (first | (with_reducible first | exact HB.out | apply below_alloc | apply pw_below_drewN | apply below_drew1 | refine below_set ?_ GE170.out) | exact HB.out)) hb); clear BK170; clear HB; have BK170 := n0_; have HB := n1_; clear n0_ n1_; (try clear hb); (try clear hb2); (try clear hk); (try clear hi)))
              go_meet
              case rel => exact ⟨_, (true), (by first | rfl | (simp; done) | (simp [*]; done)), H', ⟨by first | omega | exact Nat.le_refl _⟩, ⟨by (with_reducible repeat (first | refine blk_drewN ?_ _ | refine blk_drew ?_ | refine blk_alloc ?_ _)); exact BK170.out⟩, ⟨by repeat (first | (with_reducible first | exact HB.out | apply below_alloc | apply pw_below_drewN | apply below_drew1 | refine below_set ?_ GE170.out) | exact HB.out)⟩⟩
            · rw [if_neg c19] at H
              have c19b0 : decide (100 < (a1.size : Int)) = false := decide_eq_false c19
              have c19b1 : decide (100 < a1.size) = false := decide_eq_false (by omega)
              clear c19
              have H' := Aside0.mk H
              clear H
              have hcz24_0 : w8.cell? ⟨gb170, 0, none⟩ = some (.slice none 0 0) := (blk_cell BK170.out 0).trans rfl
              have hfz24_0 := blk_frozen BK170.out 0
              go_wp2_with (first | (go_at_call 14; (with_reducible refine (tree_Good.calls _ _ l0 true _ ?side1 ?side2 A11.out).mono ?_); (case side1 => exact Kd.C_below HR0.out (by repeat (first | (with_reducible first | exact HB.out | apply below_alloc | apply pw_below_drewN | apply below_drew1 | refine below_set ?_ GE170.out) | exact HB.out))); (case side2 => exact HC0.out); rintro e w25 ⟨rfl, hb⟩; have n0_ := Aside0.mk (blk_below (g := gb170) (o := .cells #[.slice A0 l0.length c0] 26 (0, 0)) (by (with_reducible repeat (first | refine blk_drewN ?_ _ | refine blk_drew ?_ | refine blk_alloc ?_ _)); refine blk_put (cs := #[.slice none 0 0]) ?_ 0 _ rfl; (with_reducible repeat (first | refine blk_drewN ?_ _ | refine blk_drew ?_ | refine blk_alloc ?_ _)); exact BK170.out) hb); have n1_ := Aside0.mk (below_step (by repeat (first | (with_reducible first | exact HB.out | apply below_alloc | apply pw_below_drewN | apply below_drew1 | refine below_set ?_ GE170.out) | exact HB.out)) hb); clear BK170; clear HB; have BK170 := n0_; have HB := n1_; clear n0_ n1_; (try clear hb); (try clear hb2); (try clear hk); (try clear hi); have hcz26_0 : w25.cell? ⟨gb170, 0, none⟩ = some (.slice A0 l0.length c0) := (blk_cell BK170.out 0).trans rfl; have hfz26_0 := blk_frozen BK170.out 0) | (go_at_call 15; (with_reducible refine (tree_Bytes.calls k _ _ l0 t172 _ ?side1 ?side2 A13.out).mono ?_); (case side1 => repeat (first | exact (Kd.C_below HR0.out HB.out) | (with_reducible refine Kd.C_alloc ?_ _) | (with_reducible refine Kd.C_drewN ?_ _) | (with_reducible refine Kd.C_drew ?_))); (case side2 => exact HC0.out); rintro e w27 ⟨rfl, hb⟩; have n0_ := Aside0.mk (blk_below (g := gb170) (o := .cells #[.slice A0 l0.length c0] 26 (0, 0)) (by (with_reducible repeat (first | refine blk_drewN ?_ _ | refine blk_drew ?_ | refine blk_alloc ?_ _)); exact BK170.out) hb); have n1_ := Aside0.mk (below_step (by repeat (first | (with_reducible first | exact HB.out | apply below_alloc | apply pw_below_drewN | apply below_drew1 | refine below_set ?_ GE170.out) | exact HB.out)) hb); clear BK170; clear HB; have BK170 := n0_; have HB := n1_; clear n0_ n1_; (try clear hb); (try clear hb2); (try clear hk); (try clear hi)))
              go_meet
              case rel => exact ⟨_, (decide ((l2.length : Int) > 500)), (by first | rfl | (simp; done) | (simp [*]; done)), H', ⟨by first | omega | exact Nat.le_refl _⟩, ⟨by (with_reducible repeat (first | refine blk_drewN ?_ _ | refine blk_drew ?_ | refine blk_alloc ?_ _)); exact BK170.out⟩, ⟨by repeat (first | (with_reducible first | exact HB.out | apply below_alloc | apply pw_below_drewN | apply below_drew1 | refine below_set ?_ GE170.out) | exact HB.out)⟩⟩
        · replace c12 := Bool.eq_false_iff.mpr c12
          subst c12
          have H1 : (tallymanlaw8_TreeBack.j0 k a1 l2 true l0) = some r := by rw [if_neg (show ¬ (false = true) by decide)] at H; exact H
          clear H
          have H := H1
          clear H1
          have H' := Aside0.mk H
          clear H
          have hcz28_0 : w8.cell? ⟨gb170, 0, none⟩ = some (.slice none 0 0) := (blk_cell BK170.out 0).trans rfl
          have hfz28_0 := blk_frozen BK170.out 0
          go_wp2_with (first | (go_at_call 14; (with_reducible refine (tree_Good.calls _ _ l0 false _ ?side1 ?side2 A11.out).mono ?_); (case side1 => exact Kd.C_below HR0.out (by repeat (first | (with_reducible first | exact HB.out | apply below_alloc | apply pw_below_drewN | apply below_drew1 | refine below_set ?_ GE170.out) | exact HB.out))); (case side2 => exact HC0.out); rintro e w29 ⟨rfl, hb⟩; have n0_ := Aside0.mk (blk_below (g := gb170) (o := .cells #[.slice A0 l0.length c0] 26 (0, 0)) (by (with_reducible repeat (first | refine blk_drewN ?_ _ | refine blk_drew ?_ | refine blk_alloc ?_ _)); refine blk_put (cs := #[.slice none 0 0]) ?_ 0 _ rfl; (with_reducible repeat (first | refine blk_drewN ?_ _ | refine blk_drew ?_ | refine blk_alloc ?_ _)); exact BK170.out) hb); have n1_ := Aside0.mk (below_step (by repeat (first | (with_reducible first | exact HB.out | apply below_alloc | apply pw_below_drewN | apply below_drew1 | refine below_set ?_ GE170.out) | exact HB.out)) hb); clear BK170; clear HB; have BK170 := n0_; have HB := n1_; clear n0_ n1_; (try clear hb); (try clear hb2); (try clear hk); (try clear hi)))
          go_meet
          case rel => exact ⟨_, (true), (by first | rfl | (simp; done) | (simp [*]; done)), H', ⟨by first | omega | exact Nat.le_refl _⟩, ⟨by (with_reducible repeat (first | refine blk_drewN ?_ _ | refine blk_drew ?_ | refine blk_alloc ?_ _)); exact BK170.out⟩, ⟨by repeat (first | (with_reducible first | exact HB.out | apply below_alloc | apply pw_below_drewN | apply below_drew1 | refine below_set ?_ GE170.out) | exact HB.out)⟩⟩
    case rest =>
      clear HC6
      try clear c1
      try clear c2
      try clear p2
      try clear c3
      try clear c5
      try clear c10
      try clear c10b0
      try clear c10b1
      try clear c12
      try clear c13
      try clear c14
      try clear c14b0
      try clear c19
      try clear c19b0
      try clear c19b1
      try clear hcz15_0
      try clear hcz17_0
      try clear hcz20_0
      try clear hcz22_0
      try clear hcz24_0
      try clear hcz26_0
      try clear hcz28_0
      try clear hcz9_0
      try clear hfz15_0
      try clear hfz17_0
      try clear hfz20_0
      try clear hfz22_0
      try clear hfz24_0
      try clear hfz26_0
      try clear hfz28_0
      try clear hfz9_0
      obtain ⟨kq, x44_5, rfl, HA, HJ5, BK170, HB⟩ := hcut
      cases kq with
      | zero => exact absurd HA.out (by simp [tallymanlaw8_TreeBack.j0])
      | succ kj5 =>
        have H := HA.out
        clear HA
        simp only [tallymanlaw8_TreeBack.j0] at H
        by_cases c30 : x44_5 = true
        · subst c30
          have H1 : (some true) = some r := by rw [if_pos rfl] at H; exact H
          clear H
          have H := H1
          clear H1
          obtain rfl := Option.some.inj H
          go_wp2
          go_ret
          exact ⟨by first | rfl | (simp [errW_none, errW_some] <;> rfl) | (simp [*, errW_none, errW_some] <;> rfl), by repeat (first | (with_reducible first | exact HB.out | apply below_alloc | apply pw_below_drewN | apply below_drew1 | refine below_set ?_ GE170.out) | exact HB.out)⟩
        · replace c30 := Bool.eq_false_iff.mpr c30
          subst c30
          have H1 : ((tree_Find.f l0 a1).bind fun bt173 => ((tree_Put.f l0 a1 l2).bind fun bt180 => ((tree_Make.f l0 a1).bind fun bt185 => (if bt180.2 = 0 then (tallymanlaw8_TreeBack.j1 kj5 a1 bt173.2.2.2 bt185.2 (bt173.2.2.2 == 5) l0 bt180.1 bt185.1) else (tallymanlaw8_TreeBack.j1 kj5 a1 bt173.2.2.2 bt185.2 false l0 bt180.1 bt185.1))))) = some r := by rw [if_neg (show ¬ (false = true) by decide)] at H; exact H
          clear H
          have H := H1
          clear H1
          replace H := Option.bind_eq_some_iff.mp H
          obtain ⟨⟨t173, t174, t175, t178⟩, A310, H⟩ := H
          replace H : ((tree_Put.f l0 a1 l2).bind fun bt180 => ((tree_Make.f l0 a1).bind fun bt185 => (if bt180.2 = 0 then (tallymanlaw8_TreeBack.j1 kj5 a1 t178 bt185.2 (t178 == 5) l0 bt180.1 bt185.1) else (tallymanlaw8_TreeBack.j1 kj5 a1 t178 bt185.2 false l0 bt180.1 bt185.1)))) = some r := H
          have A31 := Aside0.mk A310
          clear A310
          replace H := Option.bind_eq_some_iff.mp H
          obtain ⟨⟨t180, t183⟩, A320, H⟩ := H
          replace H : ((tree_Make.f l0 a1).bind fun bt185 => (if t183 = 0 then (tallymanlaw8_TreeBack.j1 kj5 a1 t178 bt185.2 (t178 == 5) l0 t180 bt185.1) else (tallymanlaw8_TreeBack.j1 kj5 a1 t178 bt185.2 false l0 t180 bt185.1))) = some r := H
          have A32 := Aside0.mk A320
          clear A320
          replace H := Option.bind_eq_some_iff.mp H
          obtain ⟨⟨t185, t188⟩, A330, H⟩ := H
          replace H : (if t183 = 0 then (tallymanlaw8_TreeBack.j1 kj5 a1 t178 t188 (t178 == 5) l0 t180 t185) else (tallymanlaw8_TreeBack.j1 kj5 a1 t178 t188 false l0 t180 t185)) = some r := H
          have A33 := Aside0.mk A330
          clear A330
          have HC34 := Aside0.mk H
          clear H
          have hcz35_0 : wc.cell? ⟨gb170, 0, none⟩ = some (.slice A0 l0.length c0) := (blk_cell BK170.out 0).trans rfl
          have hfz35_0 := blk_frozen BK170.out 0
          go_upto_region 9 with (first | ((with_reducible refine gate_callee (f := 16) rfl ?_); refine goesL_ (some 48) rfl rfl Tryd.func16 (by kernel_rfl) rfl #[.agg #[.slice A0 l0.length c0], .string a1] rfl (by (try simp only [List.map_toArray, List.map_cons, List.map_nil]); first | done | rfl | (simp only [List.length_drop, List.length_take]; rfl)) ?_; (with_reducible refine (tree_Find.calls _ _ l0 a1 t173 t174 t175 t178 _ ?side1 ?side2 A31.out).mono ?_); (case side1 => repeat (first | exact (Kd.C_below HR0.out HB.out) | (with_reducible refine Kd.C_alloc ?_ _) | (with_reducible refine Kd.C_drewN ?_ _) | (with_reducible refine Kd.C_drew ?_))); (case side2 => exact HC0.out); rintro e w36 ⟨v176, rfl, ho0, hb⟩; refine ⟨_, rfl, ?_⟩; have n0_ := Aside0.mk (Kd.R_lower ho0 (below_size (by repeat (first | (with_reducible first | exact HB.out | apply below_alloc | apply pw_below_drewN | apply below_drew1 | refine below_set ?_ GE170.out) | exact HB.out)))); have n1_ := Aside0.mk (blk_below (g := gb170) (o := .cells #[.slice A0 l0.length c0] 26 (0, 0)) (by (with_reducible repeat (first | refine blk_drewN ?_ _ | refine blk_drew ?_ | refine blk_alloc ?_ _)); exact BK170.out) hb); have n2_ := Aside0.mk (below_step (by repeat (first | (with_reducible first | exact HB.out | apply below_alloc | apply pw_below_drewN | apply below_drew1 | refine below_set ?_ GE170.out) | exact HB.out)) hb); clear BK170; clear HB; have HO177 := n0_; have BK170 := n1_; have HB := n2_; clear n0_ n1_ n2_; (try clear hb); (try clear hb2); (try clear hk); (try clear hi); (try clear ho0)) | ((with_reducible refine gate_dst (N := 8) rfl ?_); (try (refine gate_guard (by rfl) ?_; dsimp only)); refine box_event ?hg (N := 8) ?hd (cs := #[.string (⟨#[]⟩ : ByteArray), .bool false, .slice none 0 0]) (t := 30) ?hr ?_; (case hd => rfl); (case hg => rfl); (case hr => first | (go_simp; done) | (go_simp; rfl)); intro gb179 hg w37 hbox hb; have n0_ := Aside0.mk (Kd.R_below (by (with_reducible repeat (first | apply Kd.R_alloc | apply Kd.R_drewN | apply Kd.R_drew)); exact HO177.out) hb); have n1_ := Aside0.mk (blk_below (g := gb170) (o := .cells #[.slice A0 l0.length c0] 26 (0, 0)) (by (with_reducible repeat (first | refine blk_drewN ?_ _ | refine blk_drew ?_ | refine blk_alloc ?_ _)); exact BK170.out) hb); have n2_ := Aside0.mk (below_step (by repeat (first | (with_reducible first | exact HB.out | apply below_alloc | apply pw_below_drewN | apply below_drew1 | refine below_set ?_ GE170.out) | exact HB.out)) hb); have n3_ := Aside0.mk (hbox); have n4_ := Aside0.mk ((by rw [hg]; exact (below_size (by repeat (first | (with_reducible first | exact HB.out | apply below_alloc | apply pw_below_drewN | apply below_drew1 | refine below_set ?_ GE170.out) | exact HB.out))) : w.heap.size ≤ gb179)); have n5_ := Aside0.mk ((by rw [hg]; exact (below_size (by repeat (first | (with_reducible first | exact HB.out | apply below_alloc | apply pw_below_drewN | apply below_drew1 | refine below_set ?_ GE170.out) | exact HB.out))) : w.heap.size ≤ gb179)); have n6_ := Aside0.mk ((by rw [hg]; exact Nat.ne_of_lt (blk_lt (g := gb170) (o := .cells #[.slice A0 l0.length c0] 26 (0, 0)) (by (with_reducible repeat (first | refine blk_drewN ?_ _ | refine blk_drew ?_ | refine blk_alloc ?_ _)); exact BK170.out)) : gb170 ≠ gb179)); have n7_ := Aside0.mk ((by rw [hg]; exact Nat.ne_of_gt (blk_lt (g := gb170) (o := .cells #[.slice A0 l0.length c0] 26 (0, 0)) (by (with_reducible repeat (first | refine blk_drewN ?_ _ | refine blk_drew ?_ | refine blk_alloc ?_ _)); exact BK170.out)) : gb179 ≠ gb170)); clear HO177; clear BK170; clear HB; have HO177 := n0_; have BK170 := n1_; have HB := n2_; have BK179 := n3_; have GW179 := n4_; have GE179 := n5_; have NB170_179 := n6_; have NB179_170 := n7_; clear n0_ n1_ n2_ n3_ n4_ n5_ n6_ n7_; clear hb hbox hg; have hnb38 := NB179_170.out; have hnc38 := NB170_179.out; have hcz39_0 : w37.cell? ⟨gb179, 0, none⟩ = some (.string (⟨#[]⟩ : ByteArray)) := (blk_cell BK179.out 0).trans rfl; have hcz39_1 : w37.cell? ⟨gb179, 1, none⟩ = some (.bool false) := (blk_cell BK179.out 1).trans rfl; have hcz39_2 : w37.cell? ⟨gb179, 2, none⟩ = some (.slice none 0 0) := (blk_cell BK179.out 2).trans rfl; have hfz39_0 := blk_frozen BK179.out 0; have hfz39_1 := blk_frozen BK179.out 1; have hfz39_2 := blk_frozen BK179.out 2; obtain ⟨Ao40, co40, eo40⟩ := Kd.R_slice HO177.out; subst eo40) | ((with_reducible refine gate_store (t := 30) (p := 8) rfl ?_); refine store_event (t := 30) (p := 8) (v := ?vo_w41) (w1 := (((w37.setCell ⟨gb179, 0, none⟩ (.string t173)).setCell ⟨gb179, 1, none⟩ (.bool t174)).setCell ⟨gb179, 2, none⟩ (.slice Ao40 t175.length co40))) ?hg ?ho ?hn ?hr ?_; (case ho => rfl); (case hg => rfl); (case hn => rfl); (case hr => first | (go_simp; done) | (go_simp; rfl)); intro w41 hw; have n0_ : Aside0 (Kd.R (Kd.int .u8) 5 w41 w.heap.size (fun _ => True) (.slice Ao40 t175.length co40) t175) := ⟨(by rw [hw]; exact (by (with_reducible repeat (first | apply Kd.R_alloc | apply Kd.R_drewN | apply Kd.R_drew)); exact Kd.R_mono (Kd.R_far (p := ⟨gb179, 2, none⟩) (Kd.R_far (p := ⟨gb179, 1, none⟩) (Kd.R_far (p := ⟨gb179, 0, none⟩) (Kd.R_types HO177.out BK179.out (by decide)) (fun _ hk => hk.2) (.string t173)) (fun _ hk => hk.2) (.bool t174)) (fun _ hk => hk.2) (.slice Ao40 t175.length co40)) (fun _ hk => trivial)))⟩; have n1_ : Aside0 (w41.heap[gb170]? = some (.cells #[.slice A0 l0.length c0] 26 (0, 0))) := ⟨(by rw [hw]; exact (by (with_reducible repeat (first | refine blk_drewN ?_ _ | refine blk_drew ?_ | refine blk_alloc ?_ _)); refine blk_far ?_ NB170_179.out _; (with_reducible repeat (first | refine blk_drewN ?_ _ | refine blk_drew ?_ | refine blk_alloc ?_ _)); refine blk_far ?_ NB170_179.out _; (with_reducible repeat (first | refine blk_drewN ?_ _ | refine blk_drew ?_ | refine blk_alloc ?_ _)); refine blk_far ?_ NB170_179.out _; (with_reducible repeat (first | refine blk_drewN ?_ _ | refine blk_drew ?_ | refine blk_alloc ?_ _)); exact BK170.out))⟩; have n2_ : Aside0 (w41.heap[gb179]? = some (.cells #[.string t173, .bool t174, .slice Ao40 t175.length co40] 30 (0, 0))) := ⟨(by rw [hw]; exact (by (with_reducible repeat (first | refine blk_drewN ?_ _ | refine blk_drew ?_ | refine blk_alloc ?_ _)); refine blk_put (cs := #[.string t173, .bool t174, .slice none 0 0]) ?_ 2 _ rfl; (with_reducible repeat (first | refine blk_drewN ?_ _ | refine blk_drew ?_ | refine blk_alloc ?_ _)); refine blk_put (cs := #[.string t173, .bool false, .slice none 0 0]) ?_ 1 _ rfl; (with_reducible repeat (first | refine blk_drewN ?_ _ | refine blk_drew ?_ | refine blk_alloc ?_ _)); refine blk_put (cs := #[.string (⟨#[]⟩ : ByteArray), .bool false, .slice none 0 0]) ?_ 0 _ rfl; (with_reducible repeat (first | refine blk_drewN ?_ _ | refine blk_drew ?_ | refine blk_alloc ?_ _)); exact BK179.out))⟩; have n3_ : Aside0 (Below w.heap.size w w41) := ⟨(by rw [hw]; exact (by repeat (first | (with_reducible first | exact HB.out | apply below_alloc | apply pw_below_drewN | apply below_drew1 | refine below_set ?_ GE170.out | refine below_set ?_ GE179.out) | exact HB.out)))⟩; clear hw; clear HO177; clear BK170; clear BK179; clear HB; have HO177 := n0_; have BK170 := n1_; have BK179 := n2_; have HB := n3_; clear n0_ n1_ n2_ n3_; have hcz42_0 : w41.cell? ⟨gb170, 0, none⟩ = some (.slice A0 l0.length c0) := (blk_cell BK170.out 0).trans rfl; have hfz42_0 := blk_frozen BK170.out 0) | ((with_reducible refine gate_callee (f := 17) rfl ?_); refine goesL_ (some 55) rfl rfl Tryd.func17 (by kernel_rfl) rfl #[.agg #[.slice A0 l0.length c0], .string a1, .slice A2 l2.length c2] rfl (by (try simp only [List.map_toArray, List.map_cons, List.map_nil]); first | done | rfl | (simp only [List.length_drop, List.length_take]; rfl)) ?_; (with_reducible refine (tree_Put.calls (fun k_ => k_ < w.heap.size) _ _ l0 a1 _ _ l2 t180 t183 _ ?side1 ?side2 ?side3 A32.out).mono ?_); (case side1 => exact Kd.V_mk HC0.out (Kd.F_below (Kd.C_F k30_heap HR0.out) (by repeat (first | (with_reducible first | exact HB.out | apply below_alloc | apply pw_below_drewN | apply below_drew1 | refine below_set ?_ GE170.out | refine below_set ?_ GE179.out) | exact HB.out)))); (case side2 => repeat (first | exact (Kd.C_below HR2.out HB.out) | (with_reducible refine Kd.C_alloc ?_ _) | (with_reducible refine Kd.C_drewN ?_ _) | (with_reducible refine Kd.C_drew ?_))); (case side3 => exact HC2.out); rintro e w43 ⟨v181, rfl, ho0, hb⟩; refine ⟨_, rfl, ?_⟩; have n0_ := Aside0.mk (Kd.R_below (by (with_reducible repeat (first | apply Kd.R_alloc | apply Kd.R_drewN | apply Kd.R_drew)); exact HO177.out) hb); have n1_ := Aside0.mk (Kd.V_lower (Kd.V_mono (ok' := fun k_ => some k_ ≠ (.slice Ao40 t175.length co40 : Value).ownBlock ∧ k_ ≠ gb170 ∧ k_ ≠ gb179) ho0 (fun k_ hk_ => ⟨Or.elim hk_ (fun hs_ => fun e_ => Nat.not_le.2 hs_ (Kd.R_base HO177.out k_ e_.symm)) (fun hn_ => (Kd.fresh' (Kd.R_lt (by (with_reducible repeat (first | apply Kd.R_alloc | apply Kd.R_drewN | apply Kd.R_drew)); exact HO177.out)) k_ hn_)), Or.elim hk_ (fun hs_ => fun e_ => Nat.not_le.2 hs_ (by rw [e_]; exact GW170.out)) (fun hn_ => (Kd.freshB (g := gb170) (o := .cells #[.slice A0 l0.length c0] 26 (0, 0)) (by (with_reducible repeat (first | refine blk_drewN ?_ _ | refine blk_drew ?_ | refine blk_alloc ?_ _)); exact BK170.out) k_ hn_)), Or.elim hk_ (fun hs_ => fun e_ => Nat.not_le.2 hs_ (by rw [e_]; exact GW179.out)) (fun hn_ => (Kd.freshB (g := gb179) (o := .cells #[.string t173, .bool t174, .slice Ao40 t175.length co40] 30 (0, 0)) (by (with_reducible repeat (first | refine blk_drewN ?_ _ | refine blk_drew ?_ | refine blk_alloc ?_ _)); exact BK179.out) k_ hn_))⟩)) (below_size (by repeat (first | (with_reducible first | exact HB.out | apply below_alloc | apply pw_below_drewN | apply below_drew1 | refine below_set ?_ GE170.out | refine below_set ?_ GE179.out) | exact HB.out)))); have n2_ := Aside0.mk (blk_below (g := gb170) (o := .cells #[.slice A0 l0.length c0] 26 (0, 0)) (by (with_reducible repeat (first | refine blk_drewN ?_ _ | refine blk_drew ?_ | refine blk_alloc ?_ _)); exact BK170.out) hb); have n3_ := Aside0.mk (blk_below (g := gb179) (o := .cells #[.string t173, .bool t174, .slice Ao40 t175.length co40] 30 (0, 0)) (by (with_reducible repeat (first | refine blk_drewN ?_ _ | refine blk_drew ?_ | refine blk_alloc ?_ _)); exact BK179.out) hb); have n4_ := Aside0.mk (below_step (by repeat (first | (with_reducible first | exact HB.out | apply below_alloc | apply pw_below_drewN | apply below_drew1 | refine below_set ?_ GE170.out | refine below_set ?_ GE179.out) | exact HB.out)) hb); clear HO177; clear BK170; clear BK179; clear HB; have HO177 := n0_; have HO182 := n1_; have BK170 := n2_; have BK179 := n3_; have HB := n4_; clear n0_ n1_ n2_ n3_ n4_; (try clear hb); (try clear hb2); (try clear hk); (try clear hi); (try clear ho0)) | ((with_reducible refine gate_dst (N := 10) rfl ?_); (try (refine gate_guard (by rfl) ?_; dsimp only)); refine box_event ?hg (N := 10) ?hd (cs := #[.slice none 0 0]) (t := 26) ?hr ?_; (case hd => rfl); (case hg => rfl); (case hr => first | (go_simp; done) | (go_simp; rfl)); intro gb184 hg w44 hbox hb; have n0_ := Aside0.mk (Kd.R_below (by (with_reducible repeat (first | apply Kd.R_alloc | apply Kd.R_drewN | apply Kd.R_drew)); exact HO177.out) hb); have n1_ := Aside0.mk (Kd.V_below (Kd.V_elderB (by (with_reducible repeat (first | apply Kd.V_alloc | apply Kd.V_drewN | apply Kd.V_drew)); exact HO182.out) gb184 (Nat.le_of_eq hg.symm)) hb); have n2_ := Aside0.mk (blk_below (g := gb170) (o := .cells #[.slice A0 l0.length c0] 26 (0, 0)) (by (with_reducible repeat (first | refine blk_drewN ?_ _ | refine blk_drew ?_ | refine blk_alloc ?_ _)); exact BK170.out) hb); have n3_ := Aside0.mk (blk_below (g := gb179) (o := .cells #[.string t173, .bool t174, .slice Ao40 t175.length co40] 30 (0, 0)) (by (with_reducible repeat (first | refine blk_drewN ?_ _ | refine blk_drew ?_ | refine blk_alloc ?_ _)); exact BK179.out) hb); have n4_ := Aside0.mk (below_step (by repeat (first | (with_reducible first | exact HB.out | apply below_alloc | apply pw_below_drewN | apply below_drew1 | refine below_set ?_ GE170.out | refine below_set ?_ GE179.out) | exact HB.out)) hb); have n5_ := Aside0.mk (hbox); have n6_ := Aside0.mk ((by rw [hg]; exact (below_size (by repeat (first | (with_reducible first | exact HB.out | apply below_alloc | apply pw_below_drewN | apply below_drew1 | refine below_set ?_ GE170.out | refine below_set ?_ GE179.out) | exact HB.out))) : w.heap.size ≤ gb184)); have n7_ := Aside0.mk ((by rw [hg]; exact (below_size (by repeat (first | (with_reducible first | exact HB.out | apply below_alloc | apply pw_below_drewN | apply below_drew1 | refine below_set ?_ GE170.out | refine below_set ?_ GE179.out) | exact HB.out))) : w.heap.size ≤ gb184)); have n8_ := Aside0.mk ((by rw [hg]; exact Nat.ne_of_lt (blk_lt (g := gb170) (o := .cells #[.slice A0 l0.length c0] 26 (0, 0)) (by (with_reducible repeat (first | refine blk_drewN ?_ _ | refine blk_drew ?_ | refine blk_alloc ?_ _)); exact BK170.out)) : gb170 ≠ gb184)); have n9_ := Aside0.mk ((by rw [hg]; exact Nat.ne_of_gt (blk_lt (g := gb170) (o := .cells #[.slice A0 l0.length c0] 26 (0, 0)) (by (with_reducible repeat (first | refine blk_drewN ?_ _ | refine blk_drew ?_ | refine blk_alloc ?_ _)); exact BK170.out)) : gb184 ≠ gb170)); have n10_ := Aside0.mk ((by rw [hg]; exact Nat.ne_of_lt (blk_lt (g := gb179) (o := .cells #[.string t173, .bool t174, .slice Ao40 t175.length co40] 30 (0, 0)) (by (with_reducible repeat (first | refine blk_drewN ?_ _ | refine blk_drew ?_ | refine blk_alloc ?_ _)); exact BK179.out)) : gb179 ≠ gb184)); have n11_ := Aside0.mk ((by rw [hg]; exact Nat.ne_of_gt (blk_lt (g := gb179) (o := .cells #[.string t173, .bool t174, .slice Ao40 t175.length co40] 30 (0, 0)) (by (with_reducible repeat (first | refine blk_drewN ?_ _ | refine blk_drew ?_ | refine blk_alloc ?_ _)); exact BK179.out)) : gb184 ≠ gb179)); clear HO177; clear HO182; clear BK170; clear BK179; clear HB; have HO177 := n0_; have HO182 := n1_; have BK170 := n2_; have BK179 := n3_; have HB := n4_; have BK184 := n5_; have GW184 := n6_; have GE184 := n7_; have NB170_184 := n8_; have NB184_170 := n9_; have NB179_184 := n10_; have NB184_179 := n11_; clear n0_ n1_ n2_ n3_ n4_ n5_ n6_ n7_ n8_ n9_ n10_ n11_; clear hb hbox hg; obtain ⟨Ao45, co45, eo45⟩ := Kd.V_slice HO182.out; subst eo45; have hnb46 := NB184_170.out; have hnc46 := NB170_184.out; have hnb47 := NB184_179.out; have hnc47 := NB179_184.out; have hcz48_0 : w44.cell? ⟨gb184, 0, none⟩ = some (.slice none 0 0) := (blk_cell BK184.out 0).trans rfl; have hfz48_0 := blk_frozen BK184.out 0) | ((with_reducible refine gate_store (t := 26) (p := 10) rfl ?_); refine store_event (t := 26) (p := 10) (v := ?vo_w49) (w1 := (w44.setCell ⟨gb184, 0, none⟩ (.slice Ao45 t180.length co45))) ?hg ?ho ?hn ?hr ?_; (case ho => rfl); (case hg => rfl); (case hn => rfl); (case hr => first | (go_simp; done) | (go_simp; rfl)); intro w49 hw; have n0_ : Aside0 (Kd.R (Kd.int .u8) 5 w49 w.heap.size (fun _ => True) (.slice Ao40 t175.length co40) t175) := ⟨(by rw [hw]; exact (by (with_reducible repeat (first | apply Kd.R_alloc | apply Kd.R_drewN | apply Kd.R_drew)); exact Kd.R_mono (Kd.R_far (p := ⟨gb184, 0, none⟩) (Kd.R_types HO177.out BK184.out (by decide)) (fun _ hk => hk.2) (.slice Ao45 t180.length co45)) (fun _ hk => trivial)))⟩; have n1_ : Aside0 (Kd.V k30 30 w49 w.heap.size (fun k_ => some k_ ≠ (.slice Ao40 t175.length co40 : Value).ownBlock ∧ k_ ≠ gb170 ∧ k_ ≠ gb179 ∧ k_ ≠ gb184) (.slice Ao45 t180.length co45) t180) := ⟨(by rw [hw]; exact (by (with_reducible repeat (first | apply Kd.V_alloc | apply Kd.V_drewN | apply Kd.V_drew)); exact Kd.V_mono (Kd.V_far (p := ⟨gb184, 0, none⟩) (Kd.V_mono HO182.out (fun k_ hk => (⟨hk, hk.2⟩ : _ ∧ k_ ≠ gb184))) (fun _ hk => hk.2) (.slice Ao45 t180.length co45)) (fun _ hk => ⟨hk.1.1.1, ⟨hk.1.1.2.1, ⟨hk.1.1.2.2, hk.1.2⟩⟩⟩)))⟩; have n2_ : Aside0 (w49.heap[gb170]? = some (.cells #[.slice A0 l0.length c0] 26 (0, 0))) := ⟨(by rw [hw]; exact (by (with_reducible repeat (first | refine blk_drewN ?_ _ | refine blk_drew ?_ | refine blk_alloc ?_ _)); refine blk_far ?_ NB170_184.out _; (with_reducible repeat (first | refine blk_drewN ?_ _ | refine blk_drew ?_ | refine blk_alloc ?_ _)); exact BK170.out))⟩; have n3_ : Aside0 (w49.heap[gb179]? = some (.cells #[.string t173, .bool t174, .slice Ao40 t175.length co40] 30 (0, 0))) := ⟨(by rw [hw]; exact (by (with_reducible repeat (first | refine blk_drewN ?_ _ | refine blk_drew ?_ | refine blk_alloc ?_ _)); refine blk_far ?_ NB179_184.out _; (with_reducible repeat (first | refine blk_drewN ?_ _ | refine blk_drew ?_ | refine blk_alloc ?_ _)); exact BK179.out))⟩; have n4_ : Aside0 (w49.heap[gb184]? = some (.cells #[.slice Ao45 t180.length co45] 26 (0, 0))) := ⟨(by rw [hw]; exact (by (with_reducible repeat (first | refine blk_drewN ?_ _ | refine blk_drew ?_ | refine blk_alloc ?_ _)); refine blk_put (cs := #[.slice none 0 0]) ?_ 0 _ rfl; (with_reducible repeat (first | refine blk_drewN ?_ _ | refine blk_drew ?_ | refine blk_alloc ?_ _)); exact BK184.out))⟩; have n5_ : Aside0 (Below w.heap.size w w49) := ⟨(by rw [hw]; exact (by repeat (first | (with_reducible first | exact HB.out | apply below_alloc | apply pw_below_drewN | apply below_drew1 | refine below_set ?_ GE170.out | refine below_set ?_ GE179.out | refine below_set ?_ GE184.out) | exact HB.out)))⟩; clear hw; clear HO177; clear HO182; clear BK170; clear BK179; clear BK184; clear HB; have HO177 := n0_; have HO182 := n1_; have BK170 := n2_; have BK179 := n3_; have BK184 := n4_; have HB := n5_; clear n0_ n1_ n2_ n3_ n4_ n5_; have hcz50_0 : w49.cell? ⟨gb170, 0, none⟩ = some (.slice A0 l0.length c0) := (blk_cell BK170.out 0).trans rfl; have hfz50_0 := blk_frozen BK170.out 0) | ((with_reducible refine gate_callee (f := 18) rfl ?_); refine goesL_ (some 61) rfl rfl Tryd.func18 (by kernel_rfl) rfl #[.agg #[.slice A0 l0.length c0], .string a1] rfl (by (try simp only [List.map_toArray, List.map_cons, List.map_nil]); first | done | rfl | (simp only [List.length_drop, List.length_take]; rfl)) ?_; (with_reducible refine (tree_Make.calls (fun k_ => k_ < w.heap.size) _ _ l0 a1 t185 t188 _ ?side1 A33.out).mono ?_); (case side1 => exact Kd.V_mk HC0.out (Kd.F_below (Kd.C_F k30_heap HR0.out) (by repeat (first | (with_reducible first | exact HB.out | apply below_alloc | apply pw_below_drewN | apply below_drew1 | refine below_set ?_ GE170.out | refine below_set ?_ GE179.out | refine below_set ?_ GE184.out) | exact HB.out)))); rintro e w51 ⟨v186, rfl, ho0, hb⟩; refine ⟨_, rfl, ?_⟩; have n0_ := Aside0.mk (Kd.R_below (by (with_reducible repeat (first | apply Kd.R_alloc | apply Kd.R_drewN | apply Kd.R_drew)); exact HO177.out) hb); have n1_ := Aside0.mk (Kd.V_below (by (with_reducible repeat (first | apply Kd.V_alloc | apply Kd.V_drewN | apply Kd.V_drew)); exact HO182.out) hb); have n2_ := Aside0.mk (Kd.V_lower (Kd.V_mono (ok' := fun k_ => some k_ ≠ (.slice Ao40 t175.length co40 : Value).ownBlock ∧ k_ ≠ gb170 ∧ k_ ≠ gb179 ∧ k_ ≠ gb184) ho0 (fun k_ hk_ => ⟨Or.elim hk_ (fun hs_ => fun e_ => Nat.not_le.2 hs_ (Kd.R_base HO177.out k_ e_.symm)) (fun hn_ => (Kd.fresh' (Kd.R_lt (by (with_reducible repeat (first | apply Kd.R_alloc | apply Kd.R_drewN | apply Kd.R_drew)); exact HO177.out)) k_ hn_)), Or.elim hk_ (fun hs_ => fun e_ => Nat.not_le.2 hs_ (by rw [e_]; exact GW170.out)) (fun hn_ => (Kd.freshB (g := gb170) (o := .cells #[.slice A0 l0.length c0] 26 (0, 0)) (by (with_reducible repeat (first | refine blk_drewN ?_ _ | refine blk_drew ?_ | refine blk_alloc ?_ _)); exact BK170.out) k_ hn_)), Or.elim hk_ (fun hs_ => fun e_ => Nat.not_le.2 hs_ (by rw [e_]; exact GW179.out)) (fun hn_ => (Kd.freshB (g := gb179) (o := .cells #[.string t173, .bool t174, .slice Ao40 t175.length co40] 30 (0, 0)) (by (with_reducible repeat (first | refine blk_drewN ?_ _ | refine blk_drew ?_ | refine blk_alloc ?_ _)); exact BK179.out) k_ hn_)), Or.elim hk_ (fun hs_ => fun e_ => Nat.not_le.2 hs_ (by rw [e_]; exact GW184.out)) (fun hn_ => (Kd.freshB (g := gb184) (o := .cells #[.slice Ao45 t180.length co45] 26 (0, 0)) (by (with_reducible repeat (first | refine blk_drewN ?_ _ | refine blk_drew ?_ | refine blk_alloc ?_ _)); exact BK184.out) k_ hn_))⟩)) (below_size (by repeat (first | (with_reducible first | exact HB.out | apply below_alloc | apply pw_below_drewN | apply below_drew1 | refine below_set ?_ GE170.out | refine below_set ?_ GE179.out | refine below_set ?_ GE184.out) | exact HB.out)))); have n3_ := Aside0.mk (blk_below (g := gb170) (o := .cells #[.slice A0 l0.length c0] 26 (0, 0)) (by (with_reducible repeat (first | refine blk_drewN ?_ _ | refine blk_drew ?_ | refine blk_alloc ?_ _)); exact BK170.out) hb); have n4_ := Aside0.mk (blk_below (g := gb179) (o := .cells #[.string t173, .bool t174, .slice Ao40 t175.length co40] 30 (0, 0)) (by (with_reducible repeat (first | refine blk_drewN ?_ _ | refine blk_drew ?_ | refine blk_alloc ?_ _)); exact BK179.out) hb); have n5_ := Aside0.mk (blk_below (g := gb184) (o := .cells #[.slice Ao45 t180.length co45] 26 (0, 0)) (by (with_reducible repeat (first | refine blk_drewN ?_ _ | refine blk_drew ?_ | refine blk_alloc ?_ _)); exact BK184.out) hb); have n6_ := Aside0.mk (below_step (by repeat (first | (with_reducible first | exact HB.out | apply below_alloc | apply pw_below_drewN | apply below_drew1 | refine below_set ?_ GE170.out | refine below_set ?_ GE179.out | refine below_set ?_ GE184.out) | exact HB.out)) hb); clear HO177; clear HO182; clear BK170; clear BK179; clear BK184; clear HB; have HO177 := n0_; have HO182 := n1_; have HO187 := n2_; have BK170 := n3_; have BK179 := n4_; have BK184 := n5_; have HB := n6_; clear n0_ n1_ n2_ n3_ n4_ n5_ n6_; (try clear hb); (try clear hb2); (try clear hk); (try clear hi); (try clear ho0)) | ((with_reducible refine gate_dst (N := 12) rfl ?_); (try (refine gate_guard (by rfl) ?_; dsimp only)); refine box_event ?hg (N := 12) ?hd (cs := #[.slice none 0 0]) (t := 26) ?hr ?_; (case hd => rfl); (case hg => rfl); (case hr => first | (go_simp; done) | (go_simp; rfl)); intro gb189 hg w52 hbox hb; have n0_ := Aside0.mk (Kd.R_below (by (with_reducible repeat (first | apply Kd.R_alloc | apply Kd.R_drewN | apply Kd.R_drew)); exact HO177.out) hb); have n1_ := Aside0.mk (Kd.V_below (Kd.V_elderB (by (with_reducible repeat (first | apply Kd.V_alloc | apply Kd.V_drewN | apply Kd.V_drew)); exact HO182.out) gb189 (Nat.le_of_eq hg.symm)) hb); have n2_ := Aside0.mk (Kd.V_below (Kd.V_elderB (by (with_reducible repeat (first | apply Kd.V_alloc | apply Kd.V_drewN | apply Kd.V_drew)); exact HO187.out) gb189 (Nat.le_of_eq hg.symm)) hb); have n3_ := Aside0.mk (blk_below (g := gb170) (o := .cells #[.slice A0 l0.length c0] 26 (0, 0)) (by (with_reducible repeat (first | refine blk_drewN ?_ _ | refine blk_drew ?_ | refine blk_alloc ?_ _)); exact BK170.out) hb); have n4_ := Aside0.mk (blk_below (g := gb179) (o := .cells #[.string t173, .bool t174, .slice Ao40 t175.length co40] 30 (0, 0)) (by (with_reducible repeat (first | refine blk_drewN ?_ _ | refine blk_drew ?_ | refine blk_alloc ?_ _)); exact BK179.out) hb); have n5_ := Aside0.mk (blk_below (g := gb184) (o := .cells #[.slice Ao45 t180.length co45] 26 (0, 0)) (by (with_reducible repeat (first | refine blk_drewN ?_ _ | refine blk_drew ?_ | refine blk_alloc ?_ _)); exact BK184.out) hb); have n6_ := Aside0.mk (below_step (by repeat (first | (with_reducible first | exact HB.out | apply below_alloc | apply pw_below_drewN | apply below_drew1 | refine below_set ?_ GE170.out | refine below_set ?_ GE179.out | refine below_set ?_ GE184.out) | exact HB.out)) hb); have n7_ := Aside0.mk (hbox); have n8_ := Aside0.mk ((by rw [hg]; exact (below_size (by repeat (first | (with_reducible first | exact HB.out | apply below_alloc | apply pw_below_drewN | apply below_drew1 | refine below_set ?_ GE170.out | refine below_set ?_ GE179.out | refine below_set ?_ GE184.out) | exact HB.out))) : w.heap.size ≤ gb189)); have n9_ := Aside0.mk ((by rw [hg]; exact (below_size (by repeat (first | (with_reducible first | exact HB.out | apply below_alloc | apply pw_below_drewN | apply below_drew1 | refine below_set ?_ GE170.out | refine below_set ?_ GE179.out | refine below_set ?_ GE184.out) | exact HB.out))) : w.heap.size ≤ gb189)); have n10_ := Aside0.mk ((by rw [hg]; exact Nat.ne_of_lt (blk_lt (g := gb170) (o := .cells #[.slice A0 l0.length c0] 26 (0, 0)) (by (with_reducible repeat (first | refine blk_drewN ?_ _ | refine blk_drew ?_ | refine blk_alloc ?_ _)); exact BK170.out)) : gb170 ≠ gb189)); have n11_ := Aside0.mk ((by rw [hg]; exact Nat.ne_of_gt (blk_lt (g := gb170) (o := .cells #[.slice A0 l0.length c0] 26 (0, 0)) (by (with_reducible repeat (first | refine blk_drewN ?_ _ | refine blk_drew ?_ | refine blk_alloc ?_ _)); exact BK170.out)) : gb189 ≠ gb170)); have n12_ := Aside0.mk ((by rw [hg]; exact Nat.ne_of_lt (blk_lt (g := gb179) (o := .cells #[.string t173, .bool t174, .slice Ao40 t175.length co40] 30 (0, 0)) (by (with_reducible repeat (first | refine blk_drewN ?_ _ | refine blk_drew ?_ | refine blk_alloc ?_ _)); exact BK179.out)) : gb179 ≠ gb189)); have n13_ := Aside0.mk ((by rw [hg]; exact Nat.ne_of_gt (blk_lt (g := gb179) (o := .cells #[.string t173, .bool t174, .slice Ao40 t175.length co40] 30 (0, 0)) (by (with_reducible repeat (first | refine blk_drewN ?_ _ | refine blk_drew ?_ | refine blk_alloc ?_ _)); exact BK179.out)) : gb189 ≠ gb179)); have n14_ := Aside0.mk ((by rw [hg]; exact Nat.ne_of_lt (blk_lt (g := gb184) (o := .cells #[.slice Ao45 t180.length co45] 26 (0, 0)) (by (with_reducible repeat (first | refine blk_drewN ?_ _ | refine blk_drew ?_ | refine blk_alloc ?_ _)); exact BK184.out)) : gb184 ≠ gb189)); have n15_ := Aside0.mk ((by rw [hg]; exact Nat.ne_of_gt (blk_lt (g := gb184) (o := .cells #[.slice Ao45 t180.length co45] 26 (0, 0)) (by (with_reducible repeat (first | refine blk_drewN ?_ _ | refine blk_drew ?_ | refine blk_alloc ?_ _)); exact BK184.out)) : gb189 ≠ gb184)); clear HO177; clear HO182; clear HO187; clear BK170; clear BK179; clear BK184; clear HB; have HO177 := n0_; have HO182 := n1_; have HO187 := n2_; have BK170 := n3_; have BK179 := n4_; have BK184 := n5_; have HB := n6_; have BK189 := n7_; have GW189 := n8_; have GE189 := n9_; have NB170_189 := n10_; have NB189_170 := n11_; have NB179_189 := n12_; have NB189_179 := n13_; have NB184_189 := n14_; have NB189_184 := n15_; clear n0_ n1_ n2_ n3_ n4_ n5_ n6_ n7_ n8_ n9_ n10_ n11_ n12_ n13_ n14_ n15_; clear hb hbox hg; obtain ⟨Ao53, co53, eo53⟩ := Kd.V_slice HO187.out; subst eo53; have hnb54 := NB189_170.out; have hnc54 := NB170_189.out; have hnb55 := NB189_179.out; have hnc55 := NB179_189.out; have hnb56 := NB189_184.out; have hnc56 := NB184_189.out; have hcz57_0 : w52.cell? ⟨gb189, 0, none⟩ = some (.slice none 0 0) := (blk_cell BK189.out 0).trans rfl; have hfz57_0 := blk_frozen BK189.out 0))
          (try simp only [Act.put, List.setIfInBounds_toArray, List.set_cons_zero, List.set_cons_succ])
          go_cut [69] (fun v69 wc => ∃ (kq : Nat) (x69_33 : Bool), v69 = .bool x69_33 ∧ Aside0 (tallymanlaw8_TreeBack.j1 kq a1 t178 t188 x69_33 l0 t180 t185 = some r) ∧ Aside0 (kq ≤ kj5) ∧ Aside0 (Kd.R (Kd.int .u8) 5 wc w.heap.size (fun _ => True) (.slice Ao40 t175.length co40) t175) ∧ Aside0 (Kd.V k30 30 wc w.heap.size (fun k_ => some k_ ≠ ((.slice Ao40 t175.length co40) : Value).ownBlock ∧ k_ ≠ gb170 ∧ k_ ≠ gb179 ∧ k_ ≠ gb184 ∧ k_ ≠ gb189) (.slice Ao45 t180.length co45) t180) ∧ Aside0 (Kd.V k30 30 wc w.heap.size (fun k_ => some k_ ≠ ((.slice Ao40 t175.length co40) : Value).ownBlock ∧ k_ ≠ gb170 ∧ k_ ≠ gb179 ∧ k_ ≠ gb184 ∧ k_ ≠ gb189) (.slice Ao53 t185.length co53) t185) ∧ Aside0 (wc.heap[gb170]? = some (.cells #[(.slice A0 l0.length c0)] 26 (0, 0))) ∧ Aside0 (wc.heap[gb179]? = some (.cells #[.string t173, .bool t174, (.slice Ao40 t175.length co40)] 30 (0, 0))) ∧ Aside0 (wc.heap[gb184]? = some (.cells #[(.slice Ao45 t180.length co45)] 26 (0, 0))) ∧ Aside0 (wc.heap[gb189]? = some (.cells #[(.slice Ao53 t185.length co53)] 26 (0, 0))) ∧ Aside0 (Below w.heap.size w wc))
          case first =>
            have H := HC34.out
            clear HC34
            by_cases c58 : t183 = 0
            · rw [if_pos c58] at H
              have c58b0 : (t183 == 0) = true := beq_iff_eq.mpr c58
              have c58b1 : (t183 != 0) = false := bne_eq_false_iff_eq.mpr c58
              clear c58
              (first | rw [c58b0] | (simp only [i64_w, i32_w]; rw [c58b0]) | skip)
              have H' := Aside0.mk H
              clear H
              go_wp2
              go_meet
              case rel => exact ⟨_, ((t178 == 5)), (by first | rfl | (simp; done) | (simp [*]; done)), H', ⟨by have := HJ5.out; first | omega | exact Nat.le_refl _⟩, ⟨by (with_reducible repeat (first | apply Kd.R_alloc | apply Kd.R_drewN | apply Kd.R_drew)); exact Kd.R_mono (Kd.R_far (p := ⟨gb189, 0, none⟩) (Kd.R_types HO177.out BK189.out (by decide)) (fun _ hk => hk.2) (.slice Ao53 t185.length co53)) (fun _ hk => trivial)⟩, ⟨by (with_reducible repeat (first | apply Kd.V_alloc | apply Kd.V_drewN | apply Kd.V_drew)); exact Kd.V_mono (Kd.V_far (p := ⟨gb189, 0, none⟩) (Kd.V_mono HO182.out (fun k_ hk => (⟨hk, hk.2⟩ : _ ∧ k_ ≠ gb189))) (fun _ hk => hk.2) (.slice Ao53 t185.length co53)) (fun _ hk => ⟨hk.1.1.1, ⟨hk.1.1.2.1, ⟨hk.1.1.2.2.1, ⟨hk.1.1.2.2.2, hk.1.2⟩⟩⟩⟩)⟩, ⟨by (with_reducible repeat (first | apply Kd.V_alloc | apply Kd.V_drewN | apply Kd.V_drew)); exact Kd.V_mono (Kd.V_far (p := ⟨gb189, 0, none⟩) (Kd.V_mono HO187.out (fun k_ hk => (⟨hk, hk.2⟩ : _ ∧ k_ ≠ gb189))) (fun _ hk => hk.2) (.slice Ao53 t185.length co53)) (fun _ hk => ⟨hk.1.1.1, ⟨hk.1.1.2.1, ⟨hk.1.1.2.2.1, ⟨hk.1.1.2.2.2, hk.1.2⟩⟩⟩⟩)⟩, ⟨by (with_reducible repeat (first | refine blk_drewN ?_ _ | refine blk_drew ?_ | refine blk_alloc ?_ _)); refine blk_far ?_ NB170_189.out _; (with_reducible repeat (first | refine blk_drewN ?_ _ | refine blk_drew ?_ | refine blk_alloc ?_ _)); exact BK170.out⟩, ⟨by (with_reducible repeat (first | refine blk_drewN ?_ _ | refine blk_drew ?_ | refine blk_alloc ?_ _)); refine blk_far ?_ NB179_189.out _; (with_reducible repeat (first | refine blk_drewN ?_ _ | refine blk_drew ?_ | refine blk_alloc ?_ _)); exact BK179.out⟩, ⟨by (with_reducible repeat (first | refine blk_drewN ?_ _ | refine blk_drew ?_ | refine blk_alloc ?_ _)); refine blk_far ?_ NB184_189.out _; (with_reducible repeat (first | refine blk_drewN ?_ _ | refine blk_drew ?_ | refine blk_alloc ?_ _)); exact BK184.out⟩, ⟨by (with_reducible repeat (first | refine blk_drewN ?_ _ | refine blk_drew ?_ | refine blk_alloc ?_ _)); refine blk_put (cs := #[.slice none 0 0]) ?_ 0 _ rfl; (with_reducible repeat (first | refine blk_drewN ?_ _ | refine blk_drew ?_ | refine blk_alloc ?_ _)); exact BK189.out⟩, ⟨by repeat (first | (with_reducible first | exact HB.out | apply below_alloc | apply pw_below_drewN | apply below_drew1 | refine below_set ?_ GE170.out | refine below_set ?_ GE179.out | refine below_set ?_ GE184.out | refine below_set ?_ GE189.out) | exact HB.out)⟩⟩
            · rw [if_neg c58] at H
              have c58b0 : (t183 == 0) = false := beq_eq_false_iff_ne.mpr c58
              have c58b1 : (t183 != 0) = true := bne_iff_ne.mpr c58
              (first | rw [c58b0] | (simp only [i64_w, i32_w]; rw [c58b0]) | skip)
              have H' := Aside0.mk H
              clear H
              go_wp2
              go_meet
              case rel => exact ⟨_, (false), (by first | rfl | (simp; done) | (simp [*]; done)), H', ⟨by have := HJ5.out; first | omega | exact Nat.le_refl _⟩, ⟨by (with_reducible repeat (first | apply Kd.R_alloc | apply Kd.R_drewN | apply Kd.R_drew)); exact Kd.R_mono (Kd.R_far (p := ⟨gb189, 0, none⟩) (Kd.R_types HO177.out BK189.out (by decide)) (fun _ hk => hk.2) (.slice Ao53 t185.length co53)) (fun _ hk => trivial)⟩, ⟨by (with_reducible repeat (first | apply Kd.V_alloc | apply Kd.V_drewN | apply Kd.V_drew)); exact Kd.V_mono (Kd.V_far (p := ⟨gb189, 0, none⟩) (Kd.V_mono HO182.out (fun k_ hk => (⟨hk, hk.2⟩ : _ ∧ k_ ≠ gb189))) (fun _ hk => hk.2) (.slice Ao53 t185.length co53)) (fun _ hk => ⟨hk.1.1.1, ⟨hk.1.1.2.1, ⟨hk.1.1.2.2.1, ⟨hk.1.1.2.2.2, hk.1.2⟩⟩⟩⟩)⟩, ⟨by (with_reducible repeat (first | apply Kd.V_alloc | apply Kd.V_drewN | apply Kd.V_drew)); exact Kd.V_mono (Kd.V_far (p := ⟨gb189, 0, none⟩) (Kd.V_mono HO187.out (fun k_ hk => (⟨hk, hk.2⟩ : _ ∧ k_ ≠ gb189))) (fun _ hk => hk.2) (.slice Ao53 t185.length co53)) (fun _ hk => ⟨hk.1.1.1, ⟨hk.1.1.2.1, ⟨hk.1.1.2.2.1, ⟨hk.1.1.2.2.2, hk.1.2⟩⟩⟩⟩)⟩, ⟨by (with_reducible repeat (first | refine blk_drewN ?_ _ | refine blk_drew ?_ | refine blk_alloc ?_ _)); refine blk_far ?_ NB170_189.out _; (with_reducible repeat (first | refine blk_drewN ?_ _ | refine blk_drew ?_ | refine blk_alloc ?_ _)); exact BK170.out⟩, ⟨by (with_reducible repeat (first | refine blk_drewN ?_ _ | refine blk_drew ?_ | refine blk_alloc ?_ _)); refine blk_far ?_ NB179_189.out _; (with_reducible repeat (first | refine blk_drewN ?_ _ | refine blk_drew ?_ | refine blk_alloc ?_ _)); exact BK179.out⟩, ⟨by (with_reducible repeat (first | refine blk_drewN ?_ _ | refine blk_drew ?_ | refine blk_alloc ?_ _)); refine blk_far ?_ NB184_189.out _; (with_reducible repeat (first | refine blk_drewN ?_ _ | refine blk_drew ?_ | refine blk_alloc ?_ _)); exact BK184.out⟩, ⟨by (with_reducible repeat (first | refine blk_drewN ?_ _ | refine blk_drew ?_ | refine blk_alloc ?_ _)); refine blk_put (cs := #[.slice none 0 0]) ?_ 0 _ rfl; (with_reducible repeat (first | refine blk_drewN ?_ _ | refine blk_drew ?_ | refine blk_alloc ?_ _)); exact BK189.out⟩, ⟨by repeat (first | (with_reducible first | exact HB.out | apply below_alloc | apply pw_below_drewN | apply below_drew1 | refine below_set ?_ GE170.out | refine below_set ?_ GE179.out | refine below_set ?_ GE184.out | refine below_set ?_ GE189.out) | exact HB.out)⟩⟩
          case rest =>
            clear HC34
            try clear c1
            try clear c2
            try clear p2
            try clear c3
            try clear c4
            try clear c5
            try clear c10
            try clear c10b0
            try clear c10b1
            try clear c12
            try clear c13
            try clear c14
            try clear c14b0
            try clear c16
            try clear c17
            try clear c18
            try clear c19
            try clear c19b0
            try clear c19b1
            try clear c30
            try clear c38
            try clear c46
            try clear c47
            try clear c54
            try clear c55
            try clear c56
            try clear c58
            try clear c58b0
            try clear c58b1
            try clear hcz15_0
            try clear hcz17_0
            try clear hcz20_0
            try clear hcz22_0
            try clear hcz24_0
            try clear hcz26_0
            try clear hcz28_0
            try clear hcz35_0
            try clear hcz39_0
            try clear hcz39_1
            try clear hcz39_2
            try clear hcz42_0
            try clear hcz48_0
            try clear hcz50_0
            try clear hcz57_0
            try clear hcz9_0
            try clear hfz15_0
            try clear hfz17_0
            try clear hfz20_0
            try clear hfz22_0
            try clear hfz24_0
            try clear hfz26_0
            try clear hfz28_0
            try clear hfz35_0
            try clear hfz39_0
            try clear hfz39_1
            try clear hfz39_2
            try clear hfz42_0
            try clear hfz48_0
            try clear hfz50_0
            try clear hfz57_0
            try clear hfz9_0
            try clear p2
            obtain ⟨kq, x69_33, rfl, HA, HJ33, HO_180002, HO_185000, HO_190000, BK170, BK179, BK184, BK189, HB⟩ := hcut
            cases kq with
            | zero => exact absurd HA.out (by simp [tallymanlaw8_TreeBack.j1])
            | succ kj33 =>
              have H := HA.out
              clear HA
              simp only [tallymanlaw8_TreeBack.j1] at H
              have HC59 := Aside0.mk H
              clear H
              go_upto_if 69 with (fail)
              go_cut [] (fun wc => ∃ (kq : Nat), Aside0 (tallymanlaw8_TreeBack.j2 kq a1 t178 t188 l0 t180 t185 = some r) ∧ Aside0 (kq ≤ kj33) ∧ Aside0 (Kd.R (Kd.int .u8) 5 wc w.heap.size (fun _ => True) (.slice Ao40 t175.length co40) t175) ∧ Aside0 (Kd.V k30 30 wc w.heap.size (fun k_ => some k_ ≠ ((.slice Ao40 t175.length co40) : Value).ownBlock ∧ k_ ≠ gb170 ∧ k_ ≠ gb179 ∧ k_ ≠ gb184 ∧ k_ ≠ gb189) (.slice Ao45 t180.length co45) t180) ∧ Aside0 (Kd.V k30 30 wc w.heap.size (fun k_ => some k_ ≠ ((.slice Ao40 t175.length co40) : Value).ownBlock ∧ k_ ≠ gb170 ∧ k_ ≠ gb179 ∧ k_ ≠ gb184 ∧ k_ ≠ gb189) (.slice Ao53 t185.length co53) t185) ∧ Aside0 (wc.heap[gb170]? = some (.cells #[(.slice A0 l0.length c0)] 26 (0, 0))) ∧ Aside0 (wc.heap[gb179]? = some (.cells #[.string t173, .bool t174, (.slice Ao40 t175.length co40)] 30 (0, 0))) ∧ Aside0 (wc.heap[gb184]? = some (.cells #[(.slice Ao45 t180.length co45)] 26 (0, 0))) ∧ Aside0 (wc.heap[gb189]? = some (.cells #[(.slice Ao53 t185.length co53)] 26 (0, 0))) ∧ Aside0 (Below w.heap.size w wc))
              case first =>
                have H := HC59.out
                clear HC59
                by_cases c60 : x69_33 = true
                · subst c60
                  have H1 : ((tree_Remove.f t180 a1).bind fun bt190 => (if bt190.2 = 0 then ((tree_Same.f bt190.1 l0).bind fun t195 => (if t195 = true then (tallymanlaw8_TreeBack.j2 kj33 a1 t178 t188 l0 t180 t185) else (some false))) else (some false))) = some r := by rw [if_pos rfl] at H; exact H
                  clear H
                  have H := H1
                  clear H1
                  replace H := Option.bind_eq_some_iff.mp H
                  obtain ⟨⟨t190, t193⟩, A610, H⟩ := H
                  replace H : (if t193 = 0 then ((tree_Same.f t190 l0).bind fun t195 => (if t195 = true then (tallymanlaw8_TreeBack.j2 kj33 a1 t178 t188 l0 t180 t185) else (some false))) else (some false)) = some r := H
                  have A61 := Aside0.mk A610
                  clear A610
                  by_cases c62 : t193 = 0
                  · rw [if_pos c62] at H
                    have c62b0 : (t193 == 0) = true := beq_iff_eq.mpr c62
                    have c62b1 : (t193 != 0) = false := bne_eq_false_iff_eq.mpr c62
                    clear c62
                    (first | rw [c62b0] | (simp only [i64_w, i32_w]; rw [c62b0]) | skip)
                    replace H := Option.bind_eq_some_iff.mp H
                    obtain ⟨t195, A630, H⟩ := H
                    replace H : (if t195 = true then (tallymanlaw8_TreeBack.j2 kj33 a1 t178 t188 l0 t180 t185) else (some false)) = some r := H
                    have A63 := Aside0.mk A630
                    clear A630
                    by_cases c64 : t195 = true
                    · subst c64
                      have H1 : (tallymanlaw8_TreeBack.j2 kj33 a1 t178 t188 l0 t180 t185) = some r := by rw [if_pos rfl] at H; exact H
                      clear H
                      have H := H1
                      clear H1
                      have H' := Aside0.mk H
                      clear H
                      have hnb65 := NB184_170.out
                      have hnc65 := NB170_184.out
                      have hnb66 := NB184_179.out
                      have hnc66 := NB179_184.out
                      have hnb67 := NB184_189.out
                      have hnc67 := NB189_184.out
                      have hcz68_0 : wc.cell? ⟨gb184, 0, none⟩ = some (.slice Ao45 t180.length co45) := (blk_cell BK184.out 0).trans rfl
                      have hfz68_0 := blk_frozen BK184.out 0
                      go_wp2_with (first | ((with_reducible refine gate_callee (f := 19) rfl ?_); refine goesL_ (some 73) rfl rfl Tryd.func19 (by kernel_rfl) rfl #[.agg #[.slice Ao45 t180.length co45], .string a1] rfl (by (try simp only [List.map_toArray, List.map_cons, List.map_nil]); first | done | rfl | (simp only [List.length_drop, List.length_take]; rfl)) ?_; (with_reducible refine (tree_Remove.calls (fun k_ => (some k_ ≠ (.slice Ao40 t175.length co40 : Value).ownBlock ∧ (k_ ≠ gb170 ∧ (k_ ≠ gb179 ∧ (k_ ≠ gb184 ∧ k_ ≠ gb189))))) _ _ t180 a1 t190 t193 _ ?side1 A61.out).mono ?_); (case side1 => exact HO_185000.out); rintro e w69 ⟨v191, rfl, ho0, hb⟩; refine ⟨_, rfl, ?_⟩; have n0_ := Aside0.mk (Kd.R_below (by (with_reducible repeat (first | apply Kd.R_alloc | apply Kd.R_drewN | apply Kd.R_drew)); exact HO_180002.out) hb); have n1_ := Aside0.mk (Kd.V_below (by (with_reducible repeat (first | apply Kd.V_alloc | apply Kd.V_drewN | apply Kd.V_drew)); exact HO_185000.out) hb); have n2_ := Aside0.mk (Kd.V_below (by (with_reducible repeat (first | apply Kd.V_alloc | apply Kd.V_drewN | apply Kd.V_drew)); exact HO_190000.out) hb); have n3_ := Aside0.mk (Kd.V_lower (Kd.V_mono (ok' := fun k_ => some k_ ≠ (.slice Ao40 t175.length co40 : Value).ownBlock ∧ k_ ≠ gb170 ∧ k_ ≠ gb179 ∧ k_ ≠ gb184 ∧ k_ ≠ gb189) ho0 (fun k_ hk_ => ⟨Or.elim hk_ (fun hs_ => hs_.1) (fun hn_ => (Kd.fresh' (Kd.R_lt (by (with_reducible repeat (first | apply Kd.R_alloc | apply Kd.R_drewN | apply Kd.R_drew)); exact HO_180002.out)) k_ hn_)), Or.elim hk_ (fun hs_ => hs_.2.1) (fun hn_ => (Kd.freshB (g := gb170) (o := .cells #[.slice A0 l0.length c0] 26 (0, 0)) (by (with_reducible repeat (first | refine blk_drewN ?_ _ | refine blk_drew ?_ | refine blk_alloc ?_ _)); exact BK170.out) k_ hn_)), Or.elim hk_ (fun hs_ => hs_.2.2.1) (fun hn_ => (Kd.freshB (g := gb179) (o := .cells #[.string t173, .bool t174, .slice Ao40 t175.length co40] 30 (0, 0)) (by (with_reducible repeat (first | refine blk_drewN ?_ _ | refine blk_drew ?_ | refine blk_alloc ?_ _)); exact BK179.out) k_ hn_)), Or.elim hk_ (fun hs_ => hs_.2.2.2.1) (fun hn_ => (Kd.freshB (g := gb184) (o := .cells #[.slice Ao45 t180.length co45] 26 (0, 0)) (by (with_reducible repeat (first | refine blk_drewN ?_ _ | refine blk_drew ?_ | refine blk_alloc ?_ _)); exact BK184.out) k_ hn_)), Or.elim hk_ (fun hs_ => hs_.2.2.2.2) (fun hn_ => (Kd.freshB (g := gb189) (o := .cells #[.slice Ao53 t185.length co53] 26 (0, 0)) (by (with_reducible repeat (first | refine blk_drewN ?_ _ | refine blk_drew ?_ | refine blk_alloc ?_ _)); exact BK189.out) k_ hn_))⟩)) (below_size (by repeat (first | (with_reducible first | exact HB.out | apply below_alloc | apply pw_below_drewN | apply below_drew1 | refine below_set ?_ GE170.out | refine below_set ?_ GE179.out | refine below_set ?_ GE184.out | refine below_set ?_ GE189.out) | exact HB.out)))); have n4_ := Aside0.mk (blk_below (g := gb170) (o := .cells #[.slice A0 l0.length c0] 26 (0, 0)) (by (with_reducible repeat (first | refine blk_drewN ?_ _ | refine blk_drew ?_ | refine blk_alloc ?_ _)); exact BK170.out) hb); have n5_ := Aside0.mk (blk_below (g := gb179) (o := .cells #[.string t173, .bool t174, .slice Ao40 t175.length co40] 30 (0, 0)) (by (with_reducible repeat (first | refine blk_drewN ?_ _ | refine blk_drew ?_ | refine blk_alloc ?_ _)); exact BK179.out) hb); have n6_ := Aside0.mk (blk_below (g := gb184) (o := .cells #[.slice Ao45 t180.length co45] 26 (0, 0)) (by (with_reducible repeat (first | refine blk_drewN ?_ _ | refine blk_drew ?_ | refine blk_alloc ?_ _)); exact BK184.out) hb); have n7_ := Aside0.mk (blk_below (g := gb189) (o := .cells #[.slice Ao53 t185.length co53] 26 (0, 0)) (by (with_reducible repeat (first | refine blk_drewN ?_ _ | refine blk_drew ?_ | refine blk_alloc ?_ _)); exact BK189.out) hb); have n8_ := Aside0.mk (below_step (by repeat (first | (with_reducible first | exact HB.out | apply below_alloc | apply pw_below_drewN | apply below_drew1 | refine below_set ?_ GE170.out | refine below_set ?_ GE179.out | refine below_set ?_ GE184.out | refine below_set ?_ GE189.out) | exact HB.out)) hb); clear HO_180002; clear HO_185000; clear HO_190000; clear BK170; clear BK179; clear BK184; clear BK189; clear HB; have HO_180002 := n0_; have HO_185000 := n1_; have HO_190000 := n2_; have HO192 := n3_; have BK170 := n4_; have BK179 := n5_; have BK184 := n6_; have BK189 := n7_; have HB := n8_; clear n0_ n1_ n2_ n3_ n4_ n5_ n6_ n7_ n8_; (try clear hb); (try clear hb2); (try clear hk); (try clear hi); (try clear ho0)) | ((with_reducible refine gate_dst (N := 14) rfl ?_); (try (refine gate_guard (by rfl) ?_; dsimp only)); refine box_event ?hg (N := 14) ?hd (cs := #[.slice none 0 0]) (t := 26) ?hr ?_; (case hd => rfl); (case hg => rfl); (case hr => first | (go_simp; done) | (go_simp; rfl)); intro gb194 hg w70 hbox hb; have n0_ := Aside0.mk (Kd.R_below (by (with_reducible repeat (first | apply Kd.R_alloc | apply Kd.R_drewN | apply Kd.R_drew)); exact HO_180002.out) hb); have n1_ := Aside0.mk (Kd.V_below (Kd.V_elderB (by (with_reducible repeat (first | apply Kd.V_alloc | apply Kd.V_drewN | apply Kd.V_drew)); exact HO_185000.out) gb194 (Nat.le_of_eq hg.symm)) hb); have n2_ := Aside0.mk (Kd.V_below (Kd.V_elderB (by (with_reducible repeat (first | apply Kd.V_alloc | apply Kd.V_drewN | apply Kd.V_drew)); exact HO_190000.out) gb194 (Nat.le_of_eq hg.symm)) hb); have n3_ := Aside0.mk (Kd.V_below (Kd.V_elderB (by (with_reducible repeat (first | apply Kd.V_alloc | apply Kd.V_drewN | apply Kd.V_drew)); exact HO192.out) gb194 (Nat.le_of_eq hg.symm)) hb); have n4_ := Aside0.mk (blk_below (g := gb170) (o := .cells #[.slice A0 l0.length c0] 26 (0, 0)) (by (with_reducible repeat (first | refine blk_drewN ?_ _ | refine blk_drew ?_ | refine blk_alloc ?_ _)); exact BK170.out) hb); have n5_ := Aside0.mk (blk_below (g := gb179) (o := .cells #[.string t173, .bool t174, .slice Ao40 t175.length co40] 30 (0, 0)) (by (with_reducible repeat (first | refine blk_drewN ?_ _ | refine blk_drew ?_ | refine blk_alloc ?_ _)); exact BK179.out) hb); have n6_ := Aside0.mk (blk_below (g := gb184) (o := .cells #[.slice Ao45 t180.length co45] 26 (0, 0)) (by (with_reducible repeat (first | refine blk_drewN ?_ _ | refine blk_drew ?_ | refine blk_alloc ?_ _)); exact BK184.out) hb); have n7_ := Aside0.mk (blk_below (g := gb189) (o := .cells #[.slice Ao53 t185.length co53] 26 (0, 0)) (by (with_reducible repeat (first | refine blk_drewN ?_ _ | refine blk_drew ?_ | refine blk_alloc ?_ _)); exact BK189.out) hb); have n8_ := Aside0.mk (below_step (by repeat (first | (with_reducible first | exact HB.out | apply below_alloc | apply pw_below_drewN | apply below_drew1 | refine below_set ?_ GE170.out | refine below_set ?_ GE179.out | refine below_set ?_ GE184.out | refine below_set ?_ GE189.out) | exact HB.out)) hb); have n9_ := Aside0.mk (hbox); have n10_ := Aside0.mk ((by rw [hg]; exact (below_size (by repeat (first | (with_reducible first | exact HB.out | apply below_alloc | apply pw_below_drewN | apply below_drew1 | refine below_set ?_ GE170.out | refine below_set ?_ GE179.out | refine below_set ?_ GE184.out | refine below_set ?_ GE189.out) | exact HB.out))) : w.heap.size ≤ gb194)); have n11_ := Aside0.mk ((by rw [hg]; exact (below_size (by repeat (first | (with_reducible first | exact HB.out | apply below_alloc | apply pw_below_drewN | apply below_drew1 | refine below_set ?_ GE170.out | refine below_set ?_ GE179.out | refine below_set ?_ GE184.out | refine below_set ?_ GE189.out) | exact HB.out))) : w.heap.size ≤ gb194)); have n12_ := Aside0.mk ((by rw [hg]; exact Nat.ne_of_lt (blk_lt (g := gb170) (o := .cells #[.slice A0 l0.length c0] 26 (0, 0)) (by (with_reducible repeat (first | refine blk_drewN ?_ _ | refine blk_drew ?_ | refine blk_alloc ?_ _)); exact BK170.out)) : gb170 ≠ gb194)); have n13_ := Aside0.mk ((by rw [hg]; exact Nat.ne_of_gt (blk_lt (g := gb170) (o := .cells #[.slice A0 l0.length c0] 26 (0, 0)) (by (with_reducible repeat (first | refine blk_drewN ?_ _ | refine blk_drew ?_ | refine blk_alloc ?_ _)); exact BK170.out)) : gb194 ≠ gb170)); have n14_ := Aside0.mk ((by rw [hg]; exact Nat.ne_of_lt (blk_lt (g := gb179) (o := .cells #[.string t173, .bool t174, .slice Ao40 t175.length co40] 30 (0, 0)) (by (with_reducible repeat (first | refine blk_drewN ?_ _ | refine blk_drew ?_ | refine blk_alloc ?_ _)); exact BK179.out)) : gb179 ≠ gb194)); have n15_ := Aside0.mk ((by rw [hg]; exact Nat.ne_of_gt (blk_lt (g := gb179) (o := .cells #[.string t173, .bool t174, .slice Ao40 t175.length co40] 30 (0, 0)) (by (with_reducible repeat (first | refine blk_drewN ?_ _ | refine blk_drew ?_ | refine blk_alloc ?_ _)); exact BK179.out)) : gb194 ≠ gb179)); have n16_ := Aside0.mk ((by rw [hg]; exact Nat.ne_of_lt (blk_lt (g := gb184) (o := .cells #[.slice Ao45 t180.length co45] 26 (0, 0)) (by (with_reducible repeat (first | refine blk_drewN ?_ _ | refine blk_drew ?_ | refine blk_alloc ?_ _)); exact BK184.out)) : gb184 ≠ gb194)); have n17_ := Aside0.mk ((by rw [hg]; exact Nat.ne_of_gt (blk_lt (g := gb184) (o := .cells #[.slice Ao45 t180.length co45] 26 (0, 0)) (by (with_reducible repeat (first | refine blk_drewN ?_ _ | refine blk_drew ?_ | refine blk_alloc ?_ _)); exact BK184.out)) : gb194 ≠ gb184)); have n18_ := Aside0.mk ((by rw [hg]; exact Nat.ne_of_lt (blk_lt (g := gb189) (o := .cells #[.slice Ao53 t185.length co53] 26 (0, 0)) (by (with_reducible repeat (first | refine blk_drewN ?_ _ | refine blk_drew ?_ | refine blk_alloc ?_ _)); exact BK189.out)) : gb189 ≠ gb194)); have n19_ := Aside0.mk ((by rw [hg]; exact Nat.ne_of_gt (blk_lt (g := gb189) (o := .cells #[.slice Ao53 t185.length co53] 26 (0, 0)) (by (with_reducible repeat (first | refine blk_drewN ?_ _ | refine blk_drew ?_ | refine blk_alloc ?_ _)); exact BK189.out)) : gb194 ≠ gb189)); clear HO_180002; clear HO_185000; clear HO_190000; clear HO192; clear BK170; clear BK179; clear BK184; clear BK189; clear HB; have HO_180002 := n0_; have HO_185000 := n1_; have HO_190000 := n2_; have HO192 := n3_; have BK170 := n4_; have BK179 := n5_; have BK184 := n6_; have BK189 := n7_; have HB := n8_; have BK194 := n9_; have GW194 := n10_; have GE194 := n11_; have NB170_194 := n12_; have NB194_170 := n13_; have NB179_194 := n14_; have NB194_179 := n15_; have NB184_194 := n16_; have NB194_184 := n17_; have NB189_194 := n18_; have NB194_189 := n19_; clear n0_ n1_ n2_ n3_ n4_ n5_ n6_ n7_ n8_ n9_ n10_ n11_ n12_ n13_ n14_ n15_ n16_ n17_ n18_ n19_; clear hb hbox hg; obtain ⟨Ao71, co71, eo71⟩ := Kd.V_slice HO192.out; subst eo71; have hnb72 := NB194_170.out; have hnc72 := NB170_194.out; have hnb73 := NB194_179.out; have hnc73 := NB179_194.out; have hnb74 := NB194_184.out; have hnc74 := NB184_194.out; have hnb75 := NB194_189.out; have hnc75 := NB189_194.out; have hcz76_0 : w70.cell? ⟨gb194, 0, none⟩ = some (.slice none 0 0) := (blk_cell BK194.out 0).trans rfl; have hfz76_0 := blk_frozen BK194.out 0; have hnb77 := NB170_179.out; have hnc77 := NB179_170.out; have hnb78 := NB170_189.out; have hnc78 := NB189_170.out; have hcz79_0 : w70.cell? ⟨gb170, 0, none⟩ = some (.slice A0 l0.length c0) := (blk_cell BK170.out 0).trans rfl; have hfz79_0 := blk_frozen BK170.out 0) | (go_at_call 20; (with_reducible refine (tree_Same.calls _ _ t190 _ _ l0 true _ ?side1 ?side2 ?side3 ?side4 A63.out).mono ?_); (case side1 => refine (Kd.V_reads' (e := 30) (base := w.heap.size) (ok := fun k_ => ((some k_ ≠ (.slice Ao40 t175.length co40 : Value).ownBlock ∧ (k_ ≠ gb170 ∧ (k_ ≠ gb179 ∧ (k_ ≠ gb184 ∧ k_ ≠ gb189)))) ∧ k_ ≠ gb194)) (n := t190.length) (c := co71) ?_).2.2; exact (by (with_reducible repeat (first | apply Kd.V_alloc | apply Kd.V_drewN | apply Kd.V_drew)); exact (Kd.V_mono (Kd.V_far (p := ⟨gb194, 0, none⟩) (Kd.V_mono HO192.out (fun k_ hk => (⟨hk, hk.2⟩ : _ ∧ k_ ≠ gb194))) (fun _ hk => hk.2) (.slice Ao71 t190.length co71)) (fun _ h_ => h_.1)))); (case side2 => exact (Kd.V_reads' HO192.out).2.1); (case side3 => exact Kd.C_below HR0.out (by repeat (first | (with_reducible first | exact HB.out | apply below_alloc | apply pw_below_drewN | apply below_drew1 | refine below_set ?_ GE170.out | refine below_set ?_ GE179.out | refine below_set ?_ GE184.out | refine below_set ?_ GE189.out | refine below_set ?_ GE194.out) | exact HB.out))); (case side4 => exact HC0.out); rintro e w80 ⟨rfl, hb⟩; have n0_ := Aside0.mk (Kd.R_below (by (with_reducible repeat (first | apply Kd.R_alloc | apply Kd.R_drewN | apply Kd.R_drew)); exact (Kd.R_mono (Kd.R_far (p := ⟨gb194, 0, none⟩) (Kd.R_types HO_180002.out BK194.out (by decide)) (fun _ hk => hk.2) (.slice Ao71 t190.length co71)) (fun _ h_ => h_.1))) hb); have n1_ := Aside0.mk (Kd.V_below (by (with_reducible repeat (first | apply Kd.V_alloc | apply Kd.V_drewN | apply Kd.V_drew)); exact (Kd.V_mono (Kd.V_far (p := ⟨gb194, 0, none⟩) (Kd.V_mono HO_185000.out (fun k_ hk => (⟨hk, hk.2⟩ : _ ∧ k_ ≠ gb194))) (fun _ hk => hk.2) (.slice Ao71 t190.length co71)) (fun _ h_ => h_.1))) hb); have n2_ := Aside0.mk (Kd.V_below (by (with_reducible repeat (first | apply Kd.V_alloc | apply Kd.V_drewN | apply Kd.V_drew)); exact (Kd.V_mono (Kd.V_far (p := ⟨gb194, 0, none⟩) (Kd.V_mono HO_190000.out (fun k_ hk => (⟨hk, hk.2⟩ : _ ∧ k_ ≠ gb194))) (fun _ hk => hk.2) (.slice Ao71 t190.length co71)) (fun _ h_ => h_.1))) hb); have n3_ := Aside0.mk (Kd.V_below (by (with_reducible repeat (first | apply Kd.V_alloc | apply Kd.V_drewN | apply Kd.V_drew)); exact (Kd.V_mono (Kd.V_far (p := ⟨gb194, 0, none⟩) (Kd.V_mono HO192.out (fun k_ hk => (⟨hk, hk.2⟩ : _ ∧ k_ ≠ gb194))) (fun _ hk => hk.2) (.slice Ao71 t190.length co71)) (fun _ h_ => h_.1))) hb); have n4_ := Aside0.mk (blk_below (g := gb170) (o := .cells #[.slice A0 l0.length c0] 26 (0, 0)) (by (with_reducible repeat (first | refine blk_drewN ?_ _ | refine blk_drew ?_ | refine blk_alloc ?_ _)); refine blk_far ?_ NB170_194.out _; (with_reducible repeat (first | refine blk_drewN ?_ _ | refine blk_drew ?_ | refine blk_alloc ?_ _)); exact BK170.out) hb); have n5_ := Aside0.mk (blk_below (g := gb179) (o := .cells #[.string t173, .bool t174, .slice Ao40 t175.length co40] 30 (0, 0)) (by (with_reducible repeat (first | refine blk_drewN ?_ _ | refine blk_drew ?_ | refine blk_alloc ?_ _)); refine blk_far ?_ NB179_194.out _; (with_reducible repeat (first | refine blk_drewN ?_ _ | refine blk_drew ?_ | refine blk_alloc ?_ _)); exact BK179.out) hb); have n6_ := Aside0.mk (blk_below (g := gb184) (o := .cells #[.slice Ao45 t180.length co45] 26 (0, 0)) (by (with_reducible repeat (first | refine blk_drewN ?_ _ | refine blk_drew ?_ | refine blk_alloc ?_ _)); refine blk_far ?_ NB184_194.out _; (with_reducible repeat (first | refine blk_drewN ?_ _ | refine blk_drew ?_ | refine blk_alloc ?_ _)); exact BK184.out) hb); have n7_ := Aside0.mk (blk_below (g := gb189) (o := .cells #[.slice Ao53 t185.length co53] 26 (0, 0)) (by (with_reducible repeat (first | refine blk_drewN ?_ _ | refine blk_drew ?_ | refine blk_alloc ?_ _)); refine blk_far ?_ NB189_194.out _; (with_reducible repeat (first | refine blk_drewN ?_ _ | refine blk_drew ?_ | refine blk_alloc ?_ _)); exact BK189.out) hb); have n8_ := Aside0.mk (blk_below (g := gb194) (o := .cells #[.slice Ao71 t190.length co71] 26 (0, 0)) (by (with_reducible repeat (first | refine blk_drewN ?_ _ | refine blk_drew ?_ | refine blk_alloc ?_ _)); refine blk_put (cs := #[.slice none 0 0]) ?_ 0 _ rfl; (with_reducible repeat (first | refine blk_drewN ?_ _ | refine blk_drew ?_ | refine blk_alloc ?_ _)); exact BK194.out) hb); have n9_ := Aside0.mk (below_step (by repeat (first | (with_reducible first | exact HB.out | apply below_alloc | apply pw_below_drewN | apply below_drew1 | refine below_set ?_ GE170.out | refine below_set ?_ GE179.out | refine below_set ?_ GE184.out | refine below_set ?_ GE189.out | refine below_set ?_ GE194.out) | exact HB.out)) hb); clear HO_180002; clear HO_185000; clear HO_190000; clear HO192; clear BK170; clear BK179; clear BK184; clear BK189; clear BK194; clear HB; have HO_180002 := n0_; have HO_185000 := n1_; have HO_190000 := n2_; have HO192 := n3_; have BK170 := n4_; have BK179 := n5_; have BK184 := n6_; have BK189 := n7_; have BK194 := n8_; have HB := n9_; clear n0_ n1_ n2_ n3_ n4_ n5_ n6_ n7_ n8_ n9_; (try clear hb); (try clear hb2); (try clear hk); (try clear hi)))
                      go_meet
                      case rel => exact ⟨_, H', ⟨by have := HJ5.out; have := HJ33.out; first | omega | exact Nat.le_refl _⟩, ⟨by (with_reducible repeat (first | apply Kd.R_alloc | apply Kd.R_drewN | apply Kd.R_drew)); exact HO_180002.out⟩, ⟨by (with_reducible repeat (first | apply Kd.V_alloc | apply Kd.V_drewN | apply Kd.V_drew)); exact Kd.V_mono HO_185000.out (fun _ hk => ⟨hk.1.1, ⟨hk.1.2.1, ⟨hk.1.2.2.1, ⟨hk.1.2.2.2.1, hk.1.2.2.2.2⟩⟩⟩⟩)⟩, ⟨by (with_reducible repeat (first | apply Kd.V_alloc | apply Kd.V_drewN | apply Kd.V_drew)); exact Kd.V_mono HO_190000.out (fun _ hk => ⟨hk.1.1, ⟨hk.1.2.1, ⟨hk.1.2.2.1, ⟨hk.1.2.2.2.1, hk.1.2.2.2.2⟩⟩⟩⟩)⟩, ⟨by (with_reducible repeat (first | refine blk_drewN ?_ _ | refine blk_drew ?_ | refine blk_alloc ?_ _)); exact BK170.out⟩, ⟨by (with_reducible repeat (first | refine blk_drewN ?_ _ | refine blk_drew ?_ | refine blk_alloc ?_ _)); exact BK179.out⟩, ⟨by (with_reducible repeat (first | refine blk_drewN ?_ _ | refine blk_drew ?_ | refine blk_alloc ?_ _)); exact BK184.out⟩, ⟨by (with_reducible repeat (first | refine blk_drewN ?_ _ | refine blk_drew ?_ | refine blk_alloc ?_ _)); exact BK189.out⟩, ⟨by repeat (first | (with_reducible first | exact HB.out | apply below_alloc | apply pw_below_drewN | apply below_drew1 | refine below_set ?_ GE170.out | refine below_set ?_ GE179.out | refine below_set ?_ GE184.out | refine below_set ?_ GE189.out | refine below_set ?_ GE194.out) | exact HB.out)⟩⟩
                    · replace c64 := Bool.eq_false_iff.mpr c64
                      subst c64
                      have H1 : (some false) = some r := by rw [if_neg (show ¬ (false = true) by decide)] at H; exact H
                      clear H
                      have H := H1
                      clear H1
                      exact absurd ((Option.some.inj H).trans HT_.out) (by decide)
                  · rw [if_neg c62] at H
                    have c62b0 : (t193 == 0) = false := beq_eq_false_iff_ne.mpr c62
                    have c62b1 : (t193 != 0) = true := bne_iff_ne.mpr c62
                    (first | rw [c62b0] | (simp only [i64_w, i32_w]; rw [c62b0]) | skip)
                    exact absurd ((Option.some.inj H).trans HT_.out) (by decide)
                · replace c60 := Bool.eq_false_iff.mpr c60
                  subst c60
                  have H1 : (tallymanlaw8_TreeBack.j2 kj33 a1 t178 t188 l0 t180 t185) = some r := by rw [if_neg (show ¬ (false = true) by decide)] at H; exact H
                  clear H
                  have H := H1
                  clear H1
                  have H' := Aside0.mk H
                  clear H
                  go_wp2
                  go_meet
                  case rel => exact ⟨_, H', ⟨by have := HJ5.out; have := HJ33.out; first | omega | exact Nat.le_refl _⟩, ⟨by (with_reducible repeat (first | apply Kd.R_alloc | apply Kd.R_drewN | apply Kd.R_drew)); exact HO_180002.out⟩, ⟨by (with_reducible repeat (first | apply Kd.V_alloc | apply Kd.V_drewN | apply Kd.V_drew)); exact HO_185000.out⟩, ⟨by (with_reducible repeat (first | apply Kd.V_alloc | apply Kd.V_drewN | apply Kd.V_drew)); exact HO_190000.out⟩, ⟨by (with_reducible repeat (first | refine blk_drewN ?_ _ | refine blk_drew ?_ | refine blk_alloc ?_ _)); exact BK170.out⟩, ⟨by (with_reducible repeat (first | refine blk_drewN ?_ _ | refine blk_drew ?_ | refine blk_alloc ?_ _)); exact BK179.out⟩, ⟨by (with_reducible repeat (first | refine blk_drewN ?_ _ | refine blk_drew ?_ | refine blk_alloc ?_ _)); exact BK184.out⟩, ⟨by (with_reducible repeat (first | refine blk_drewN ?_ _ | refine blk_drew ?_ | refine blk_alloc ?_ _)); exact BK189.out⟩, ⟨by repeat (first | (with_reducible first | exact HB.out | apply below_alloc | apply pw_below_drewN | apply below_drew1 | refine below_set ?_ GE170.out | refine below_set ?_ GE179.out | refine below_set ?_ GE184.out | refine below_set ?_ GE189.out) | exact HB.out)⟩⟩
              case rest =>
                clear HC59
                try clear c1
                try clear c2
                try clear p2
                try clear c3
                try clear c4
                try clear c5
                try clear c6
                try clear c7
                try clear c10
                try clear c10b0
                try clear c10b1
                try clear c12
                try clear c13
                try clear c14
                try clear c14b0
                try clear c16
                try clear c17
                try clear c18
                try clear c19
                try clear c19b0
                try clear c19b1
                try clear c30
                try clear c38
                try clear c46
                try clear c47
                try clear c54
                try clear c55
                try clear c56
                try clear c58
                try clear c58b0
                try clear c58b1
                try clear c60
                try clear c62
                try clear c62b0
                try clear c62b1
                try clear c64
                try clear c65
                try clear c66
                try clear c67
                try clear c72
                try clear c73
                try clear c74
                try clear c75
                try clear c77
                try clear c78
                try clear hcz15_0
                try clear hcz17_0
                try clear hcz20_0
                try clear hcz22_0
                try clear hcz24_0
                try clear hcz26_0
                try clear hcz28_0
                try clear hcz35_0
                try clear hcz39_0
                try clear hcz39_1
                try clear hcz39_2
                try clear hcz42_0
                try clear hcz48_0
                try clear hcz50_0
                try clear hcz57_0
                try clear hcz68_0
                try clear hcz76_0
                try clear hcz79_0
                try clear hcz9_0
                try clear hfz15_0
                try clear hfz17_0
                try clear hfz20_0
                try clear hfz22_0
                try clear hfz24_0
                try clear hfz26_0
                try clear hfz28_0
                try clear hfz35_0
                try clear hfz39_0
                try clear hfz39_1
                try clear hfz39_2
                try clear hfz42_0
                try clear hfz48_0
                try clear hfz50_0
                try clear hfz57_0
                try clear hfz68_0
                try clear hfz76_0
                try clear hfz79_0
                try clear hfz9_0
                try clear p2
                obtain ⟨kq, HA, HJ58, HO_180002, HO_185000, HO_190000, BK170, BK179, BK184, BK189, HB⟩ := hcut
                cases kq with
                | zero => exact absurd HA.out (by simp [tallymanlaw8_TreeBack.j2])
                | succ kj58 =>
                  have H := HA.out
                  clear HA
                  simp only [tallymanlaw8_TreeBack.j2] at H
                  by_cases c81 : t188 = 0
                  · rw [if_pos c81] at H
                    have c81b0 : (t188 == 0) = true := beq_iff_eq.mpr c81
                    have c81b1 : (t188 != 0) = false := bne_eq_false_iff_eq.mpr c81
                    clear c81
                    replace H := Option.bind_eq_some_iff.mp H
                    obtain ⟨⟨t196, t199⟩, A820, H⟩ := H
                    replace H : (if t199 = 0 then ((tree_Same.f t196 l0).bind fun t201 => (if t201 = true then (tallymanlaw8_TreeBack.j3 kj58 (t178 != 5) t180 t185) else (tallymanlaw8_TreeBack.j3 kj58 true t180 t185))) else (tallymanlaw8_TreeBack.j3 kj58 true t180 t185)) = some r := H
                    have A82 := Aside0.mk A820
                    clear A820
                    have HC83 := Aside0.mk H
                    clear H
                    have hnb84 := NB189_170.out
                    have hnc84 := NB170_189.out
                    have hnb85 := NB189_179.out
                    have hnc85 := NB179_189.out
                    have hnb86 := NB189_184.out
                    have hnc86 := NB184_189.out
                    have hcz87_0 : wc.cell? ⟨gb189, 0, none⟩ = some (.slice Ao53 t185.length co53) := (blk_cell BK189.out 0).trans rfl
                    have hfz87_0 := blk_frozen BK189.out 0
                    go_upto_region 15 with (first | ((with_reducible refine gate_callee (f := 19) rfl ?_); refine goesL_ (some 89) rfl rfl Tryd.func19 (by kernel_rfl) rfl #[.agg #[.slice Ao53 t185.length co53], .string a1] rfl (by (try simp only [List.map_toArray, List.map_cons, List.map_nil]); first | done | rfl | (simp only [List.length_drop, List.length_take]; rfl)) ?_; (with_reducible refine (tree_Remove.calls (fun k_ => (some k_ ≠ (.slice Ao40 t175.length co40 : Value).ownBlock ∧ (k_ ≠ gb170 ∧ (k_ ≠ gb179 ∧ (k_ ≠ gb184 ∧ k_ ≠ gb189))))) _ _ t185 a1 t196 t199 _ ?side1 A82.out).mono ?_); (case side1 => exact HO_190000.out); rintro e w88 ⟨v197, rfl, ho0, hb⟩; refine ⟨_, rfl, ?_⟩; have n0_ := Aside0.mk (Kd.R_below (by (with_reducible repeat (first | apply Kd.R_alloc | apply Kd.R_drewN | apply Kd.R_drew)); exact HO_180002.out) hb); have n1_ := Aside0.mk (Kd.V_below (by (with_reducible repeat (first | apply Kd.V_alloc | apply Kd.V_drewN | apply Kd.V_drew)); exact HO_185000.out) hb); have n2_ := Aside0.mk (Kd.V_below (by (with_reducible repeat (first | apply Kd.V_alloc | apply Kd.V_drewN | apply Kd.V_drew)); exact HO_190000.out) hb); have n3_ := Aside0.mk (Kd.V_lower (Kd.V_mono (ok' := fun k_ => some k_ ≠ (.slice Ao40 t175.length co40 : Value).ownBlock ∧ k_ ≠ gb170 ∧ k_ ≠ gb179 ∧ k_ ≠ gb184 ∧ k_ ≠ gb189) ho0 (fun k_ hk_ => ⟨Or.elim hk_ (fun hs_ => hs_.1) (fun hn_ => (Kd.fresh' (Kd.R_lt (by (with_reducible repeat (first | apply Kd.R_alloc | apply Kd.R_drewN | apply Kd.R_drew)); exact HO_180002.out)) k_ hn_)), Or.elim hk_ (fun hs_ => hs_.2.1) (fun hn_ => (Kd.freshB (g := gb170) (o := .cells #[.slice A0 l0.length c0] 26 (0, 0)) (by (with_reducible repeat (first | refine blk_drewN ?_ _ | refine blk_drew ?_ | refine blk_alloc ?_ _)); exact BK170.out) k_ hn_)), Or.elim hk_ (fun hs_ => hs_.2.2.1) (fun hn_ => (Kd.freshB (g := gb179) (o := .cells #[.string t173, .bool t174, .slice Ao40 t175.length co40] 30 (0, 0)) (by (with_reducible repeat (first | refine blk_drewN ?_ _ | refine blk_drew ?_ | refine blk_alloc ?_ _)); exact BK179.out) k_ hn_)), Or.elim hk_ (fun hs_ => hs_.2.2.2.1) (fun hn_ => (Kd.freshB (g := gb184) (o := .cells #[.slice Ao45 t180.length co45] 26 (0, 0)) (by (with_reducible repeat (first | refine blk_drewN ?_ _ | refine blk_drew ?_ | refine blk_alloc ?_ _)); exact BK184.out) k_ hn_)), Or.elim hk_ (fun hs_ => hs_.2.2.2.2) (fun hn_ => (Kd.freshB (g := gb189) (o := .cells #[.slice Ao53 t185.length co53] 26 (0, 0)) (by (with_reducible repeat (first | refine blk_drewN ?_ _ | refine blk_drew ?_ | refine blk_alloc ?_ _)); exact BK189.out) k_ hn_))⟩)) (below_size (by repeat (first | (with_reducible first | exact HB.out | apply below_alloc | apply pw_below_drewN | apply below_drew1 | refine below_set ?_ GE170.out | refine below_set ?_ GE179.out | refine below_set ?_ GE184.out | refine below_set ?_ GE189.out) | exact HB.out)))); have n4_ := Aside0.mk (blk_below (g := gb170) (o := .cells #[.slice A0 l0.length c0] 26 (0, 0)) (by (with_reducible repeat (first | refine blk_drewN ?_ _ | refine blk_drew ?_ | refine blk_alloc ?_ _)); exact BK170.out) hb); have n5_ := Aside0.mk (blk_below (g := gb179) (o := .cells #[.string t173, .bool t174, .slice Ao40 t175.length co40] 30 (0, 0)) (by (with_reducible repeat (first | refine blk_drewN ?_ _ | refine blk_drew ?_ | refine blk_alloc ?_ _)); exact BK179.out) hb); have n6_ := Aside0.mk (blk_below (g := gb184) (o := .cells #[.slice Ao45 t180.length co45] 26 (0, 0)) (by (with_reducible repeat (first | refine blk_drewN ?_ _ | refine blk_drew ?_ | refine blk_alloc ?_ _)); exact BK184.out) hb); have n7_ := Aside0.mk (blk_below (g := gb189) (o := .cells #[.slice Ao53 t185.length co53] 26 (0, 0)) (by (with_reducible repeat (first | refine blk_drewN ?_ _ | refine blk_drew ?_ | refine blk_alloc ?_ _)); exact BK189.out) hb); have n8_ := Aside0.mk (below_step (by repeat (first | (with_reducible first | exact HB.out | apply below_alloc | apply pw_below_drewN | apply below_drew1 | refine below_set ?_ GE170.out | refine below_set ?_ GE179.out | refine below_set ?_ GE184.out | refine below_set ?_ GE189.out) | exact HB.out)) hb); clear HO_180002; clear HO_185000; clear HO_190000; clear BK170; clear BK179; clear BK184; clear BK189; clear HB; have HO_180002 := n0_; have HO_185000 := n1_; have HO_190000 := n2_; have HO198 := n3_; have BK170 := n4_; have BK179 := n5_; have BK184 := n6_; have BK189 := n7_; have HB := n8_; clear n0_ n1_ n2_ n3_ n4_ n5_ n6_ n7_ n8_; (try clear hb); (try clear hb2); (try clear hk); (try clear hi); (try clear ho0)) | ((with_reducible refine gate_dst (N := 16) rfl ?_); (try (refine gate_guard (by rfl) ?_; dsimp only)); refine box_event ?hg (N := 16) ?hd (cs := #[.slice none 0 0]) (t := 26) ?hr ?_; (case hd => rfl); (case hg => rfl); (case hr => first | (go_simp; done) | (go_simp; rfl)); intro gb200 hg w89 hbox hb; have n0_ := Aside0.mk (Kd.R_below (by (with_reducible repeat (first | apply Kd.R_alloc | apply Kd.R_drewN | apply Kd.R_drew)); exact HO_180002.out) hb); have n1_ := Aside0.mk (Kd.V_below (Kd.V_elderB (by (with_reducible repeat (first | apply Kd.V_alloc | apply Kd.V_drewN | apply Kd.V_drew)); exact HO_185000.out) gb200 (Nat.le_of_eq hg.symm)) hb); have n2_ := Aside0.mk (Kd.V_below (Kd.V_elderB (by (with_reducible repeat (first | apply Kd.V_alloc | apply Kd.V_drewN | apply Kd.V_drew)); exact HO_190000.out) gb200 (Nat.le_of_eq hg.symm)) hb); have n3_ := Aside0.mk (Kd.V_below (Kd.V_elderB (by (with_reducible repeat (first | apply Kd.V_alloc | apply Kd.V_drewN | apply Kd.V_drew)); exact HO198.out) gb200 (Nat.le_of_eq hg.symm)) hb); have n4_ := Aside0.mk (blk_below (g := gb170) (o := .cells #[.slice A0 l0.length c0] 26 (0, 0)) (by (with_reducible repeat (first | refine blk_drewN ?_ _ | refine blk_drew ?_ | refine blk_alloc ?_ _)); exact BK170.out) hb); have n5_ := Aside0.mk (blk_below (g := gb179) (o := .cells #[.string t173, .bool t174, .slice Ao40 t175.length co40] 30 (0, 0)) (by (with_reducible repeat (first | refine blk_drewN ?_ _ | refine blk_drew ?_ | refine blk_alloc ?_ _)); exact BK179.out) hb); have n6_ := Aside0.mk (blk_below (g := gb184) (o := .cells #[.slice Ao45 t180.length co45] 26 (0, 0)) (by (with_reducible repeat (first | refine blk_drewN ?_ _ | refine blk_drew ?_ | refine blk_alloc ?_ _)); exact BK184.out) hb); have n7_ := Aside0.mk (blk_below (g := gb189) (o := .cells #[.slice Ao53 t185.length co53] 26 (0, 0)) (by (with_reducible repeat (first | refine blk_drewN ?_ _ | refine blk_drew ?_ | refine blk_alloc ?_ _)); exact BK189.out) hb); have n8_ := Aside0.mk (below_step (by repeat (first | (with_reducible first | exact HB.out | apply below_alloc | apply pw_below_drewN | apply below_drew1 | refine below_set ?_ GE170.out | refine below_set ?_ GE179.out | refine below_set ?_ GE184.out | refine below_set ?_ GE189.out) | exact HB.out)) hb); have n9_ := Aside0.mk (hbox); have n10_ := Aside0.mk ((by rw [hg]; exact (below_size (by repeat (first | (with_reducible first | exact HB.out | apply below_alloc | apply pw_below_drewN | apply below_drew1 | refine below_set ?_ GE170.out | refine below_set ?_ GE179.out | refine below_set ?_ GE184.out | refine below_set ?_ GE189.out) | exact HB.out))) : w.heap.size ≤ gb200)); have n11_ := Aside0.mk ((by rw [hg]; exact (below_size (by repeat (first | (with_reducible first | exact HB.out | apply below_alloc | apply pw_below_drewN | apply below_drew1 | refine below_set ?_ GE170.out | refine below_set ?_ GE179.out | refine below_set ?_ GE184.out | refine below_set ?_ GE189.out) | exact HB.out))) : w.heap.size ≤ gb200)); have n12_ := Aside0.mk ((by rw [hg]; exact Nat.ne_of_lt (blk_lt (g := gb170) (o := .cells #[.slice A0 l0.length c0] 26 (0, 0)) (by (with_reducible repeat (first | refine blk_drewN ?_ _ | refine blk_drew ?_ | refine blk_alloc ?_ _)); exact BK170.out)) : gb170 ≠ gb200)); have n13_ := Aside0.mk ((by rw [hg]; exact Nat.ne_of_gt (blk_lt (g := gb170) (o := .cells #[.slice A0 l0.length c0] 26 (0, 0)) (by (with_reducible repeat (first | refine blk_drewN ?_ _ | refine blk_drew ?_ | refine blk_alloc ?_ _)); exact BK170.out)) : gb200 ≠ gb170)); have n14_ := Aside0.mk ((by rw [hg]; exact Nat.ne_of_lt (blk_lt (g := gb179) (o := .cells #[.string t173, .bool t174, .slice Ao40 t175.length co40] 30 (0, 0)) (by (with_reducible repeat (first | refine blk_drewN ?_ _ | refine blk_drew ?_ | refine blk_alloc ?_ _)); exact BK179.out)) : gb179 ≠ gb200)); have n15_ := Aside0.mk ((by rw [hg]; exact Nat.ne_of_gt (blk_lt (g := gb179) (o := .cells #[.string t173, .bool t174, .slice Ao40 t175.length co40] 30 (0, 0)) (by (with_reducible repeat (first | refine blk_drewN ?_ _ | refine blk_drew ?_ | refine blk_alloc ?_ _)); exact BK179.out)) : gb200 ≠ gb179)); have n16_ := Aside0.mk ((by rw [hg]; exact Nat.ne_of_lt (blk_lt (g := gb184) (o := .cells #[.slice Ao45 t180.length co45] 26 (0, 0)) (by (with_reducible repeat (first | refine blk_drewN ?_ _ | refine blk_drew ?_ | refine blk_alloc ?_ _)); exact BK184.out)) : gb184 ≠ gb200)); have n17_ := Aside0.mk ((by rw [hg]; exact Nat.ne_of_gt (blk_lt (g := gb184) (o := .cells #[.slice Ao45 t180.length co45] 26 (0, 0)) (by (with_reducible repeat (first | refine blk_drewN ?_ _ | refine blk_drew ?_ | refine blk_alloc ?_ _)); exact BK184.out)) : gb200 ≠ gb184)); have n18_ := Aside0.mk ((by rw [hg]; exact Nat.ne_of_lt (blk_lt (g := gb189) (o := .cells #[.slice Ao53 t185.length co53] 26 (0, 0)) (by (with_reducible repeat (first | refine blk_drewN ?_ _ | refine blk_drew ?_ | refine blk_alloc ?_ _)); exact BK189.out)) : gb189 ≠ gb200)); have n19_ := Aside0.mk ((by rw [hg]; exact Nat.ne_of_gt (blk_lt (g := gb189) (o := .cells #[.slice Ao53 t185.length co53] 26 (0, 0)) (by (with_reducible repeat (first | refine blk_drewN ?_ _ | refine blk_drew ?_ | refine blk_alloc ?_ _)); exact BK189.out)) : gb200 ≠ gb189)); clear HO_180002; clear HO_185000; clear HO_190000; clear HO198; clear BK170; clear BK179; clear BK184; clear BK189; clear HB; have HO_180002 := n0_; have HO_185000 := n1_; have HO_190000 := n2_; have HO198 := n3_; have BK170 := n4_; have BK179 := n5_; have BK184 := n6_; have BK189 := n7_; have HB := n8_; have BK200 := n9_; have GW200 := n10_; have GE200 := n11_; have NB170_200 := n12_; have NB200_170 := n13_; have NB179_200 := n14_; have NB200_179 := n15_; have NB184_200 := n16_; have NB200_184 := n17_; have NB189_200 := n18_; have NB200_189 := n19_; clear n0_ n1_ n2_ n3_ n4_ n5_ n6_ n7_ n8_ n9_ n10_ n11_ n12_ n13_ n14_ n15_ n16_ n17_ n18_ n19_; clear hb hbox hg; obtain ⟨Ao90, co90, eo90⟩ := Kd.V_slice HO198.out; subst eo90; have hnb91 := NB200_170.out; have hnc91 := NB170_200.out; have hnb92 := NB200_179.out; have hnc92 := NB179_200.out; have hnb93 := NB200_184.out; have hnc93 := NB184_200.out; have hnb94 := NB200_189.out; have hnc94 := NB189_200.out; have hcz95_0 : w89.cell? ⟨gb200, 0, none⟩ = some (.slice none 0 0) := (blk_cell BK200.out 0).trans rfl; have hfz95_0 := blk_frozen BK200.out 0))
                    (try simp only [Act.put, List.setIfInBounds_toArray, List.set_cons_zero, List.set_cons_succ])
                    go_cut [103] (fun v103 wc => ∃ (kq : Nat) (x103_82 : Bool), v103 = .bool x103_82 ∧ Aside0 (tallymanlaw8_TreeBack.j3 kq x103_82 t180 t185 = some r) ∧ Aside0 (kq ≤ kj58) ∧ Aside0 (Kd.R (Kd.int .u8) 5 wc w.heap.size (fun _ => True) (.slice Ao40 t175.length co40) t175) ∧ Aside0 (Kd.V k30 30 wc w.heap.size (fun k_ => some k_ ≠ ((.slice Ao40 t175.length co40) : Value).ownBlock ∧ k_ ≠ gb170 ∧ k_ ≠ gb179 ∧ k_ ≠ gb184 ∧ k_ ≠ gb189 ∧ k_ ≠ gb200) (.slice Ao45 t180.length co45) t180) ∧ Aside0 (Kd.V k30 30 wc w.heap.size (fun k_ => some k_ ≠ ((.slice Ao40 t175.length co40) : Value).ownBlock ∧ k_ ≠ gb170 ∧ k_ ≠ gb179 ∧ k_ ≠ gb184 ∧ k_ ≠ gb189 ∧ k_ ≠ gb200) (.slice Ao53 t185.length co53) t185) ∧ Aside0 (Kd.V k30 30 wc w.heap.size (fun k_ => some k_ ≠ ((.slice Ao40 t175.length co40) : Value).ownBlock ∧ k_ ≠ gb170 ∧ k_ ≠ gb179 ∧ k_ ≠ gb184 ∧ k_ ≠ gb189 ∧ k_ ≠ gb200) (.slice Ao90 t196.length co90) t196) ∧ Aside0 (wc.heap[gb170]? = some (.cells #[(.slice A0 l0.length c0)] 26 (0, 0))) ∧ Aside0 (wc.heap[gb179]? = some (.cells #[.string t173, .bool t174, (.slice Ao40 t175.length co40)] 30 (0, 0))) ∧ Aside0 (wc.heap[gb184]? = some (.cells #[(.slice Ao45 t180.length co45)] 26 (0, 0))) ∧ Aside0 (wc.heap[gb189]? = some (.cells #[(.slice Ao53 t185.length co53)] 26 (0, 0))) ∧ Aside0 (wc.heap[gb200]? = some (.cells #[(.slice Ao90 t196.length co90)] 26 (0, 0))) ∧ Aside0 (Below w.heap.size w wc))
                    case first =>
                      have H := HC83.out
                      clear HC83
                      by_cases c96 : t199 = 0
                      · rw [if_pos c96] at H
                        have c96b0 : (t199 == 0) = true := beq_iff_eq.mpr c96
                        have c96b1 : (t199 != 0) = false := bne_eq_false_iff_eq.mpr c96
                        clear c96
                        (first | rw [c96b0] | (simp only [i64_w, i32_w]; rw [c96b0]) | skip)
                        replace H := Option.bind_eq_some_iff.mp H
                        obtain ⟨t201, A970, H⟩ := H
                        replace H : (if t201 = true then (tallymanlaw8_TreeBack.j3 kj58 (t178 != 5) t180 t185) else (tallymanlaw8_TreeBack.j3 kj58 true t180 t185)) = some r := H
                        have A97 := Aside0.mk A970
                        clear A970
                        by_cases c98 : t201 = true
                        · subst c98
                          have H1 : (tallymanlaw8_TreeBack.j3 kj58 (t178 != 5) t180 t185) = some r := by rw [if_pos rfl] at H; exact H
                          clear H
                          have H := H1
                          clear H1
                          have H' := Aside0.mk H
                          clear H
                          have hnb99 := NB200_170.out
                          have hnc99 := NB170_200.out
                          have hnb100 := NB200_179.out
                          have hnc100 := NB179_200.out
                          have hnb101 := NB200_184.out
                          have hnc101 := NB184_200.out
                          have hnb102 := NB200_189.out
                          have hnc102 := NB189_200.out
                          have hcz103_0 : w89.cell? ⟨gb200, 0, none⟩ = some (.slice none 0 0) := (blk_cell BK200.out 0).trans rfl
                          have hfz103_0 := blk_frozen BK200.out 0
                          have hnb104 := NB170_179.out
                          have hnc104 := NB179_170.out
                          have hnb105 := NB170_184.out
                          have hnc105 := NB184_170.out
                          have hnb106 := NB170_189.out
                          have hnc106 := NB189_170.out
                          have hcz107_0 : w89.cell? ⟨gb170, 0, none⟩ = some (.slice A0 l0.length c0) := (blk_cell BK170.out 0).trans rfl
                          have hfz107_0 := blk_frozen BK170.out 0
                          go_wp2_with (first | (go_at_call 20; (with_reducible refine (tree_Same.calls _ _ t196 _ _ l0 true _ ?side1 ?side2 ?side3 ?side4 A97.out).mono ?_); (case side1 => refine (Kd.V_reads' (e := 30) (base := w.heap.size) (ok := fun k_ => ((some k_ ≠ (.slice Ao40 t175.length co40 : Value).ownBlock ∧ (k_ ≠ gb170 ∧ (k_ ≠ gb179 ∧ (k_ ≠ gb184 ∧ k_ ≠ gb189)))) ∧ k_ ≠ gb200)) (n := t196.length) (c := co90) ?_).2.2; exact (by (with_reducible repeat (first | apply Kd.V_alloc | apply Kd.V_drewN | apply Kd.V_drew)); exact (Kd.V_mono (Kd.V_far (p := ⟨gb200, 0, none⟩) (Kd.V_mono HO198.out (fun k_ hk => (⟨hk, hk.2⟩ : _ ∧ k_ ≠ gb200))) (fun _ hk => hk.2) (.slice Ao90 t196.length co90)) (fun _ h_ => h_.1)))); (case side2 => exact (Kd.V_reads' HO198.out).2.1); (case side3 => exact Kd.C_below HR0.out (by repeat (first | (with_reducible first | exact HB.out | apply below_alloc | apply pw_below_drewN | apply below_drew1 | refine below_set ?_ GE170.out | refine below_set ?_ GE179.out | refine below_set ?_ GE184.out | refine below_set ?_ GE189.out | refine below_set ?_ GE200.out) | exact HB.out))); (case side4 => exact HC0.out); rintro e w108 ⟨rfl, hb⟩; have n0_ := Aside0.mk (Kd.R_below (by (with_reducible repeat (first | apply Kd.R_alloc | apply Kd.R_drewN | apply Kd.R_drew)); exact (Kd.R_mono (Kd.R_far (p := ⟨gb200, 0, none⟩) (Kd.R_types HO_180002.out BK200.out (by decide)) (fun _ hk => hk.2) (.slice Ao90 t196.length co90)) (fun _ h_ => h_.1))) hb); have n1_ := Aside0.mk (Kd.V_below (by (with_reducible repeat (first | apply Kd.V_alloc | apply Kd.V_drewN | apply Kd.V_drew)); exact (Kd.V_mono (Kd.V_far (p := ⟨gb200, 0, none⟩) (Kd.V_mono HO_185000.out (fun k_ hk => (⟨hk, hk.2⟩ : _ ∧ k_ ≠ gb200))) (fun _ hk => hk.2) (.slice Ao90 t196.length co90)) (fun _ h_ => h_.1))) hb); have n2_ := Aside0.mk (Kd.V_below (by (with_reducible repeat (first | apply Kd.V_alloc | apply Kd.V_drewN | apply Kd.V_drew)); exact (Kd.V_mono (Kd.V_far (p := ⟨gb200, 0, none⟩) (Kd.V_mono HO_190000.out (fun k_ hk => (⟨hk, hk.2⟩ : _ ∧ k_ ≠ gb200))) (fun _ hk => hk.2) (.slice Ao90 t196.length co90)) (fun _ h_ => h_.1))) hb); have n3_ := Aside0.mk (Kd.V_below (by (with_reducible repeat (first | apply Kd.V_alloc | apply Kd.V_drewN | apply Kd.V_drew)); exact (Kd.V_mono (Kd.V_far (p := ⟨gb200, 0, none⟩) (Kd.V_mono HO198.out (fun k_ hk => (⟨hk, hk.2⟩ : _ ∧ k_ ≠ gb200))) (fun _ hk => hk.2) (.slice Ao90 t196.length co90)) (fun _ h_ => h_.1))) hb); have n4_ := Aside0.mk (blk_below (g := gb170) (o := .cells #[.slice A0 l0.length c0] 26 (0, 0)) (by (with_reducible repeat (first | refine blk_drewN ?_ _ | refine blk_drew ?_ | refine blk_alloc ?_ _)); refine blk_far ?_ NB170_200.out _; (with_reducible repeat (first | refine blk_drewN ?_ _ | refine blk_drew ?_ | refine blk_alloc ?_ _)); exact BK170.out) hb); have n5_ := Aside0.mk (blk_below (g := gb179) (o := .cells #[.string t173, .bool t174, .slice Ao40 t175.length co40] 30 (0, 0)) (by (with_reducible repeat (first | refine blk_drewN ?_ _ | refine blk_drew ?_ | refine blk_alloc ?_ _)); refine blk_far ?_ NB179_200.out _; (with_reducible repeat (first | refine blk_drewN ?_ _ | refine blk_drew ?_ | refine blk_alloc ?_ _)); exact BK179.out) hb); have n6_ := Aside0.mk (blk_below (g := gb184) (o := .cells #[.slice Ao45 t180.length co45] 26 (0, 0)) (by (with_reducible repeat (first | refine blk_drewN ?_ _ | refine blk_drew ?_ | refine blk_alloc ?_ _)); refine blk_far ?_ NB184_200.out _; (with_reducible repeat (first | refine blk_drewN ?_ _ | refine blk_drew ?_ | refine blk_alloc ?_ _)); exact BK184.out) hb); have n7_ := Aside0.mk (blk_below (g := gb189) (o := .cells #[.slice Ao53 t185.length co53] 26 (0, 0)) (by (with_reducible repeat (first | refine blk_drewN ?_ _ | refine blk_drew ?_ | refine blk_alloc ?_ _)); refine blk_far ?_ NB189_200.out _; (with_reducible repeat (first | refine blk_drewN ?_ _ | refine blk_drew ?_ | refine blk_alloc ?_ _)); exact BK189.out) hb); have n8_ := Aside0.mk (blk_below (g := gb200) (o := .cells #[.slice Ao90 t196.length co90] 26 (0, 0)) (by (with_reducible repeat (first | refine blk_drewN ?_ _ | refine blk_drew ?_ | refine blk_alloc ?_ _)); refine blk_put (cs := #[.slice none 0 0]) ?_ 0 _ rfl; (with_reducible repeat (first | refine blk_drewN ?_ _ | refine blk_drew ?_ | refine blk_alloc ?_ _)); exact BK200.out) hb); have n9_ := Aside0.mk (below_step (by repeat (first | (with_reducible first | exact HB.out | apply below_alloc | apply pw_below_drewN | apply below_drew1 | refine below_set ?_ GE170.out | refine below_set ?_ GE179.out | refine below_set ?_ GE184.out | refine below_set ?_ GE189.out | refine below_set ?_ GE200.out) | exact HB.out)) hb); clear HO_180002; clear HO_185000; clear HO_190000; clear HO198; clear BK170; clear BK179; clear BK184; clear BK189; clear BK200; clear HB; have HO_180002 := n0_; have HO_185000 := n1_; have HO_190000 := n2_; have HO198 := n3_; have BK170 := n4_; have BK179 := n5_; have BK184 := n6_; have BK189 := n7_; have BK200 := n8_; have HB := n9_; clear n0_ n1_ n2_ n3_ n4_ n5_ n6_ n7_ n8_ n9_; (try clear hb); (try clear hb2); (try clear hk); (try clear hi)))
                          go_meet
                          case rel => exact ⟨_, ((t178 != 5)), (by first | rfl | (simp; done) | (simp [*]; done)), H', ⟨by have := HJ5.out; have := HJ33.out; have := HJ58.out; first | omega | exact Nat.le_refl _⟩, ⟨by (with_reducible repeat (first | apply Kd.R_alloc | apply Kd.R_drewN | apply Kd.R_drew)); exact HO_180002.out⟩, ⟨by (with_reducible repeat (first | apply Kd.V_alloc | apply Kd.V_drewN | apply Kd.V_drew)); exact Kd.V_mono HO_185000.out (fun _ hk => ⟨hk.1.1, ⟨hk.1.2.1, ⟨hk.1.2.2.1, ⟨hk.1.2.2.2.1, ⟨hk.1.2.2.2.2, hk.2⟩⟩⟩⟩⟩)⟩, ⟨by (with_reducible repeat (first | apply Kd.V_alloc | apply Kd.V_drewN | apply Kd.V_drew)); exact Kd.V_mono HO_190000.out (fun _ hk => ⟨hk.1.1, ⟨hk.1.2.1, ⟨hk.1.2.2.1, ⟨hk.1.2.2.2.1, ⟨hk.1.2.2.2.2, hk.2⟩⟩⟩⟩⟩)⟩, ⟨by (with_reducible repeat (first | apply Kd.V_alloc | apply Kd.V_drewN | apply Kd.V_drew)); exact Kd.V_mono HO198.out (fun _ hk => ⟨hk.1.1, ⟨hk.1.2.1, ⟨hk.1.2.2.1, ⟨hk.1.2.2.2.1, ⟨hk.1.2.2.2.2, hk.2⟩⟩⟩⟩⟩)⟩, ⟨by (with_reducible repeat (first | refine blk_drewN ?_ _ | refine blk_drew ?_ | refine blk_alloc ?_ _)); exact BK170.out⟩, ⟨by (with_reducible repeat (first | refine blk_drewN ?_ _ | refine blk_drew ?_ | refine blk_alloc ?_ _)); exact BK179.out⟩, ⟨by (with_reducible repeat (first | refine blk_drewN ?_ _ | refine blk_drew ?_ | refine blk_alloc ?_ _)); exact BK184.out⟩, ⟨by (with_reducible repeat (first | refine blk_drewN ?_ _ | refine blk_drew ?_ | refine blk_alloc ?_ _)); exact BK189.out⟩, ⟨by (with_reducible repeat (first | refine blk_drewN ?_ _ | refine blk_drew ?_ | refine blk_alloc ?_ _)); exact BK200.out⟩, ⟨by repeat (first | (with_reducible first | exact HB.out | apply below_alloc | apply pw_below_drewN | apply below_drew1 | refine below_set ?_ GE170.out | refine below_set ?_ GE179.out | refine below_set ?_ GE184.out | refine below_set ?_ GE189.out | refine below_set ?_ GE200.out) | exact HB.out)⟩⟩
                        · replace c98 := Bool.eq_false_iff.mpr c98
                          subst c98
                          have H1 : (tallymanlaw8_TreeBack.j3 kj58 true t180 t185) = some r := by rw [if_neg (show ¬ (false = true) by decide)] at H; exact H
                          clear H
                          have H := H1
                          clear H1
                          have H' := Aside0.mk H
                          clear H
                          have hnb109 := NB200_170.out
                          have hnc109 := NB170_200.out
                          have hnb110 := NB200_179.out
                          have hnc110 := NB179_200.out
                          have hnb111 := NB200_184.out
                          have hnc111 := NB184_200.out
                          have hnb112 := NB200_189.out
                          have hnc112 := NB189_200.out
                          have hcz113_0 : w89.cell? ⟨gb200, 0, none⟩ = some (.slice none 0 0) := (blk_cell BK200.out 0).trans rfl
                          have hfz113_0 := blk_frozen BK200.out 0
                          have hnb114 := NB170_179.out
                          have hnc114 := NB179_170.out
                          have hnb115 := NB170_184.out
                          have hnc115 := NB184_170.out
                          have hnb116 := NB170_189.out
                          have hnc116 := NB189_170.out
                          have hcz117_0 : w89.cell? ⟨gb170, 0, none⟩ = some (.slice A0 l0.length c0) := (blk_cell BK170.out 0).trans rfl
                          have hfz117_0 := blk_frozen BK170.out 0
                          go_wp2_with (first | (go_at_call 20; (with_reducible refine (tree_Same.calls _ _ t196 _ _ l0 false _ ?side1 ?side2 ?side3 ?side4 A97.out).mono ?_); (case side1 => refine (Kd.V_reads' (e := 30) (base := w.heap.size) (ok := fun k_ => ((some k_ ≠ (.slice Ao40 t175.length co40 : Value).ownBlock ∧ (k_ ≠ gb170 ∧ (k_ ≠ gb179 ∧ (k_ ≠ gb184 ∧ k_ ≠ gb189)))) ∧ k_ ≠ gb200)) (n := t196.length) (c := co90) ?_).2.2; exact (by (with_reducible repeat (first | apply Kd.V_alloc | apply Kd.V_drewN | apply Kd.V_drew)); exact (Kd.V_mono (Kd.V_far (p := ⟨gb200, 0, none⟩) (Kd.V_mono HO198.out (fun k_ hk => (⟨hk, hk.2⟩ : _ ∧ k_ ≠ gb200))) (fun _ hk => hk.2) (.slice Ao90 t196.length co90)) (fun _ h_ => h_.1)))); (case side2 => exact (Kd.V_reads' HO198.out).2.1); (case side3 => exact Kd.C_below HR0.out (by repeat (first | (with_reducible first | exact HB.out | apply below_alloc | apply pw_below_drewN | apply below_drew1 | refine below_set ?_ GE170.out | refine below_set ?_ GE179.out | refine below_set ?_ GE184.out | refine below_set ?_ GE189.out | refine below_set ?_ GE200.out) | exact HB.out))); (case side4 => exact HC0.out); rintro e w118 ⟨rfl, hb⟩; have n0_ := Aside0.mk (Kd.R_below (by (with_reducible repeat (first | apply Kd.R_alloc | apply Kd.R_drewN | apply Kd.R_drew)); exact (Kd.R_mono (Kd.R_far (p := ⟨gb200, 0, none⟩) (Kd.R_types HO_180002.out BK200.out (by decide)) (fun _ hk => hk.2) (.slice Ao90 t196.length co90)) (fun _ h_ => h_.1))) hb); have n1_ := Aside0.mk (Kd.V_below (by (with_reducible repeat (first | apply Kd.V_alloc | apply Kd.V_drewN | apply Kd.V_drew)); exact (Kd.V_mono (Kd.V_far (p := ⟨gb200, 0, none⟩) (Kd.V_mono HO_185000.out (fun k_ hk => (⟨hk, hk.2⟩ : _ ∧ k_ ≠ gb200))) (fun _ hk => hk.2) (.slice Ao90 t196.length co90)) (fun _ h_ => h_.1))) hb); have n2_ := Aside0.mk (Kd.V_below (by (with_reducible repeat (first | apply Kd.V_alloc | apply Kd.V_drewN | apply Kd.V_drew)); exact (Kd.V_mono (Kd.V_far (p := ⟨gb200, 0, none⟩) (Kd.V_mono HO_190000.out (fun k_ hk => (⟨hk, hk.2⟩ : _ ∧ k_ ≠ gb200))) (fun _ hk => hk.2) (.slice Ao90 t196.length co90)) (fun _ h_ => h_.1))) hb); have n3_ := Aside0.mk (Kd.V_below (by (with_reducible repeat (first | apply Kd.V_alloc | apply Kd.V_drewN | apply Kd.V_drew)); exact (Kd.V_mono (Kd.V_far (p := ⟨gb200, 0, none⟩) (Kd.V_mono HO198.out (fun k_ hk => (⟨hk, hk.2⟩ : _ ∧ k_ ≠ gb200))) (fun _ hk => hk.2) (.slice Ao90 t196.length co90)) (fun _ h_ => h_.1))) hb); have n4_ := Aside0.mk (blk_below (g := gb170) (o := .cells #[.slice A0 l0.length c0] 26 (0, 0)) (by (with_reducible repeat (first | refine blk_drewN ?_ _ | refine blk_drew ?_ | refine blk_alloc ?_ _)); refine blk_far ?_ NB170_200.out _; (with_reducible repeat (first | refine blk_drewN ?_ _ | refine blk_drew ?_ | refine blk_alloc ?_ _)); exact BK170.out) hb); have n5_ := Aside0.mk (blk_below (g := gb179) (o := .cells #[.string t173, .bool t174, .slice Ao40 t175.length co40] 30 (0, 0)) (by (with_reducible repeat (first | refine blk_drewN ?_ _ | refine blk_drew ?_ | refine blk_alloc ?_ _)); refine blk_far ?_ NB179_200.out _; (with_reducible repeat (first | refine blk_drewN ?_ _ | refine blk_drew ?_ | refine blk_alloc ?_ _)); exact BK179.out) hb); have n6_ := Aside0.mk (blk_below (g := gb184) (o := .cells #[.slice Ao45 t180.length co45] 26 (0, 0)) (by (with_reducible repeat (first | refine blk_drewN ?_ _ | refine blk_drew ?_ | refine blk_alloc ?_ _)); refine blk_far ?_ NB184_200.out _; (with_reducible repeat (first | refine blk_drewN ?_ _ | refine blk_drew ?_ | refine blk_alloc ?_ _)); exact BK184.out) hb); have n7_ := Aside0.mk (blk_below (g := gb189) (o := .cells #[.slice Ao53 t185.length co53] 26 (0, 0)) (by (with_reducible repeat (first | refine blk_drewN ?_ _ | refine blk_drew ?_ | refine blk_alloc ?_ _)); refine blk_far ?_ NB189_200.out _; (with_reducible repeat (first | refine blk_drewN ?_ _ | refine blk_drew ?_ | refine blk_alloc ?_ _)); exact BK189.out) hb); have n8_ := Aside0.mk (blk_below (g := gb200) (o := .cells #[.slice Ao90 t196.length co90] 26 (0, 0)) (by (with_reducible repeat (first | refine blk_drewN ?_ _ | refine blk_drew ?_ | refine blk_alloc ?_ _)); refine blk_put (cs := #[.slice none 0 0]) ?_ 0 _ rfl; (with_reducible repeat (first | refine blk_drewN ?_ _ | refine blk_drew ?_ | refine blk_alloc ?_ _)); exact BK200.out) hb); have n9_ := Aside0.mk (below_step (by repeat (first | (with_reducible first | exact HB.out | apply below_alloc | apply pw_below_drewN | apply below_drew1 | refine below_set ?_ GE170.out | refine below_set ?_ GE179.out | refine below_set ?_ GE184.out | refine below_set ?_ GE189.out | refine below_set ?_ GE200.out) | exact HB.out)) hb); clear HO_180002; clear HO_185000; clear HO_190000; clear HO198; clear BK170; clear BK179; clear BK184; clear BK189; clear BK200; clear HB; have HO_180002 := n0_; have HO_185000 := n1_; have HO_190000 := n2_; have HO198 := n3_; have BK170 := n4_; have BK179 := n5_; have BK184 := n6_; have BK189 := n7_; have BK200 := n8_; have HB := n9_; clear n0_ n1_ n2_ n3_ n4_ n5_ n6_ n7_ n8_ n9_; (try clear hb); (try clear hb2); (try clear hk); (try clear hi)))
                          go_meet
                          case rel => exact ⟨_, (true), (by first | rfl | (simp; done) | (simp [*]; done)), H', ⟨by have := HJ5.out; have := HJ33.out; have := HJ58.out; first | omega | exact Nat.le_refl _⟩, ⟨by (with_reducible repeat (first | apply Kd.R_alloc | apply Kd.R_drewN | apply Kd.R_drew)); exact HO_180002.out⟩, ⟨by (with_reducible repeat (first | apply Kd.V_alloc | apply Kd.V_drewN | apply Kd.V_drew)); exact Kd.V_mono HO_185000.out (fun _ hk => ⟨hk.1.1, ⟨hk.1.2.1, ⟨hk.1.2.2.1, ⟨hk.1.2.2.2.1, ⟨hk.1.2.2.2.2, hk.2⟩⟩⟩⟩⟩)⟩, ⟨by (with_reducible repeat (first | apply Kd.V_alloc | apply Kd.V_drewN | apply Kd.V_drew)); exact Kd.V_mono HO_190000.out (fun _ hk => ⟨hk.1.1, ⟨hk.1.2.1, ⟨hk.1.2.2.1, ⟨hk.1.2.2.2.1, ⟨hk.1.2.2.2.2, hk.2⟩⟩⟩⟩⟩)⟩, ⟨by (with_reducible repeat (first | apply Kd.V_alloc | apply Kd.V_drewN | apply Kd.V_drew)); exact Kd.V_mono HO198.out (fun _ hk => ⟨hk.1.1, ⟨hk.1.2.1, ⟨hk.1.2.2.1, ⟨hk.1.2.2.2.1, ⟨hk.1.2.2.2.2, hk.2⟩⟩⟩⟩⟩)⟩, ⟨by (with_reducible repeat (first | refine blk_drewN ?_ _ | refine blk_drew ?_ | refine blk_alloc ?_ _)); exact BK170.out⟩, ⟨by (with_reducible repeat (first | refine blk_drewN ?_ _ | refine blk_drew ?_ | refine blk_alloc ?_ _)); exact BK179.out⟩, ⟨by (with_reducible repeat (first | refine blk_drewN ?_ _ | refine blk_drew ?_ | refine blk_alloc ?_ _)); exact BK184.out⟩, ⟨by (with_reducible repeat (first | refine blk_drewN ?_ _ | refine blk_drew ?_ | refine blk_alloc ?_ _)); exact BK189.out⟩, ⟨by (with_reducible repeat (first | refine blk_drewN ?_ _ | refine blk_drew ?_ | refine blk_alloc ?_ _)); exact BK200.out⟩, ⟨by repeat (first | (with_reducible first | exact HB.out | apply below_alloc | apply pw_below_drewN | apply below_drew1 | refine below_set ?_ GE170.out | refine below_set ?_ GE179.out | refine below_set ?_ GE184.out | refine below_set ?_ GE189.out | refine below_set ?_ GE200.out) | exact HB.out)⟩⟩
                      · rw [if_neg c96] at H
                        have c96b0 : (t199 == 0) = false := beq_eq_false_iff_ne.mpr c96
                        have c96b1 : (t199 != 0) = true := bne_iff_ne.mpr c96
                        (first | rw [c96b0] | (simp only [i64_w, i32_w]; rw [c96b0]) | skip)
                        have H' := Aside0.mk H
                        clear H
                        go_wp2
                        go_meet
                        case rel => exact ⟨_, (true), (by first | rfl | (simp; done) | (simp [*]; done)), H', ⟨by have := HJ5.out; have := HJ33.out; have := HJ58.out; first | omega | exact Nat.le_refl _⟩, ⟨by (with_reducible repeat (first | apply Kd.R_alloc | apply Kd.R_drewN | apply Kd.R_drew)); exact Kd.R_mono (Kd.R_far (p := ⟨gb200, 0, none⟩) (Kd.R_types HO_180002.out BK200.out (by decide)) (fun _ hk => hk.2) (.slice Ao90 t196.length co90)) (fun _ hk => trivial)⟩, ⟨by (with_reducible repeat (first | apply Kd.V_alloc | apply Kd.V_drewN | apply Kd.V_drew)); exact Kd.V_mono (Kd.V_far (p := ⟨gb200, 0, none⟩) (Kd.V_mono HO_185000.out (fun k_ hk => (⟨hk, hk.2⟩ : _ ∧ k_ ≠ gb200))) (fun _ hk => hk.2) (.slice Ao90 t196.length co90)) (fun _ hk => ⟨hk.1.1.1, ⟨hk.1.1.2.1, ⟨hk.1.1.2.2.1, ⟨hk.1.1.2.2.2.1, ⟨hk.1.1.2.2.2.2, hk.1.2⟩⟩⟩⟩⟩)⟩, ⟨by (with_reducible repeat (first | apply Kd.V_alloc | apply Kd.V_drewN | apply Kd.V_drew)); exact Kd.V_mono (Kd.V_far (p := ⟨gb200, 0, none⟩) (Kd.V_mono HO_190000.out (fun k_ hk => (⟨hk, hk.2⟩ : _ ∧ k_ ≠ gb200))) (fun _ hk => hk.2) (.slice Ao90 t196.length co90)) (fun _ hk => ⟨hk.1.1.1, ⟨hk.1.1.2.1, ⟨hk.1.1.2.2.1, ⟨hk.1.1.2.2.2.1, ⟨hk.1.1.2.2.2.2, hk.1.2⟩⟩⟩⟩⟩)⟩, ⟨by (with_reducible repeat (first | apply Kd.V_alloc | apply Kd.V_drewN | apply Kd.V_drew)); exact Kd.V_mono (Kd.V_far (p := ⟨gb200, 0, none⟩) (Kd.V_mono HO198.out (fun k_ hk => (⟨hk, hk.2⟩ : _ ∧ k_ ≠ gb200))) (fun _ hk => hk.2) (.slice Ao90 t196.length co90)) (fun _ hk => ⟨hk.1.1.1, ⟨hk.1.1.2.1, ⟨hk.1.1.2.2.1, ⟨hk.1.1.2.2.2.1, ⟨hk.1.1.2.2.2.2, hk.1.2⟩⟩⟩⟩⟩)⟩, ⟨by (with_reducible repeat (first | refine blk_drewN ?_ _ | refine blk_drew ?_ | refine blk_alloc ?_ _)); refine blk_far ?_ NB170_200.out _; (with_reducible repeat (first | refine blk_drewN ?_ _ | refine blk_drew ?_ | refine blk_alloc ?_ _)); exact BK170.out⟩, ⟨by (with_reducible repeat (first | refine blk_drewN ?_ _ | refine blk_drew ?_ | refine blk_alloc ?_ _)); refine blk_far ?_ NB179_200.out _; (with_reducible repeat (first | refine blk_drewN ?_ _ | refine blk_drew ?_ | refine blk_alloc ?_ _)); exact BK179.out⟩, ⟨by (with_reducible repeat (first | refine blk_drewN ?_ _ | refine blk_drew ?_ | refine blk_alloc ?_ _)); refine blk_far ?_ NB184_200.out _; (with_reducible repeat (first | refine blk_drewN ?_ _ | refine blk_drew ?_ | refine blk_alloc ?_ _)); exact BK184.out⟩, ⟨by (with_reducible repeat (first | refine blk_drewN ?_ _ | refine blk_drew ?_ | refine blk_alloc ?_ _)); refine blk_far ?_ NB189_200.out _; (with_reducible repeat (first | refine blk_drewN ?_ _ | refine blk_drew ?_ | refine blk_alloc ?_ _)); exact BK189.out⟩, ⟨by (with_reducible repeat (first | refine blk_drewN ?_ _ | refine blk_drew ?_ | refine blk_alloc ?_ _)); refine blk_put (cs := #[.slice none 0 0]) ?_ 0 _ rfl; (with_reducible repeat (first | refine blk_drewN ?_ _ | refine blk_drew ?_ | refine blk_alloc ?_ _)); exact BK200.out⟩, ⟨by repeat (first | (with_reducible first | exact HB.out | apply below_alloc | apply pw_below_drewN | apply below_drew1 | refine below_set ?_ GE170.out | refine below_set ?_ GE179.out | refine below_set ?_ GE184.out | refine below_set ?_ GE189.out | refine below_set ?_ GE200.out) | exact HB.out)⟩⟩
                    case rest =>
                      clear HC83
                      try clear c1
                      try clear c2
                      try clear p2
                      try clear c3
                      try clear c4
                      try clear c5
                      try clear c6
                      try clear c7
                      try clear c8
                      try clear c9
                      try clear c10
                      try clear c10b0
                      try clear c10b1
                      try clear c11
                      try clear c12
                      try clear c13
                      try clear c14
                      try clear c14b0
                      try clear c16
                      try clear c17
                      try clear c18
                      try clear c19
                      try clear c19b0
                      try clear c19b1
                      try clear c30
                      try clear c38
                      try clear c46
                      try clear c47
                      try clear c54
                      try clear c55
                      try clear c56
                      try clear c58
                      try clear c58b0
                      try clear c58b1
                      try clear c60
                      try clear c62
                      try clear c62b0
                      try clear c62b1
                      try clear c64
                      try clear c65
                      try clear c66
                      try clear c67
                      try clear c72
                      try clear c73
                      try clear c74
                      try clear c75
                      try clear c77
                      try clear c78
                      try clear c81
                      try clear c81b0
                      try clear c81b1
                      try clear c84
                      try clear c85
                      try clear c86
                      try clear c91
                      try clear c92
                      try clear c93
                      try clear c94
                      try clear c96
                      try clear c96b0
                      try clear c96b1
                      try clear c98
                      try clear c99
                      try clear c100
                      try clear c101
                      try clear c102
                      try clear c104
                      try clear c105
                      try clear c106
                      try clear c109
                      try clear c110
                      try clear c111
                      try clear c112
                      try clear c114
                      try clear c115
                      try clear c116
                      try clear hcz103_0
                      try clear hcz107_0
                      try clear hcz113_0
                      try clear hcz117_0
                      try clear hcz15_0
                      try clear hcz17_0
                      try clear hcz20_0
                      try clear hcz22_0
                      try clear hcz24_0
                      try clear hcz26_0
                      try clear hcz28_0
                      try clear hcz35_0
                      try clear hcz39_0
                      try clear hcz39_1
                      try clear hcz39_2
                      try clear hcz42_0
                      try clear hcz48_0
                      try clear hcz50_0
                      try clear hcz57_0
                      try clear hcz68_0
                      try clear hcz76_0
                      try clear hcz79_0
                      try clear hcz87_0
                      try clear hcz95_0
                      try clear hcz9_0
                      try clear hfz103_0
                      try clear hfz107_0
                      try clear hfz113_0
                      try clear hfz117_0
                      try clear hfz15_0
                      try clear hfz17_0
                      try clear hfz20_0
                      try clear hfz22_0
                      try clear hfz24_0
                      try clear hfz26_0
                      try clear hfz28_0
                      try clear hfz35_0
                      try clear hfz39_0
                      try clear hfz39_1
                      try clear hfz39_2
                      try clear hfz42_0
                      try clear hfz48_0
                      try clear hfz50_0
                      try clear hfz57_0
                      try clear hfz68_0
                      try clear hfz76_0
                      try clear hfz79_0
                      try clear hfz87_0
                      try clear hfz95_0
                      try clear hfz9_0
                      try clear p2
                      obtain ⟨kq, x103_82, rfl, HA, HJ82, HO_180002, HO_185000, HO_190000, HO_201000, BK170, BK179, BK184, BK189, BK200, HB⟩ := hcut
                      cases kq with
                      | zero => exact absurd HA.out (by simp [tallymanlaw8_TreeBack.j3])
                      | succ kj82 =>
                        have H := HA.out
                        clear HA
                        simp only [tallymanlaw8_TreeBack.j3] at H
                        by_cases c119 : x103_82 = true
                        · subst c119
                          have H1 : (some false) = some r := by rw [if_pos rfl] at H; exact H
                          clear H
                          have H := H1
                          clear H1
                          exact absurd ((Option.some.inj H).trans HT_.out) (by decide)
                        · replace c119 := Bool.eq_false_iff.mpr c119
                          subst c119
                          have H1 : ((tree_Good.f t180).bind fun t202 => (if t202 = true then ((tree_Good.f t185).bind fun t203 => (some t203)) else (some false))) = some r := by rw [if_neg (show ¬ (false = true) by decide)] at H; exact H
                          clear H
                          have H := H1
                          clear H1
                          replace H := Option.bind_eq_some_iff.mp H
                          obtain ⟨t202, A1200, H⟩ := H
                          replace H : (if t202 = true then ((tree_Good.f t185).bind fun t203 => (some t203)) else (some false)) = some r := H
                          have A120 := Aside0.mk A1200
                          clear A1200
                          by_cases c121 : t202 = true
                          · subst c121
                            have H1 : ((tree_Good.f t185).bind fun t203 => (some t203)) = some r := by rw [if_pos rfl] at H; exact H
                            clear H
                            have H := H1
                            clear H1
                            replace H := Option.bind_eq_some_iff.mp H
                            obtain ⟨t203, A1220, H⟩ := H
                            replace H : (some t203) = some r := H
                            have A122 := Aside0.mk A1220
                            clear A1220
                            obtain rfl := Option.some.inj H
                            have hnb123 := NB184_170.out
                            have hnc123 := NB170_184.out
                            have hnb124 := NB184_179.out
                            have hnc124 := NB179_184.out
                            have hnb125 := NB184_189.out
                            have hnc125 := NB189_184.out
                            have hnb126 := NB184_200.out
                            have hnc126 := NB200_184.out
                            have hcz127_0 : wc.cell? ⟨gb184, 0, none⟩ = some (.slice Ao45 t180.length co45) := (blk_cell BK184.out 0).trans rfl
                            have hfz127_0 := blk_frozen BK184.out 0
                            go_wp2_with (first | ((with_reducible refine gate_callee (f := 14) rfl ?_); refine goesL_ (some 105) rfl rfl Tryd.func14 (by kernel_rfl) rfl #[.agg #[.slice Ao45 t180.length co45]] rfl (by (try simp only [List.map_toArray, List.map_cons, List.map_nil]); first | done | rfl | (simp only [List.length_drop, List.length_take]; rfl)) ?_; (with_reducible refine (tree_Good.calls _ _ t180 true _ ?side1 ?side2 A120.out).mono ?_); (case side1 => repeat (first | exact (Kd.V_reads' HO_185000.out).2.2 | (with_reducible refine Kd.C_alloc ?_ _) | (with_reducible refine Kd.C_drewN ?_ _) | (with_reducible refine Kd.C_drew ?_))); (case side2 => exact (Kd.V_reads' HO_185000.out).2.1); rintro e w128 ⟨rfl, hb⟩; refine ⟨_, rfl, ?_⟩; have n0_ := Aside0.mk (Kd.R_below (by (with_reducible repeat (first | apply Kd.R_alloc | apply Kd.R_drewN | apply Kd.R_drew)); exact HO_180002.out) hb); have n1_ := Aside0.mk (Kd.V_below (by (with_reducible repeat (first | apply Kd.V_alloc | apply Kd.V_drewN | apply Kd.V_drew)); exact HO_185000.out) hb); have n2_ := Aside0.mk (Kd.V_below (by (with_reducible repeat (first | apply Kd.V_alloc | apply Kd.V_drewN | apply Kd.V_drew)); exact HO_190000.out) hb); have n3_ := Aside0.mk (Kd.V_below (by (with_reducible repeat (first | apply Kd.V_alloc | apply Kd.V_drewN | apply Kd.V_drew)); exact HO_201000.out) hb); have n4_ := Aside0.mk (blk_below (g := gb170) (o := .cells #[.slice A0 l0.length c0] 26 (0, 0)) (by (with_reducible repeat (first | refine blk_drewN ?_ _ | refine blk_drew ?_ | refine blk_alloc ?_ _)); exact BK170.out) hb); have n5_ := Aside0.mk (blk_below (g := gb179) (o := .cells #[.string t173, .bool t174, .slice Ao40 t175.length co40] 30 (0, 0)) (by (with_reducible repeat (first | refine blk_drewN ?_ _ | refine blk_drew ?_ | refine blk_alloc ?_ _)); exact BK179.out) hb); have n6_ := Aside0.mk (blk_below (g := gb184) (o := .cells #[.slice Ao45 t180.length co45] 26 (0, 0)) (by (with_reducible repeat (first | refine blk_drewN ?_ _ | refine blk_drew ?_ | refine blk_alloc ?_ _)); exact BK184.out) hb); have n7_ := Aside0.mk (blk_below (g := gb189) (o := .cells #[.slice Ao53 t185.length co53] 26 (0, 0)) (by (with_reducible repeat (first | refine blk_drewN ?_ _ | refine blk_drew ?_ | refine blk_alloc ?_ _)); exact BK189.out) hb); have n8_ := Aside0.mk (blk_below (g := gb200) (o := .cells #[.slice Ao90 t196.length co90] 26 (0, 0)) (by (with_reducible repeat (first | refine blk_drewN ?_ _ | refine blk_drew ?_ | refine blk_alloc ?_ _)); exact BK200.out) hb); have n9_ := Aside0.mk (below_step (by repeat (first | (with_reducible first | exact HB.out | apply below_alloc | apply pw_below_drewN | apply below_drew1 | refine below_set ?_ GE170.out | refine below_set ?_ GE179.out | refine below_set ?_ GE184.out | refine below_set ?_ GE189.out | refine below_set ?_ GE200.out) | exact HB.out)) hb); clear HO_180002; clear HO_185000; clear HO_190000; clear HO_201000; clear BK170; clear BK179; clear BK184; clear BK189; clear BK200; clear HB; have HO_180002 := n0_; have HO_185000 := n1_; have HO_190000 := n2_; have HO_201000 := n3_; have BK170 := n4_; have BK179 := n5_; have BK184 := n6_; have BK189 := n7_; have BK200 := n8_; have HB := n9_; clear n0_ n1_ n2_ n3_ n4_ n5_ n6_ n7_ n8_ n9_; (try clear hb); (try clear hb2); (try clear hk); (try clear hi); have hnb129 := NB189_170.out; have hnc129 := NB170_189.out; have hnb130 := NB189_179.out; have hnc130 := NB179_189.out; have hnb131 := NB189_200.out; have hnc131 := NB200_189.out; have hcz132_0 : w128.cell? ⟨gb189, 0, none⟩ = some (.slice Ao53 t185.length co53) := (blk_cell BK189.out 0).trans rfl; have hfz132_0 := blk_frozen BK189.out 0) | (go_at_call 14; (with_reducible refine (tree_Good.calls _ _ t185 t203 _ ?side1 ?side2 A122.out).mono ?_); (case side1 => repeat (first | exact (Kd.V_reads' HO_190000.out).2.2 | (with_reducible refine Kd.C_alloc ?_ _) | (with_reducible refine Kd.C_drewN ?_ _) | (with_reducible refine Kd.C_drew ?_))); (case side2 => exact (Kd.V_reads' HO_190000.out).2.1); rintro e w133 ⟨rfl, hb⟩; have n0_ := Aside0.mk (Kd.R_below (by (with_reducible repeat (first | apply Kd.R_alloc | apply Kd.R_drewN | apply Kd.R_drew)); exact HO_180002.out) hb); have n1_ := Aside0.mk (Kd.V_below (by (with_reducible repeat (first | apply Kd.V_alloc | apply Kd.V_drewN | apply Kd.V_drew)); exact HO_185000.out) hb); have n2_ := Aside0.mk (Kd.V_below (by (with_reducible repeat (first | apply Kd.V_alloc | apply Kd.V_drewN | apply Kd.V_drew)); exact HO_190000.out) hb); have n3_ := Aside0.mk (Kd.V_below (by (with_reducible repeat (first | apply Kd.V_alloc | apply Kd.V_drewN | apply Kd.V_drew)); exact HO_201000.out) hb); have n4_ := Aside0.mk (blk_below (g := gb170) (o := .cells #[.slice A0 l0.length c0] 26 (0, 0)) (by (with_reducible repeat (first | refine blk_drewN ?_ _ | refine blk_drew ?_ | refine blk_alloc ?_ _)); exact BK170.out) hb); have n5_ := Aside0.mk (blk_below (g := gb179) (o := .cells #[.string t173, .bool t174, .slice Ao40 t175.length co40] 30 (0, 0)) (by (with_reducible repeat (first | refine blk_drewN ?_ _ | refine blk_drew ?_ | refine blk_alloc ?_ _)); exact BK179.out) hb); have n6_ := Aside0.mk (blk_below (g := gb184) (o := .cells #[.slice Ao45 t180.length co45] 26 (0, 0)) (by (with_reducible repeat (first | refine blk_drewN ?_ _ | refine blk_drew ?_ | refine blk_alloc ?_ _)); exact BK184.out) hb); have n7_ := Aside0.mk (blk_below (g := gb189) (o := .cells #[.slice Ao53 t185.length co53] 26 (0, 0)) (by (with_reducible repeat (first | refine blk_drewN ?_ _ | refine blk_drew ?_ | refine blk_alloc ?_ _)); exact BK189.out) hb); have n8_ := Aside0.mk (blk_below (g := gb200) (o := .cells #[.slice Ao90 t196.length co90] 26 (0, 0)) (by (with_reducible repeat (first | refine blk_drewN ?_ _ | refine blk_drew ?_ | refine blk_alloc ?_ _)); exact BK200.out) hb); have n9_ := Aside0.mk (below_step (by repeat (first | (with_reducible first | exact HB.out | apply below_alloc | apply pw_below_drewN | apply below_drew1 | refine below_set ?_ GE170.out | refine below_set ?_ GE179.out | refine below_set ?_ GE184.out | refine below_set ?_ GE189.out | refine below_set ?_ GE200.out) | exact HB.out)) hb); clear HO_180002; clear HO_185000; clear HO_190000; clear HO_201000; clear BK170; clear BK179; clear BK184; clear BK189; clear BK200; clear HB; have HO_180002 := n0_; have HO_185000 := n1_; have HO_190000 := n2_; have HO_201000 := n3_; have BK170 := n4_; have BK179 := n5_; have BK184 := n6_; have BK189 := n7_; have BK200 := n8_; have HB := n9_; clear n0_ n1_ n2_ n3_ n4_ n5_ n6_ n7_ n8_ n9_; (try clear hb); (try clear hb2); (try clear hk); (try clear hi)))
                            go_ret
                            exact ⟨by first | rfl | (simp [errW_none, errW_some] <;> rfl) | (simp [*, errW_none, errW_some] <;> rfl), by repeat (first | (with_reducible first | exact HB.out | apply below_alloc | apply pw_below_drewN | apply below_drew1 | refine below_set ?_ GE170.out | refine below_set ?_ GE179.out | refine below_set ?_ GE184.out | refine below_set ?_ GE189.out | refine below_set ?_ GE200.out) | exact HB.out)⟩
                          · replace c121 := Bool.eq_false_iff.mpr c121
                            subst c121
                            have H1 : (some false) = some r := by rw [if_neg (show ¬ (false = true) by decide)] at H; exact H
                            clear H
                            have H := H1
                            clear H1
                            exact absurd ((Option.some.inj H).trans HT_.out) (by decide)
                  · rw [if_neg c81] at H
                    have c81b0 : (t188 == 0) = false := beq_eq_false_iff_ne.mpr c81
                    have c81b1 : (t188 != 0) = true := bne_iff_ne.mpr c81
                    replace H := Option.bind_eq_some_iff.mp H
                    obtain ⟨t204, A1340, H⟩ := H
                    replace H : (if t204 = true then ((tree_Good.f t185).bind fun t205 => (some t205)) else (some false)) = some r := H
                    have A134 := Aside0.mk A1340
                    clear A1340
                    by_cases c135 : t204 = true
                    · subst c135
                      have H1 : ((tree_Good.f t185).bind fun t205 => (some t205)) = some r := by rw [if_pos rfl] at H; exact H
                      clear H
                      have H := H1
                      clear H1
                      replace H := Option.bind_eq_some_iff.mp H
                      obtain ⟨t205, A1360, H⟩ := H
                      replace H : (some t205) = some r := H
                      have A136 := Aside0.mk A1360
                      clear A1360
                      obtain rfl := Option.some.inj H
                      have hnb137 := NB184_170.out
                      have hnc137 := NB170_184.out
                      have hnb138 := NB184_179.out
                      have hnc138 := NB179_184.out
                      have hnb139 := NB184_189.out
                      have hnc139 := NB189_184.out
                      have hcz140_0 : wc.cell? ⟨gb184, 0, none⟩ = some (.slice Ao45 t180.length co45) := (blk_cell BK184.out 0).trans rfl
                      have hfz140_0 := blk_frozen BK184.out 0
                      go_wp2_with (first | ((with_reducible refine gate_callee (f := 14) rfl ?_); refine goesL_ (some 105) rfl rfl Tryd.func14 (by kernel_rfl) rfl #[.agg #[.slice Ao45 t180.length co45]] rfl (by (try simp only [List.map_toArray, List.map_cons, List.map_nil]); first | done | rfl | (simp only [List.length_drop, List.length_take]; rfl)) ?_; (with_reducible refine (tree_Good.calls _ _ t180 true _ ?side1 ?side2 A134.out).mono ?_); (case side1 => repeat (first | exact (Kd.V_reads' HO_185000.out).2.2 | (with_reducible refine Kd.C_alloc ?_ _) | (with_reducible refine Kd.C_drewN ?_ _) | (with_reducible refine Kd.C_drew ?_))); (case side2 => exact (Kd.V_reads' HO_185000.out).2.1); rintro e w141 ⟨rfl, hb⟩; refine ⟨_, rfl, ?_⟩; have n0_ := Aside0.mk (Kd.R_below (by (with_reducible repeat (first | apply Kd.R_alloc | apply Kd.R_drewN | apply Kd.R_drew)); exact HO_180002.out) hb); have n1_ := Aside0.mk (Kd.V_below (by (with_reducible repeat (first | apply Kd.V_alloc | apply Kd.V_drewN | apply Kd.V_drew)); exact HO_185000.out) hb); have n2_ := Aside0.mk (Kd.V_below (by (with_reducible repeat (first | apply Kd.V_alloc | apply Kd.V_drewN | apply Kd.V_drew)); exact HO_190000.out) hb); have n3_ := Aside0.mk (blk_below (g := gb170) (o := .cells #[.slice A0 l0.length c0] 26 (0, 0)) (by (with_reducible repeat (first | refine blk_drewN ?_ _ | refine blk_drew ?_ | refine blk_alloc ?_ _)); exact BK170.out) hb); have n4_ := Aside0.mk (blk_below (g := gb179) (o := .cells #[.string t173, .bool t174, .slice Ao40 t175.length co40] 30 (0, 0)) (by (with_reducible repeat (first | refine blk_drewN ?_ _ | refine blk_drew ?_ | refine blk_alloc ?_ _)); exact BK179.out) hb); have n5_ := Aside0.mk (blk_below (g := gb184) (o := .cells #[.slice Ao45 t180.length co45] 26 (0, 0)) (by (with_reducible repeat (first | refine blk_drewN ?_ _ | refine blk_drew ?_ | refine blk_alloc ?_ _)); exact BK184.out) hb); have n6_ := Aside0.mk (blk_below (g := gb189) (o := .cells #[.slice Ao53 t185.length co53] 26 (0, 0)) (by (with_reducible repeat (first | refine blk_drewN ?_ _ | refine blk_drew ?_ | refine blk_alloc ?_ _)); exact BK189.out) hb); have n7_ := Aside0.mk (below_step (by repeat (first | (with_reducible first | exact HB.out | apply below_alloc | apply pw_below_drewN | apply below_drew1 | refine below_set ?_ GE170.out | refine below_set ?_ GE179.out | refine below_set ?_ GE184.out | refine below_set ?_ GE189.out) | exact HB.out)) hb); clear HO_180002; clear HO_185000; clear HO_190000; clear BK170; clear BK179; clear BK184; clear BK189; clear HB; have HO_180002 := n0_; have HO_185000 := n1_; have HO_190000 := n2_; have BK170 := n3_; have BK179 := n4_; have BK184 := n5_; have BK189 := n6_; have HB := n7_; clear n0_ n1_ n2_ n3_ n4_ n5_ n6_ n7_; (try clear hb); (try clear hb2); (try clear hk); (try clear hi); have hnb142 := NB189_170.out; have hnc142 := NB170_189.out; have hnb143 := NB189_179.out; have hnc143 := NB179_189.out; have hcz144_0 : w141.cell? ⟨gb189, 0, none⟩ = some (.slice Ao53 t185.length co53) := (blk_cell BK189.out 0).trans rfl; have hfz144_0 := blk_frozen BK189.out 0) | (go_at_call 14; (with_reducible refine (tree_Good.calls _ _ t185 t205 _ ?side1 ?side2 A136.out).mono ?_); (case side1 => repeat (first | exact (Kd.V_reads' HO_190000.out).2.2 | (with_reducible refine Kd.C_alloc ?_ _) | (with_reducible refine Kd.C_drewN ?_ _) | (with_reducible refine Kd.C_drew ?_))); (case side2 => exact (Kd.V_reads' HO_190000.out).2.1); rintro e w145 ⟨rfl, hb⟩; have n0_ := Aside0.mk (Kd.R_below (by (with_reducible repeat (first | apply Kd.R_alloc | apply Kd.R_drewN | apply Kd.R_drew)); exact HO_180002.out) hb); have n1_ := Aside0.mk (Kd.V_below (by (with_reducible repeat (first | apply Kd.V_alloc | apply Kd.V_drewN | apply Kd.V_drew)); exact HO_185000.out) hb); have n2_ := Aside0.mk (Kd.V_below (by (with_reducible repeat (first | apply Kd.V_alloc | apply Kd.V_drewN | apply Kd.V_drew)); exact HO_190000.out) hb); have n3_ := Aside0.mk (blk_below (g := gb170) (o := .cells #[.slice A0 l0.length c0] 26 (0, 0)) (by (with_reducible repeat (first | refine blk_drewN ?_ _ | refine blk_drew ?_ | refine blk_alloc ?_ _)); exact BK170.out) hb); have n4_ := Aside0.mk (blk_below (g := gb179) (o := .cells #[.string t173, .bool t174, .slice Ao40 t175.length co40] 30 (0, 0)) (by (with_reducible repeat (first | refine blk_drewN ?_ _ | refine blk_drew ?_ | refine blk_alloc ?_ _)); exact BK179.out) hb); have n5_ := Aside0.mk (blk_below (g := gb184) (o := .cells #[.slice Ao45 t180.length co45] 26 (0, 0)) (by (with_reducible repeat (first | refine blk_drewN ?_ _ | refine blk_drew ?_ | refine blk_alloc ?_ _)); exact BK184.out) hb); have n6_ := Aside0.mk (blk_below (g := gb189) (o := .cells #[.slice Ao53 t185.length co53] 26 (0, 0)) (by (with_reducible repeat (first | refine blk_drewN ?_ _ | refine blk_drew ?_ | refine blk_alloc ?_ _)); exact BK189.out) hb); have n7_ := Aside0.mk (below_step (by repeat (first | (with_reducible first | exact HB.out | apply below_alloc | apply pw_below_drewN | apply below_drew1 | refine below_set ?_ GE170.out | refine below_set ?_ GE179.out | refine below_set ?_ GE184.out | refine below_set ?_ GE189.out) | exact HB.out)) hb); clear HO_180002; clear HO_185000; clear HO_190000; clear BK170; clear BK179; clear BK184; clear BK189; clear HB; have HO_180002 := n0_; have HO_185000 := n1_; have HO_190000 := n2_; have BK170 := n3_; have BK179 := n4_; have BK184 := n5_; have BK189 := n6_; have HB := n7_; clear n0_ n1_ n2_ n3_ n4_ n5_ n6_ n7_; (try clear hb); (try clear hb2); (try clear hk); (try clear hi)))
                      go_ret
                      exact ⟨by first | rfl | (simp [errW_none, errW_some] <;> rfl) | (simp [*, errW_none, errW_some] <;> rfl), by repeat (first | (with_reducible first | exact HB.out | apply below_alloc | apply pw_below_drewN | apply below_drew1 | refine below_set ?_ GE170.out | refine below_set ?_ GE179.out | refine below_set ?_ GE184.out | refine below_set ?_ GE189.out) | exact HB.out)⟩
                    · replace c135 := Bool.eq_false_iff.mpr c135
                      subst c135
                      have H1 : (some false) = some r := by rw [if_neg (show ¬ (false = true) by decide)] at H; exact H
                      clear H
                      have H := H1
                      clear H1
                      exact absurd ((Option.some.inj H).trans HT_.out) (by decide)
  · replace c5 := Bool.eq_false_iff.mpr c5
    subst c5
    have H1 : (some false) = some r := by rw [if_neg (show ¬ (false = true) by decide)] at H; exact H
    clear H
    have H := H1
    clear H1
    exact absurd ((Option.some.inj H).trans HT_.out) (by decide)

/-- THE ONE PURE STATEMENT of tallymanlaw8_TreeBack: yours. -/
def tallymanlaw8_TreeBack.Pure : Prop := ∀ (l0 : List (S30)) (a1 : ByteArray) (l2 : List Int), (l0.length ≤ maxLen ∧ ∀ x0_ ∈ l0, (x0_.f0.size ≤ maxLen ∧ True ∧ (x0_.f2.length ≤ maxLen ∧ ∀ x1_ ∈ x0_.f2, (Lit.int .u8 x1_).wf = true))) → a1.size ≤ maxLen → (l2.length ≤ maxLen ∧ ∀ x0_ ∈ l2, (Lit.int .u8 x0_).wf = true) → ∃ k, tallymanlaw8_TreeBack.f k l0 a1 l2 = some true

end Go.Proofs.YtidlldfghkaeeaaDoor.P
