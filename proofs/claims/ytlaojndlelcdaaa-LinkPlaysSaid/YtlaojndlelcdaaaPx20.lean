/- Written by pp.py, a program of this session over the printer of the kit: what the functions of the program compute, and that they do so; of a law: its row, without a condition. -/
import Derived.Test.YtlaojndlelcdaaaPx0
import Derived.Test.YtlaojndlelcdaaaPx7
import Derived.Test.YtlaojndlelcdaaaPx17
import Derived.Test.YtlaojndlelcdaaaPx19
namespace Go.Proofs.Ytlaojndlelcdaaa.P
open Go.RowKit Go.Proofs.YtlaojndlelcdaaaW.PrintWords Go.Proofs.YtlaojndlelcdaaaW.PrintLast Go.Proofs.YtlaojndlelcdaaaW.PrintMore
attribute [local go_sem] max2_int min2_int max_two min_two max_three min_three max_four min_four   -- for this text's walks alone
set_option linter.unusedVariables false
set_option linter.unusedSimpArgs false

/-! ### tallymanref19_PutFrame: function 55 -/
def tallymanref19_PutFrame.f (k : Nat) (a0_0 : Bool) (a0_1 : Int) (l0_2 : List Int) : Option (List Int) := (tallymanref19_GoodFrame.f a0_0 a0_1 l0_2).bind fun t667 => (if t667 = true then (if a0_0 = true then ((tallymanref1_Put.f k (([65] : List Int)) a0_1).bind fun t671 => (if t671.length + l0_2.length < 140737488355328 then ((tallymanref1_Seal.f k (t671 ++ l0_2)).bind fun t677 => (some t677)) else (none))) else ((tallymanref1_Put.f k (([70] : List Int)) a0_1).bind fun t683 => (if t683.length + l0_2.length < 140737488355328 then ((tallymanref1_Seal.f k (t683 ++ l0_2)).bind fun t689 => (some t689)) else (none)))) else (some ([] : List Int)))
theorem tallymanref19_PutFrame.mono : ∀ a0 a1 a2 k, LeO (tallymanref19_PutFrame.f k a0 a1 a2) (tallymanref19_PutFrame.f (k + 1) a0 a1 a2) := by
  intro a0 a1 a2 k
  unfold tallymanref19_PutFrame.f
  repeat' first
      | (with_reducible exact tallymanref1_Put.mono _ _ _)
      | (with_reducible exact tallymanref1_Seal.mono _ _)
      | (with_reducible exact LeO.refl _)
      | (with_reducible exact LeO.none _)
      | (with_reducible refine LeO.ite ?_ ?_)
      | (with_reducible refine LeO.bind ?_ (fun _ => ?_))
      | exact tallymanref1_Put.mono _ _ _
      | exact tallymanref1_Seal.mono _ _
      | exact LeO.none _
      | refine LeO.ite ?_ ?_
      | refine LeO.bind ?_ (fun _ => ?_)
def tallymanref19_PutFrame.T6 : Bool × List (List Nat × List Nat) := (true, [([], []), ([0], [0]), ([], []), ([2], [2]), ([1, 3], [1, 3]), ([], []), ([5], [5]), ([4, 6, 4], [4, 6]), ([7, 7], [7]), ([8, 8, 0, 1, 2, 3, 4, 5, 6, 7, 8], [8])])
def tallymanref19_PutFrame.B6 : List Nat := [0, 1, 0, 4, 15, 0, 32, 127, 255, 511]
theorem tallymanref19_PutFrame.tab6 : rtab .any (opsOf Try.f55 6) = tallymanref19_PutFrame.T6 := by kernel_rfl
theorem tallymanref19_PutFrame.bits6 : waitsOk tallymanref19_PutFrame.T6.2 tallymanref19_PutFrame.B6 = true := by kernel_rfl
set_option maxHeartbeats 8000000 in
set_option maxRecDepth 100000 in
theorem tallymanref19_PutFrame.calls (k : Nat) (a0_0 : Bool) (a0_1 : Int) (A0_2 : Option Addr) (c0_2 : Nat) (l0_2 : List Int) (r : List Int) (w : World) (hr0_2 : Kd.C (Kd.int .u8) w A0_2 l0_2.length l0_2) (hc0_2 : l0_2.length ≤ c0_2) (h : tallymanref19_PutFrame.f k a0_0 a0_1 l0_2 = some r) :
    Calls Try.prog 55 #[.agg #[.bool a0_0, .int .u64 a0_1, .slice A0_2 l0_2.length c0_2]] w fun e w' => ∃ v0_ : Value, e = .returned (v0_) ∧ Kd.R (Kd.int .u8) 5 w' w.heap.size (fun _ => True) v0_ r ∧ Below w.heap.size w w' := by
  have hu75 := Try.underlying75
  have HR0_2 := Aside0.mk hr0_2
  have HC0_2 := Aside0.mk hc0_2
  clear hr0_2 hc0_2
  have HB := Aside0.mk (Below.refl w.heap.size w)
  have H : ((tallymanref19_GoodFrame.f a0_0 a0_1 l0_2).bind fun t667 => (if t667 = true then (if a0_0 = true then ((tallymanref1_Put.f k (([65] : List Int)) a0_1).bind fun t671 => (if t671.length + l0_2.length < 140737488355328 then ((tallymanref1_Seal.f k (t671 ++ l0_2)).bind fun t677 => (some t677)) else (none))) else ((tallymanref1_Put.f k (([70] : List Int)) a0_1).bind fun t683 => (if t683.length + l0_2.length < 140737488355328 then ((tallymanref1_Seal.f k (t683 ++ l0_2)).bind fun t689 => (some t689)) else (none)))) else (some ([] : List Int)))) = some r := h
  clear h
  replace H := Option.bind_eq_some_iff.mp H
  obtain ⟨t667, A20, H⟩ := H
  replace H : (if t667 = true then (if a0_0 = true then ((tallymanref1_Put.f k (([65] : List Int)) a0_1).bind fun t671 => (if t671.length + l0_2.length < 140737488355328 then ((tallymanref1_Seal.f k (t671 ++ l0_2)).bind fun t677 => (some t677)) else (none))) else ((tallymanref1_Put.f k (([70] : List Int)) a0_1).bind fun t683 => (if t683.length + l0_2.length < 140737488355328 then ((tallymanref1_Seal.f k (t683 ++ l0_2)).bind fun t689 => (some t689)) else (none)))) else (some ([] : List Int))) = some r := H
  have A2 := Aside0.mk A20
  clear A20
  by_cases c3 : t667 = true
  · subst c3
    have H1 : (if a0_0 = true then ((tallymanref1_Put.f k (([65] : List Int)) a0_1).bind fun t671 => (if t671.length + l0_2.length < 140737488355328 then ((tallymanref1_Seal.f k (t671 ++ l0_2)).bind fun t677 => (some t677)) else (none))) else ((tallymanref1_Put.f k (([70] : List Int)) a0_1).bind fun t683 => (if t683.length + l0_2.length < 140737488355328 then ((tallymanref1_Seal.f k (t683 ++ l0_2)).bind fun t689 => (some t689)) else (none)))) = some r := by rw [if_pos rfl] at H; exact H
    clear H
    have H := H1
    clear H1
    by_cases c4 : a0_0 = true
    · subst c4
      have H1 : ((tallymanref1_Put.f k (([65] : List Int)) a0_1).bind fun t671 => (if t671.length + l0_2.length < 140737488355328 then ((tallymanref1_Seal.f k (t671 ++ l0_2)).bind fun t677 => (some t677)) else (none))) = some r := by rw [if_pos rfl] at H; exact H
      clear H
      have H := H1
      clear H1
      obtain ⟨y668, hy668⟩ : ∃ y_ : List Int, y_ = (([65] : List Int)) := ⟨_, rfl⟩
      replace H : ((tallymanref1_Put.f k y668 a0_1).bind fun t671 => (if t671.length + l0_2.length < 140737488355328 then ((tallymanref1_Seal.f k (t671 ++ l0_2)).bind fun t677 => (some t677)) else (none))) = some r := by first | (rw [hy668]; with_reducible exact H) | (have H2_ := (Option.bind_some _ _).symm.trans H; rw [hy668]; with_reducible exact H2_) | (have H2_ := (Option.bind_some _ _).symm.trans H; with_reducible exact H2_) | with_reducible exact H | (rw [hy668]; exact H) | exact H
      have Ny668 := Aside0.mk hy668
      clear hy668
      replace H := Option.bind_eq_some_iff.mp H
      obtain ⟨t671, A50, H⟩ := H
      replace H : (if t671.length + l0_2.length < 140737488355328 then ((tallymanref1_Seal.f k (t671 ++ l0_2)).bind fun t677 => (some t677)) else (none)) = some r := H
      have A5 := Aside0.mk A50
      clear A50
      by_cases c6 : t671.length + l0_2.length < 140737488355328
      · rw [if_pos c6] at H
        have LMc6 := Aside0.mk c6
        clear c6
        obtain ⟨y674, hy674⟩ : ∃ y_ : List Int, y_ = (t671 ++ l0_2) := ⟨_, rfl⟩
        replace H : ((tallymanref1_Seal.f k y674).bind fun t677 => (some t677)) = some r := by first | (rw [hy674]; with_reducible exact H) | (have H2_ := (Option.bind_some _ _).symm.trans H; rw [hy674]; with_reducible exact H2_) | (have H2_ := (Option.bind_some _ _).symm.trans H; with_reducible exact H2_) | with_reducible exact H | (rw [hy674]; exact H) | exact H
        have Ny674 := Aside0.mk hy674
        clear hy674
        replace H := Option.bind_eq_some_iff.mp H
        obtain ⟨t677, A70, H⟩ := H
        replace H : (some t677) = some r := H
        have A7 := Aside0.mk A70
        clear A70
        obtain rfl := Option.some.inj H
        go_enter Try.func55, Try.ntmps55
        try go_wp2_with (first | ((with_reducible refine gate_dst (N := 1) rfl ?_); refine box_event ?hg (N := 1) ?hd (cs := #[.bool true, .int .u64 a0_1, .slice A0_2 l0_2.length c0_2]) (t := 75) ?hr ?_; (case hd => rfl); (case hg => rfl); (case hr => first | (go_simp; done) | (go_simp; rfl)); intro gb666 hg w8 hbox hb; have n0_ := Aside0.mk (below_step (by repeat (first | (with_reducible first | exact HB.out | apply below_alloc | apply pw_below_drewN | apply below_drew1) | exact HB.out)) hb); have n1_ := Aside0.mk (hbox); have n2_ := Aside0.mk ((by rw [hg]; exact (below_size (by repeat (first | (with_reducible first | exact HB.out | apply below_alloc | apply pw_below_drewN | apply below_drew1) | exact HB.out))) : w.heap.size ≤ gb666)); have n3_ := Aside0.mk ((by rw [hg]; exact (below_size (by repeat (first | (with_reducible first | exact HB.out | apply below_alloc | apply pw_below_drewN | apply below_drew1) | exact HB.out))) : w.heap.size ≤ gb666)); clear HB; have HB := n0_; have BK666 := n1_; have GW666 := n2_; have GE666 := n3_; clear n0_ n1_ n2_ n3_; clear hb hbox hg; have hcz9_0 : w8.cell? ⟨gb666, 0, none⟩ = some (.bool true) := (blk_cell BK666.out 0).trans rfl; have hcz9_1 : w8.cell? ⟨gb666, 1, none⟩ = some (.int .u64 a0_1) := (blk_cell BK666.out 1).trans rfl; have hcz9_2 : w8.cell? ⟨gb666, 2, none⟩ = some (.slice A0_2 l0_2.length c0_2) := (blk_cell BK666.out 2).trans rfl; have hfz9_0 := blk_frozen BK666.out 0; have hfz9_1 := blk_frozen BK666.out 1; have hfz9_2 := blk_frozen BK666.out 2) | ((with_reducible refine gate_callee (f := 53) rfl ?_); refine goesL_ (some 5) rfl rfl Try.func53 (by kernel_rfl) rfl #[.agg #[.bool true, .int .u64 a0_1, .slice A0_2 l0_2.length c0_2]] rfl (by (try simp only [List.map_toArray, List.map_cons, List.map_nil]); first | done | rfl | (simp only [List.length_drop, List.length_take]; rfl)) ?_; (with_reducible refine (tallymanref19_GoodFrame.calls true a0_1 _ _ l0_2 true _ ?side1 ?side2 A2.out).mono ?_); (case side1 => repeat (first | exact (Kd.C_below HR0_2.out HB.out) | (with_reducible refine Kd.C_alloc ?_ _) | (with_reducible refine Kd.C_drewN ?_ _) | (with_reducible refine Kd.C_drew ?_))); (case side2 => exact HC0_2.out); rintro e w10 ⟨rfl, hb⟩; refine ⟨_, rfl, ?_⟩; have n0_ := Aside0.mk (blk_below (g := gb666) (o := .cells #[.bool true, .int .u64 a0_1, .slice A0_2 l0_2.length c0_2] 75 (0, 0)) (by (with_reducible repeat (first | refine blk_drewN ?_ _ | refine blk_drew ?_ | refine blk_alloc ?_ _)); exact BK666.out) hb); have n1_ := Aside0.mk (below_step (by repeat (first | (with_reducible first | exact HB.out | apply below_alloc | apply pw_below_drewN | apply below_drew1 | refine below_set ?_ GE666.out) | exact HB.out)) hb); clear BK666; clear HB; have BK666 := n0_; have HB := n1_; clear n0_ n1_; (try clear hb); (try clear hb2); (try clear hk); (try clear hi); have hcz11_0 : w10.cell? ⟨gb666, 0, none⟩ = some (.bool true) := (blk_cell BK666.out 0).trans rfl; have hcz11_1 : w10.cell? ⟨gb666, 1, none⟩ = some (.int .u64 a0_1) := (blk_cell BK666.out 1).trans rfl; have hcz11_2 : w10.cell? ⟨gb666, 2, none⟩ = some (.slice A0_2 l0_2.length c0_2) := (blk_cell BK666.out 2).trans rfl; have hfz11_0 := blk_frozen BK666.out 0; have hfz11_1 := blk_frozen BK666.out 1; have hfz11_2 := blk_frozen BK666.out 2))
        have n0_ := Aside0.mk (blk_drew BK666.out)
        have n1_ := Aside0.mk (below_drew1 HB.out)
        clear BK666
        clear HB
        have BK666 := n0_
        have HB := n1_
        clear n0_ n1_
        refine start_ (n := 10) (S := fun w' => w'.cell? ⟨gb666, 0, none⟩ = some (.bool true) ∧ w'.cell? ⟨gb666, 1, none⟩ = some (.int .u64 a0_1) ∧ w'.cell? ⟨gb666, 2, none⟩ = some (.slice A0_2 l0_2.length c0_2)) (ds := []) #[false, false, false, false, false, false, false, false, false, false] (by kernel_rfl) rfl rfl ⟨(blk_cell BK666.out 0).trans rfl, (blk_cell BK666.out 1).trans rfl, (blk_cell BK666.out 2).trans rfl⟩ (fun hHeld => ?_); refine with_tabW tallymanref19_PutFrame.tab6 tallymanref19_PutFrame.bits6 (fun HT_ HW_ => ?_)
        generalize w10.drew = w12 at BK666 HB hHeld ⊢
        refine pure_ (i := 0) (N := some 9) (v := ?_) (a' := ?_) #[true, false, false, false, false, false, false, false, false, false] rfl rfl (any_of HT_.out (by kernel_rfl)) (fun _ _ _ h => h) (Or.inl ⟨by rfl, ?_⟩) ?_ ?_
        rotate_left
        · intro w'
          go_simp
          with_reducible rfl
        rotate_left
        · simp only [Act.put, List.setIfInBounds_toArray, List.set_cons_zero, List.set_cons_succ, i64_w, i32_w]
          rfl
        refine pure_ (i := 2) (N := some 11) (v := ?_) (a' := ?_) #[true, false, true, false, false, false, false, false, false, false] rfl rfl (any_of HT_.out (by kernel_rfl)) (fun _ _ _ h => h) (Or.inl ⟨by rfl, ?_⟩) ?_ ?_
        rotate_left
        · intro w'
          go_simp
          with_reducible rfl
        rotate_left
        · simp only [Act.put, List.setIfInBounds_toArray, List.set_cons_zero, List.set_cons_succ, i64_w, i32_w]
          rfl
        refine pure_ (i := 5) (N := some 14) (v := ?_) (a' := ?_) #[true, false, true, false, false, true, false, false, false, false] rfl rfl (any_of HT_.out (by kernel_rfl)) (fun _ _ _ h => h) (Or.inl ⟨by rfl, ?_⟩) ?_ ?_
        rotate_left
        · intro w'
          go_simp
          with_reducible rfl
        rotate_left
        · simp only [Act.put, List.setIfInBounds_toArray, List.set_cons_zero, List.set_cons_succ, i64_w, i32_w]
          rfl
        refine take_ (i := 3) (N := some 12) (v := ?_) (a' := ?_) #[true, false, true, true, false, true, false, false, false, false] rfl rfl (take_ofW HT_.out HW_.out (by kernel_rfl)) (fun _ _ _ h => h) (Or.inl ⟨by rfl, ?_⟩) hHeld ?_ ?_
        rotate_left
        · rintro w' ⟨s0, s1, s2⟩
          go_simp
          with_reducible rfl
        rotate_left
        · simp only [Act.put, List.setIfInBounds_toArray, List.set_cons_zero, List.set_cons_succ, i64_w, i32_w]
          rfl
        refine take_ (i := 6) (N := some 15) (v := ?_) (a' := ?_) #[true, false, true, true, false, true, true, false, false, false] rfl rfl (take_ofW HT_.out HW_.out (by kernel_rfl)) (fun _ _ _ h => h) (Or.inl ⟨by rfl, ?_⟩) hHeld ?_ ?_
        rotate_left
        · rintro w' ⟨s0, s1, s2⟩
          go_simp
          with_reducible rfl
        rotate_left
        · simp only [Act.put, List.setIfInBounds_toArray, List.set_cons_zero, List.set_cons_succ, i64_w, i32_w]
          rfl
        refine one_ (i := 1) (N := some 10) #[true, true, true, true, false, true, true, false, false, false] rfl rfl (one_of HT_.out (by kernel_rfl)) (by decide) (fun K hK => ?_)
        refine Kd.R_lit_step (Kd.int .u8) _ 5 ?hg (N := 10) ?hd (xs := ([65] : List Int)) (inner := [.int .u8 65]) (ok := fun _ => True) (okp := fun _ => True) ?hr ?hp (fun _ hk => hk) trivial (Below.refl _ _) (Nat.le_refl _) (by simp) ?_; (case hd => rfl); (case hg => rfl); (case hr => first | (go_simp; done) | (go_simp; rfl)); (case hp => exact (Reps.one (show Kd.M (Kd.int .u8) _ _ _ 65 [.int .u8 65] from rfl) (Reps.none _ _)))
        intro v669 w13 ho14 hb hg_ hnew_
        clear hg_ hnew_
        (first | rw [← Ny668.out] at ho14 | (simp only [Int.reduceToNat] at ho14; rw [← Ny668.out] at ho14))
        have n0_ := Aside0.mk (Kd.R_lower ho14 (below_size (by repeat (first | (with_reducible first | exact HB.out | apply below_alloc | apply pw_below_drewN | apply below_drew1 | refine below_set ?_ GE666.out) | exact HB.out))))
        have n1_ := Aside0.mk (blk_below (g := gb666) (o := .cells #[.bool true, .int .u64 a0_1, .slice A0_2 l0_2.length c0_2] 75 (0, 0)) (by (with_reducible repeat (first | refine blk_drewN ?_ _ | refine blk_drew ?_ | refine blk_alloc ?_ _)); exact BK666.out) hb)
        have n2_ := Aside0.mk (below_step (by repeat (first | (with_reducible first | exact HB.out | apply below_alloc | apply pw_below_drewN | apply below_drew1 | refine below_set ?_ GE666.out) | exact HB.out)) hb)
        clear BK666
        clear HB
        have HO670 := n0_
        have BK666 := n1_
        have HB := n2_
        clear n0_ n1_ n2_
        clear hb ho14
        obtain ⟨Ao15, co15, eo15⟩ := Kd.R_slice HO670.out
        (first | subst eo15 | (injection eo15 with f1_ f2_ f3_; have f4_ := f1_.symm; have f5_ := f3_.symm; clear f1_ f2_ f3_; subst f4_; subst f5_))
        refine hK.out _ _ ⟨(blk_cell BK666.out 0).trans rfl, (blk_cell BK666.out 1).trans rfl, (blk_cell BK666.out 2).trans rfl⟩ (fun hHeld => ?_)
        clear hK K
        refine norm_ (a' := ?_) ?_ ?_
        rotate_left
        · show Act.put _ (some 10) _ = _
          simp only [Act.put, List.setIfInBounds_toArray, List.set_cons_zero, List.set_cons_succ, i64_w, i32_w]
          rfl
        refine one_ (i := 4) (N := some 13) #[true, true, true, true, true, true, true, false, false, false] rfl rfl (one_of HT_.out (by kernel_rfl)) (by decide) (fun K hK => ?_)
        refine goes_ Try.func30 (by kernel_rfl) rfl #[.slice Ao15 y668.length co15, .int .u64 a0_1] (by rfl) rfl rfl (by (try simp only [List.map_toArray, List.map_cons, List.map_nil]); first | done | rfl | (simp only [List.length_drop, List.length_take]; rfl)) ?_
        with_reducible refine (tallymanref1_Put.calls k _ _ y668 a0_1 t671 _ ?side1 ?side2 A5.out).mono ?_
        (case side1 => repeat (first | exact (Kd.R_reads' HO670.out).2.2 | (with_reducible refine Kd.C_alloc ?_ _) | (with_reducible refine Kd.C_drewN ?_ _) | (with_reducible refine Kd.C_drew ?_)))
        (case side2 => exact (Kd.R_reads' HO670.out).2.1)
        rintro e w16 ⟨v672, rfl, ho0, hb⟩
        refine ⟨_, rfl, ?_⟩
        have n0_ := Aside0.mk (Kd.R_elder' (by (with_reducible repeat (first | apply Kd.R_alloc | apply Kd.R_drewN | apply Kd.R_drew)); exact HO670.out) (Kd.R_base ho0) hb)
        have n1_ := Aside0.mk (Kd.R_lower (Kd.R_new' ho0 (Kd.R_lt (by (with_reducible repeat (first | apply Kd.R_alloc | apply Kd.R_drewN | apply Kd.R_drew)); exact HO670.out))) (below_size (by repeat (first | (with_reducible first | exact HB.out | apply below_alloc | apply pw_below_drewN | apply below_drew1 | refine below_set ?_ GE666.out) | exact HB.out))))
        have n2_ := Aside0.mk (blk_below (g := gb666) (o := .cells #[.bool true, .int .u64 a0_1, .slice A0_2 l0_2.length c0_2] 75 (0, 0)) (by (with_reducible repeat (first | refine blk_drewN ?_ _ | refine blk_drew ?_ | refine blk_alloc ?_ _)); exact BK666.out) hb)
        have n3_ := Aside0.mk (below_step (by repeat (first | (with_reducible first | exact HB.out | apply below_alloc | apply pw_below_drewN | apply below_drew1 | refine below_set ?_ GE666.out) | exact HB.out)) hb)
        clear HO670
        clear BK666
        clear HB
        have HO670 := n0_
        have HO673 := n1_
        have BK666 := n2_
        have HB := n3_
        clear n0_ n1_ n2_ n3_
        (try clear hb)
        (try clear hb2)
        (try clear hk)
        (try clear hi)
        (try clear ho0)
        refine hK.out _ _ ⟨(blk_cell BK666.out 0).trans rfl, (blk_cell BK666.out 1).trans rfl, (blk_cell BK666.out 2).trans rfl⟩ (fun hHeld => ?_)
        clear hK K
        refine norm_ (a' := ?_) ?_ ?_
        rotate_left
        · show Act.put _ (some 13) _ = _
          simp only [Act.put, List.setIfInBounds_toArray, List.set_cons_zero, List.set_cons_succ, i64_w, i32_w]
          rfl
        refine one_ (i := 7) (N := some 16) #[true, true, true, true, true, true, true, true, false, false] rfl rfl (one_of HT_.out (by kernel_rfl)) (by decide) (fun K hK => ?_)
        refine Kd.R_append_rows_step (Kd.int .u8) (w0 := w) w.heap.size (by rfl) (.tmp 13) (.tmp 15) 24 5 (.int .u8 0) 1 rfl Try.underlying24 info5 rfl (by decide) (by omega) v672 t671 l0_2 _ _ _ (fun k_ => some k_ ≠ (.slice Ao15 y668.length co15 : Value).ownBlock) (fun _ => False) rfl rfl ?aO ?aR (fun _ _ h => h) (fun _ h => h.elim) ?aF ?aB ?aS ?aL ?_
        (case aR => repeat (first | exact (Kd.C_below HR0_2.out HB.out) | (with_reducible refine Kd.C_alloc ?_ _) | (with_reducible refine Kd.C_drewN ?_ _) | (with_reducible refine Kd.C_drew ?_)))
        (case aB => exact (by repeat (first | (with_reducible first | exact HB.out | apply below_alloc | apply pw_below_drewN | apply below_drew1 | refine below_set ?_ GE666.out) | exact HB.out)))
        (case aF => exact (fun k_ hk => Kd.fresh' (Kd.R_lt (by (with_reducible repeat (first | apply Kd.R_alloc | apply Kd.R_drewN | apply Kd.R_drew)); exact HO670.out)) k_ hk))
        (case aO => exact (by (with_reducible repeat (first | apply Kd.R_alloc | apply Kd.R_drewN | apply Kd.R_drew)); exact Kd.R_mono HO673.out (fun _ hk => hk.2)))
        (case aS => exact (below_size (by repeat (first | (with_reducible first | exact HB.out | apply below_alloc | apply pw_below_drewN | apply below_drew1 | refine below_set ?_ GE666.out) | exact HB.out))))
        (case aL => have := LMc6.out; omega)
        intro v675 w17 ho hb hg hat
        rw [← Ny674.out] at ho
        have n0_ := Aside0.mk (blk_grown (g := gb666) (o := .cells #[.bool true, .int .u64 a0_1, .slice A0_2 l0_2.length c0_2] 75 (0, 0)) (by (with_reducible repeat (first | refine blk_drewN ?_ _ | refine blk_drew ?_ | refine blk_alloc ?_ _)); exact BK666.out) hg (Kd.R_ne HO673.out BK666.out (by decide)))
        have n1_ := Aside0.mk (Kd.R_after (ok := (fun _ => True)) (by (with_reducible repeat (first | apply Kd.R_alloc | apply Kd.R_drewN | apply Kd.R_drew)); exact HO670.out) hg hat)
        have n2_ := Aside0.mk (hb)
        have n3_ := Aside0.mk (ho)
        clear BK666
        clear HO670
        clear HB
        clear HO673
        have BK666 := n0_
        have HO670 := n1_
        have HB := n2_
        have HO676 := n3_
        clear n0_ n1_ n2_ n3_
        clear ho hb hg hat
        obtain ⟨Ao18, co18, eo18⟩ := Kd.R_slice HO676.out
        (first | subst eo18 | (injection eo18 with f1_ f2_ f3_; have f4_ := f1_.symm; have f5_ := f3_.symm; clear f1_ f2_ f3_; subst f4_; subst f5_))
        refine hK.out _ _ ⟨(blk_cell BK666.out 0).trans rfl, (blk_cell BK666.out 1).trans rfl, (blk_cell BK666.out 2).trans rfl⟩ (fun hHeld => ?_)
        clear hK K
        refine norm_ (a' := ?_) ?_ ?_
        rotate_left
        · show Act.put _ (some 16) _ = _
          simp only [Act.put, List.setIfInBounds_toArray, List.set_cons_zero, List.set_cons_succ, i64_w, i32_w]
          rfl
        refine one_ (i := 8) (N := some 17) #[true, true, true, true, true, true, true, true, true, false] rfl rfl (one_of HT_.out (by kernel_rfl)) (by decide) (fun K hK => ?_)
        refine goes_ Try.func77 (by kernel_rfl) rfl #[.slice Ao18 y674.length co18] (by rfl) rfl rfl (by (try simp only [List.map_toArray, List.map_cons, List.map_nil]); first | done | rfl | (simp only [List.length_drop, List.length_take]; rfl)) ?_
        with_reducible refine (tallymanref1_Seal.calls k _ _ y674 t677 _ ?side1 ?side2 A7.out).mono ?_
        (case side1 => repeat (first | exact (Kd.R_reads' HO676.out).2.2 | (with_reducible refine Kd.C_alloc ?_ _) | (with_reducible refine Kd.C_drewN ?_ _) | (with_reducible refine Kd.C_drew ?_)))
        (case side2 => exact (Kd.R_reads' HO676.out).2.1)
        rintro e w19 ⟨v678, rfl, ho0, hb⟩
        refine ⟨_, rfl, ?_⟩
        have n0_ := Aside0.mk (Kd.R_elder' (by (with_reducible repeat (first | apply Kd.R_alloc | apply Kd.R_drewN | apply Kd.R_drew)); exact HO670.out) (Kd.R_base ho0) hb)
        have n1_ := Aside0.mk (Kd.R_elder' (by (with_reducible repeat (first | apply Kd.R_alloc | apply Kd.R_drewN | apply Kd.R_drew)); exact HO676.out) (Kd.R_base ho0) hb)
        have n2_ := Aside0.mk (Kd.R_lower (Kd.R_new' (Kd.R_new' ho0 (Kd.R_lt (by (with_reducible repeat (first | apply Kd.R_alloc | apply Kd.R_drewN | apply Kd.R_drew)); exact HO670.out))) (Kd.R_lt (by (with_reducible repeat (first | apply Kd.R_alloc | apply Kd.R_drewN | apply Kd.R_drew)); exact HO676.out))) (below_size (by repeat (first | (with_reducible first | exact HB.out | apply below_alloc | apply pw_below_drewN | apply below_drew1 | refine below_set ?_ GE666.out) | exact HB.out))))
        have n3_ := Aside0.mk (blk_below (g := gb666) (o := .cells #[.bool true, .int .u64 a0_1, .slice A0_2 l0_2.length c0_2] 75 (0, 0)) (by (with_reducible repeat (first | refine blk_drewN ?_ _ | refine blk_drew ?_ | refine blk_alloc ?_ _)); exact BK666.out) hb)
        have n4_ := Aside0.mk (below_step (by repeat (first | (with_reducible first | exact HB.out | apply below_alloc | apply pw_below_drewN | apply below_drew1 | refine below_set ?_ GE666.out) | exact HB.out)) hb)
        clear HO670
        clear HO676
        clear BK666
        clear HB
        have HO670 := n0_
        have HO676 := n1_
        have HO679 := n2_
        have BK666 := n3_
        have HB := n4_
        clear n0_ n1_ n2_ n3_ n4_
        (try clear hb)
        (try clear hb2)
        (try clear hk)
        (try clear hi)
        (try clear ho0)
        refine hK.out _ _ ⟨(blk_cell BK666.out 0).trans rfl, (blk_cell BK666.out 1).trans rfl, (blk_cell BK666.out 2).trans rfl⟩ (fun hHeld => ?_)
        clear hK K
        refine norm_ (a' := ?_) ?_ ?_
        rotate_left
        · show Act.put _ (some 17) _ = _
          simp only [Act.put, List.setIfInBounds_toArray, List.set_cons_zero, List.set_cons_succ, i64_w, i32_w]
          rfl
        refine pure_ (i := 9) (N := some 2) (v := ?_) (a' := ?_) #[true, true, true, true, true, true, true, true, true, true] rfl rfl (any_of HT_.out (by kernel_rfl)) (fun _ _ _ h => h) (Or.inl ⟨by rfl, ?_⟩) ?_ ?_
        rotate_left
        · intro w'
          go_simp
          with_reducible rfl
        rotate_left
        · simp only [Act.put, List.setIfInBounds_toArray, List.set_cons_zero, List.set_cons_succ, i64_w, i32_w]
          rfl
        refine done_ (done_of HT_.out (by kernel_rfl)) ?_
        try go_wp2
        go_ret
        exact ⟨_, by first | rfl | (simp [errW_none, errW_some] <;> rfl) | (simp [*, errW_none, errW_some] <;> rfl), by (with_reducible repeat (first | apply Kd.R_alloc | apply Kd.R_drewN | apply Kd.R_drew)); exact Kd.R_mono HO679.out (fun _ hk => trivial), by repeat (first | (with_reducible first | exact HB.out | apply below_alloc | apply pw_below_drewN | apply below_drew1 | refine below_set ?_ GE666.out) | exact HB.out)⟩
      · rw [if_neg c6] at H
        exact absurd H (by simp)
    · replace c4 := Bool.eq_false_iff.mpr c4
      subst c4
      have H1 : ((tallymanref1_Put.f k (([70] : List Int)) a0_1).bind fun t683 => (if t683.length + l0_2.length < 140737488355328 then ((tallymanref1_Seal.f k (t683 ++ l0_2)).bind fun t689 => (some t689)) else (none))) = some r := by rw [if_neg (show ¬ (false = true) by decide)] at H; exact H
      clear H
      have H := H1
      clear H1
      obtain ⟨y680, hy680⟩ : ∃ y_ : List Int, y_ = (([70] : List Int)) := ⟨_, rfl⟩
      replace H : ((tallymanref1_Put.f k y680 a0_1).bind fun t683 => (if t683.length + l0_2.length < 140737488355328 then ((tallymanref1_Seal.f k (t683 ++ l0_2)).bind fun t689 => (some t689)) else (none))) = some r := by first | (rw [hy680]; with_reducible exact H) | (have H2_ := (Option.bind_some _ _).symm.trans H; rw [hy680]; with_reducible exact H2_) | (have H2_ := (Option.bind_some _ _).symm.trans H; with_reducible exact H2_) | with_reducible exact H | (rw [hy680]; exact H) | exact H
      have Ny680 := Aside0.mk hy680
      clear hy680
      replace H := Option.bind_eq_some_iff.mp H
      obtain ⟨t683, A200, H⟩ := H
      replace H : (if t683.length + l0_2.length < 140737488355328 then ((tallymanref1_Seal.f k (t683 ++ l0_2)).bind fun t689 => (some t689)) else (none)) = some r := H
      have A20 := Aside0.mk A200
      clear A200
      by_cases c21 : t683.length + l0_2.length < 140737488355328
      · rw [if_pos c21] at H
        have LMc21 := Aside0.mk c21
        clear c21
        obtain ⟨y686, hy686⟩ : ∃ y_ : List Int, y_ = (t683 ++ l0_2) := ⟨_, rfl⟩
        replace H : ((tallymanref1_Seal.f k y686).bind fun t689 => (some t689)) = some r := by first | (rw [hy686]; with_reducible exact H) | (have H2_ := (Option.bind_some _ _).symm.trans H; rw [hy686]; with_reducible exact H2_) | (have H2_ := (Option.bind_some _ _).symm.trans H; with_reducible exact H2_) | with_reducible exact H | (rw [hy686]; exact H) | exact H
        have Ny686 := Aside0.mk hy686
        clear hy686
        replace H := Option.bind_eq_some_iff.mp H
        obtain ⟨t689, A220, H⟩ := H
        replace H : (some t689) = some r := H
        have A22 := Aside0.mk A220
        clear A220
        obtain rfl := Option.some.inj H
        go_enter Try.func55, Try.ntmps55
        try go_wp2_with (first | ((with_reducible refine gate_dst (N := 1) rfl ?_); refine box_event ?hg (N := 1) ?hd (cs := #[.bool false, .int .u64 a0_1, .slice A0_2 l0_2.length c0_2]) (t := 75) ?hr ?_; (case hd => rfl); (case hg => rfl); (case hr => first | (go_simp; done) | (go_simp; rfl)); intro gb666 hg w23 hbox hb; have n0_ := Aside0.mk (below_step (by repeat (first | (with_reducible first | exact HB.out | apply below_alloc | apply pw_below_drewN | apply below_drew1) | exact HB.out)) hb); have n1_ := Aside0.mk (hbox); have n2_ := Aside0.mk ((by rw [hg]; exact (below_size (by repeat (first | (with_reducible first | exact HB.out | apply below_alloc | apply pw_below_drewN | apply below_drew1) | exact HB.out))) : w.heap.size ≤ gb666)); have n3_ := Aside0.mk ((by rw [hg]; exact (below_size (by repeat (first | (with_reducible first | exact HB.out | apply below_alloc | apply pw_below_drewN | apply below_drew1) | exact HB.out))) : w.heap.size ≤ gb666)); clear HB; have HB := n0_; have BK666 := n1_; have GW666 := n2_; have GE666 := n3_; clear n0_ n1_ n2_ n3_; clear hb hbox hg; have hcz24_0 : w23.cell? ⟨gb666, 0, none⟩ = some (.bool false) := (blk_cell BK666.out 0).trans rfl; have hcz24_1 : w23.cell? ⟨gb666, 1, none⟩ = some (.int .u64 a0_1) := (blk_cell BK666.out 1).trans rfl; have hcz24_2 : w23.cell? ⟨gb666, 2, none⟩ = some (.slice A0_2 l0_2.length c0_2) := (blk_cell BK666.out 2).trans rfl; have hfz24_0 := blk_frozen BK666.out 0; have hfz24_1 := blk_frozen BK666.out 1; have hfz24_2 := blk_frozen BK666.out 2) | ((with_reducible refine gate_callee (f := 53) rfl ?_); refine goesL_ (some 5) rfl rfl Try.func53 (by kernel_rfl) rfl #[.agg #[.bool false, .int .u64 a0_1, .slice A0_2 l0_2.length c0_2]] rfl (by (try simp only [List.map_toArray, List.map_cons, List.map_nil]); first | done | rfl | (simp only [List.length_drop, List.length_take]; rfl)) ?_; (with_reducible refine (tallymanref19_GoodFrame.calls false a0_1 _ _ l0_2 true _ ?side1 ?side2 A2.out).mono ?_); (case side1 => repeat (first | exact (Kd.C_below HR0_2.out HB.out) | (with_reducible refine Kd.C_alloc ?_ _) | (with_reducible refine Kd.C_drewN ?_ _) | (with_reducible refine Kd.C_drew ?_))); (case side2 => exact HC0_2.out); rintro e w25 ⟨rfl, hb⟩; refine ⟨_, rfl, ?_⟩; have n0_ := Aside0.mk (blk_below (g := gb666) (o := .cells #[.bool false, .int .u64 a0_1, .slice A0_2 l0_2.length c0_2] 75 (0, 0)) (by (with_reducible repeat (first | refine blk_drewN ?_ _ | refine blk_drew ?_ | refine blk_alloc ?_ _)); exact BK666.out) hb); have n1_ := Aside0.mk (below_step (by repeat (first | (with_reducible first | exact HB.out | apply below_alloc | apply pw_below_drewN | apply below_drew1 | refine below_set ?_ GE666.out) | exact HB.out)) hb); clear BK666; clear HB; have BK666 := n0_; have HB := n1_; clear n0_ n1_; (try clear hb); (try clear hb2); (try clear hk); (try clear hi); have hcz26_0 : w25.cell? ⟨gb666, 0, none⟩ = some (.bool false) := (blk_cell BK666.out 0).trans rfl; have hcz26_1 : w25.cell? ⟨gb666, 1, none⟩ = some (.int .u64 a0_1) := (blk_cell BK666.out 1).trans rfl; have hcz26_2 : w25.cell? ⟨gb666, 2, none⟩ = some (.slice A0_2 l0_2.length c0_2) := (blk_cell BK666.out 2).trans rfl; have hfz26_0 := blk_frozen BK666.out 0; have hfz26_1 := blk_frozen BK666.out 1; have hfz26_2 := blk_frozen BK666.out 2))
        have n0_ := Aside0.mk (blk_drew BK666.out)
        have n1_ := Aside0.mk (below_drew1 HB.out)
        clear BK666
        clear HB
        have BK666 := n0_
        have HB := n1_
        clear n0_ n1_
        refine start_ (n := 10) (S := fun w' => w'.cell? ⟨gb666, 0, none⟩ = some (.bool false) ∧ w'.cell? ⟨gb666, 1, none⟩ = some (.int .u64 a0_1) ∧ w'.cell? ⟨gb666, 2, none⟩ = some (.slice A0_2 l0_2.length c0_2)) (ds := []) #[false, false, false, false, false, false, false, false, false, false] (by kernel_rfl) rfl rfl ⟨(blk_cell BK666.out 0).trans rfl, (blk_cell BK666.out 1).trans rfl, (blk_cell BK666.out 2).trans rfl⟩ (fun hHeld => ?_); refine with_tabW tallymanref19_PutFrame.tab6 tallymanref19_PutFrame.bits6 (fun HT_ HW_ => ?_)
        generalize w25.drew = w27 at BK666 HB hHeld ⊢
        refine pure_ (i := 0) (N := some 9) (v := ?_) (a' := ?_) #[true, false, false, false, false, false, false, false, false, false] rfl rfl (any_of HT_.out (by kernel_rfl)) (fun _ _ _ h => h) (Or.inl ⟨by rfl, ?_⟩) ?_ ?_
        rotate_left
        · intro w'
          go_simp
          with_reducible rfl
        rotate_left
        · simp only [Act.put, List.setIfInBounds_toArray, List.set_cons_zero, List.set_cons_succ, i64_w, i32_w]
          rfl
        refine pure_ (i := 2) (N := some 11) (v := ?_) (a' := ?_) #[true, false, true, false, false, false, false, false, false, false] rfl rfl (any_of HT_.out (by kernel_rfl)) (fun _ _ _ h => h) (Or.inl ⟨by rfl, ?_⟩) ?_ ?_
        rotate_left
        · intro w'
          go_simp
          with_reducible rfl
        rotate_left
        · simp only [Act.put, List.setIfInBounds_toArray, List.set_cons_zero, List.set_cons_succ, i64_w, i32_w]
          rfl
        refine pure_ (i := 5) (N := some 14) (v := ?_) (a' := ?_) #[true, false, true, false, false, true, false, false, false, false] rfl rfl (any_of HT_.out (by kernel_rfl)) (fun _ _ _ h => h) (Or.inl ⟨by rfl, ?_⟩) ?_ ?_
        rotate_left
        · intro w'
          go_simp
          with_reducible rfl
        rotate_left
        · simp only [Act.put, List.setIfInBounds_toArray, List.set_cons_zero, List.set_cons_succ, i64_w, i32_w]
          rfl
        refine take_ (i := 3) (N := some 12) (v := ?_) (a' := ?_) #[true, false, true, true, false, true, false, false, false, false] rfl rfl (take_ofW HT_.out HW_.out (by kernel_rfl)) (fun _ _ _ h => h) (Or.inl ⟨by rfl, ?_⟩) hHeld ?_ ?_
        rotate_left
        · rintro w' ⟨s0, s1, s2⟩
          go_simp
          with_reducible rfl
        rotate_left
        · simp only [Act.put, List.setIfInBounds_toArray, List.set_cons_zero, List.set_cons_succ, i64_w, i32_w]
          rfl
        refine take_ (i := 6) (N := some 15) (v := ?_) (a' := ?_) #[true, false, true, true, false, true, true, false, false, false] rfl rfl (take_ofW HT_.out HW_.out (by kernel_rfl)) (fun _ _ _ h => h) (Or.inl ⟨by rfl, ?_⟩) hHeld ?_ ?_
        rotate_left
        · rintro w' ⟨s0, s1, s2⟩
          go_simp
          with_reducible rfl
        rotate_left
        · simp only [Act.put, List.setIfInBounds_toArray, List.set_cons_zero, List.set_cons_succ, i64_w, i32_w]
          rfl
        refine one_ (i := 1) (N := some 10) #[true, true, true, true, false, true, true, false, false, false] rfl rfl (one_of HT_.out (by kernel_rfl)) (by decide) (fun K hK => ?_)
        refine Kd.R_lit_step (Kd.int .u8) _ 5 ?hg (N := 10) ?hd (xs := ([70] : List Int)) (inner := [.int .u8 70]) (ok := fun _ => True) (okp := fun _ => True) ?hr ?hp (fun _ hk => hk) trivial (Below.refl _ _) (Nat.le_refl _) (by simp) ?_; (case hd => rfl); (case hg => rfl); (case hr => first | (go_simp; done) | (go_simp; rfl)); (case hp => exact (Reps.one (show Kd.M (Kd.int .u8) _ _ _ 70 [.int .u8 70] from rfl) (Reps.none _ _)))
        intro v681 w28 ho29 hb hg_ hnew_
        clear hg_ hnew_
        (first | rw [← Ny680.out] at ho29 | (simp only [Int.reduceToNat] at ho29; rw [← Ny680.out] at ho29))
        have n0_ := Aside0.mk (Kd.R_lower ho29 (below_size (by repeat (first | (with_reducible first | exact HB.out | apply below_alloc | apply pw_below_drewN | apply below_drew1 | refine below_set ?_ GE666.out) | exact HB.out))))
        have n1_ := Aside0.mk (blk_below (g := gb666) (o := .cells #[.bool false, .int .u64 a0_1, .slice A0_2 l0_2.length c0_2] 75 (0, 0)) (by (with_reducible repeat (first | refine blk_drewN ?_ _ | refine blk_drew ?_ | refine blk_alloc ?_ _)); exact BK666.out) hb)
        have n2_ := Aside0.mk (below_step (by repeat (first | (with_reducible first | exact HB.out | apply below_alloc | apply pw_below_drewN | apply below_drew1 | refine below_set ?_ GE666.out) | exact HB.out)) hb)
        clear BK666
        clear HB
        have HO682 := n0_
        have BK666 := n1_
        have HB := n2_
        clear n0_ n1_ n2_
        clear hb ho29
        obtain ⟨Ao30, co30, eo30⟩ := Kd.R_slice HO682.out
        (first | subst eo30 | (injection eo30 with f1_ f2_ f3_; have f4_ := f1_.symm; have f5_ := f3_.symm; clear f1_ f2_ f3_; subst f4_; subst f5_))
        refine hK.out _ _ ⟨(blk_cell BK666.out 0).trans rfl, (blk_cell BK666.out 1).trans rfl, (blk_cell BK666.out 2).trans rfl⟩ (fun hHeld => ?_)
        clear hK K
        refine norm_ (a' := ?_) ?_ ?_
        rotate_left
        · show Act.put _ (some 10) _ = _
          simp only [Act.put, List.setIfInBounds_toArray, List.set_cons_zero, List.set_cons_succ, i64_w, i32_w]
          rfl
        refine one_ (i := 4) (N := some 13) #[true, true, true, true, true, true, true, false, false, false] rfl rfl (one_of HT_.out (by kernel_rfl)) (by decide) (fun K hK => ?_)
        refine goes_ Try.func30 (by kernel_rfl) rfl #[.slice Ao30 y680.length co30, .int .u64 a0_1] (by rfl) rfl rfl (by (try simp only [List.map_toArray, List.map_cons, List.map_nil]); first | done | rfl | (simp only [List.length_drop, List.length_take]; rfl)) ?_
        with_reducible refine (tallymanref1_Put.calls k _ _ y680 a0_1 t683 _ ?side1 ?side2 A20.out).mono ?_
        (case side1 => repeat (first | exact (Kd.R_reads' HO682.out).2.2 | (with_reducible refine Kd.C_alloc ?_ _) | (with_reducible refine Kd.C_drewN ?_ _) | (with_reducible refine Kd.C_drew ?_)))
        (case side2 => exact (Kd.R_reads' HO682.out).2.1)
        rintro e w31 ⟨v684, rfl, ho0, hb⟩
        refine ⟨_, rfl, ?_⟩
        have n0_ := Aside0.mk (Kd.R_elder' (by (with_reducible repeat (first | apply Kd.R_alloc | apply Kd.R_drewN | apply Kd.R_drew)); exact HO682.out) (Kd.R_base ho0) hb)
        have n1_ := Aside0.mk (Kd.R_lower (Kd.R_new' ho0 (Kd.R_lt (by (with_reducible repeat (first | apply Kd.R_alloc | apply Kd.R_drewN | apply Kd.R_drew)); exact HO682.out))) (below_size (by repeat (first | (with_reducible first | exact HB.out | apply below_alloc | apply pw_below_drewN | apply below_drew1 | refine below_set ?_ GE666.out) | exact HB.out))))
        have n2_ := Aside0.mk (blk_below (g := gb666) (o := .cells #[.bool false, .int .u64 a0_1, .slice A0_2 l0_2.length c0_2] 75 (0, 0)) (by (with_reducible repeat (first | refine blk_drewN ?_ _ | refine blk_drew ?_ | refine blk_alloc ?_ _)); exact BK666.out) hb)
        have n3_ := Aside0.mk (below_step (by repeat (first | (with_reducible first | exact HB.out | apply below_alloc | apply pw_below_drewN | apply below_drew1 | refine below_set ?_ GE666.out) | exact HB.out)) hb)
        clear HO682
        clear BK666
        clear HB
        have HO682 := n0_
        have HO685 := n1_
        have BK666 := n2_
        have HB := n3_
        clear n0_ n1_ n2_ n3_
        (try clear hb)
        (try clear hb2)
        (try clear hk)
        (try clear hi)
        (try clear ho0)
        refine hK.out _ _ ⟨(blk_cell BK666.out 0).trans rfl, (blk_cell BK666.out 1).trans rfl, (blk_cell BK666.out 2).trans rfl⟩ (fun hHeld => ?_)
        clear hK K
        refine norm_ (a' := ?_) ?_ ?_
        rotate_left
        · show Act.put _ (some 13) _ = _
          simp only [Act.put, List.setIfInBounds_toArray, List.set_cons_zero, List.set_cons_succ, i64_w, i32_w]
          rfl
        refine one_ (i := 7) (N := some 16) #[true, true, true, true, true, true, true, true, false, false] rfl rfl (one_of HT_.out (by kernel_rfl)) (by decide) (fun K hK => ?_)
        refine Kd.R_append_rows_step (Kd.int .u8) (w0 := w) w.heap.size (by rfl) (.tmp 13) (.tmp 15) 24 5 (.int .u8 0) 1 rfl Try.underlying24 info5 rfl (by decide) (by omega) v684 t683 l0_2 _ _ _ (fun k_ => some k_ ≠ (.slice Ao30 y680.length co30 : Value).ownBlock) (fun _ => False) rfl rfl ?aO ?aR (fun _ _ h => h) (fun _ h => h.elim) ?aF ?aB ?aS ?aL ?_
        (case aR => repeat (first | exact (Kd.C_below HR0_2.out HB.out) | (with_reducible refine Kd.C_alloc ?_ _) | (with_reducible refine Kd.C_drewN ?_ _) | (with_reducible refine Kd.C_drew ?_)))
        (case aB => exact (by repeat (first | (with_reducible first | exact HB.out | apply below_alloc | apply pw_below_drewN | apply below_drew1 | refine below_set ?_ GE666.out) | exact HB.out)))
        (case aF => exact (fun k_ hk => Kd.fresh' (Kd.R_lt (by (with_reducible repeat (first | apply Kd.R_alloc | apply Kd.R_drewN | apply Kd.R_drew)); exact HO682.out)) k_ hk))
        (case aO => exact (by (with_reducible repeat (first | apply Kd.R_alloc | apply Kd.R_drewN | apply Kd.R_drew)); exact Kd.R_mono HO685.out (fun _ hk => hk.2)))
        (case aS => exact (below_size (by repeat (first | (with_reducible first | exact HB.out | apply below_alloc | apply pw_below_drewN | apply below_drew1 | refine below_set ?_ GE666.out) | exact HB.out))))
        (case aL => have := LMc21.out; omega)
        intro v687 w32 ho hb hg hat
        rw [← Ny686.out] at ho
        have n0_ := Aside0.mk (blk_grown (g := gb666) (o := .cells #[.bool false, .int .u64 a0_1, .slice A0_2 l0_2.length c0_2] 75 (0, 0)) (by (with_reducible repeat (first | refine blk_drewN ?_ _ | refine blk_drew ?_ | refine blk_alloc ?_ _)); exact BK666.out) hg (Kd.R_ne HO685.out BK666.out (by decide)))
        have n1_ := Aside0.mk (Kd.R_after (ok := (fun _ => True)) (by (with_reducible repeat (first | apply Kd.R_alloc | apply Kd.R_drewN | apply Kd.R_drew)); exact HO682.out) hg hat)
        have n2_ := Aside0.mk (hb)
        have n3_ := Aside0.mk (ho)
        clear BK666
        clear HO682
        clear HB
        clear HO685
        have BK666 := n0_
        have HO682 := n1_
        have HB := n2_
        have HO688 := n3_
        clear n0_ n1_ n2_ n3_
        clear ho hb hg hat
        obtain ⟨Ao33, co33, eo33⟩ := Kd.R_slice HO688.out
        (first | subst eo33 | (injection eo33 with f1_ f2_ f3_; have f4_ := f1_.symm; have f5_ := f3_.symm; clear f1_ f2_ f3_; subst f4_; subst f5_))
        refine hK.out _ _ ⟨(blk_cell BK666.out 0).trans rfl, (blk_cell BK666.out 1).trans rfl, (blk_cell BK666.out 2).trans rfl⟩ (fun hHeld => ?_)
        clear hK K
        refine norm_ (a' := ?_) ?_ ?_
        rotate_left
        · show Act.put _ (some 16) _ = _
          simp only [Act.put, List.setIfInBounds_toArray, List.set_cons_zero, List.set_cons_succ, i64_w, i32_w]
          rfl
        refine one_ (i := 8) (N := some 17) #[true, true, true, true, true, true, true, true, true, false] rfl rfl (one_of HT_.out (by kernel_rfl)) (by decide) (fun K hK => ?_)
        refine goes_ Try.func77 (by kernel_rfl) rfl #[.slice Ao33 y686.length co33] (by rfl) rfl rfl (by (try simp only [List.map_toArray, List.map_cons, List.map_nil]); first | done | rfl | (simp only [List.length_drop, List.length_take]; rfl)) ?_
        with_reducible refine (tallymanref1_Seal.calls k _ _ y686 t689 _ ?side1 ?side2 A22.out).mono ?_
        (case side1 => repeat (first | exact (Kd.R_reads' HO688.out).2.2 | (with_reducible refine Kd.C_alloc ?_ _) | (with_reducible refine Kd.C_drewN ?_ _) | (with_reducible refine Kd.C_drew ?_)))
        (case side2 => exact (Kd.R_reads' HO688.out).2.1)
        rintro e w34 ⟨v690, rfl, ho0, hb⟩
        refine ⟨_, rfl, ?_⟩
        have n0_ := Aside0.mk (Kd.R_elder' (by (with_reducible repeat (first | apply Kd.R_alloc | apply Kd.R_drewN | apply Kd.R_drew)); exact HO682.out) (Kd.R_base ho0) hb)
        have n1_ := Aside0.mk (Kd.R_elder' (by (with_reducible repeat (first | apply Kd.R_alloc | apply Kd.R_drewN | apply Kd.R_drew)); exact HO688.out) (Kd.R_base ho0) hb)
        have n2_ := Aside0.mk (Kd.R_lower (Kd.R_new' (Kd.R_new' ho0 (Kd.R_lt (by (with_reducible repeat (first | apply Kd.R_alloc | apply Kd.R_drewN | apply Kd.R_drew)); exact HO682.out))) (Kd.R_lt (by (with_reducible repeat (first | apply Kd.R_alloc | apply Kd.R_drewN | apply Kd.R_drew)); exact HO688.out))) (below_size (by repeat (first | (with_reducible first | exact HB.out | apply below_alloc | apply pw_below_drewN | apply below_drew1 | refine below_set ?_ GE666.out) | exact HB.out))))
        have n3_ := Aside0.mk (blk_below (g := gb666) (o := .cells #[.bool false, .int .u64 a0_1, .slice A0_2 l0_2.length c0_2] 75 (0, 0)) (by (with_reducible repeat (first | refine blk_drewN ?_ _ | refine blk_drew ?_ | refine blk_alloc ?_ _)); exact BK666.out) hb)
        have n4_ := Aside0.mk (below_step (by repeat (first | (with_reducible first | exact HB.out | apply below_alloc | apply pw_below_drewN | apply below_drew1 | refine below_set ?_ GE666.out) | exact HB.out)) hb)
        clear HO682
        clear HO688
        clear BK666
        clear HB
        have HO682 := n0_
        have HO688 := n1_
        have HO691 := n2_
        have BK666 := n3_
        have HB := n4_
        clear n0_ n1_ n2_ n3_ n4_
        (try clear hb)
        (try clear hb2)
        (try clear hk)
        (try clear hi)
        (try clear ho0)
        refine hK.out _ _ ⟨(blk_cell BK666.out 0).trans rfl, (blk_cell BK666.out 1).trans rfl, (blk_cell BK666.out 2).trans rfl⟩ (fun hHeld => ?_)
        clear hK K
        refine norm_ (a' := ?_) ?_ ?_
        rotate_left
        · show Act.put _ (some 17) _ = _
          simp only [Act.put, List.setIfInBounds_toArray, List.set_cons_zero, List.set_cons_succ, i64_w, i32_w]
          rfl
        refine pure_ (i := 9) (N := some 2) (v := ?_) (a' := ?_) #[true, true, true, true, true, true, true, true, true, true] rfl rfl (any_of HT_.out (by kernel_rfl)) (fun _ _ _ h => h) (Or.inl ⟨by rfl, ?_⟩) ?_ ?_
        rotate_left
        · intro w'
          go_simp
          with_reducible rfl
        rotate_left
        · simp only [Act.put, List.setIfInBounds_toArray, List.set_cons_zero, List.set_cons_succ, i64_w, i32_w]
          rfl
        refine done_ (done_of HT_.out (by kernel_rfl)) ?_
        try go_wp2
        go_ret
        exact ⟨_, by first | rfl | (simp [errW_none, errW_some] <;> rfl) | (simp [*, errW_none, errW_some] <;> rfl), by (with_reducible repeat (first | apply Kd.R_alloc | apply Kd.R_drewN | apply Kd.R_drew)); exact Kd.R_mono HO691.out (fun _ hk => trivial), by repeat (first | (with_reducible first | exact HB.out | apply below_alloc | apply pw_below_drewN | apply below_drew1 | refine below_set ?_ GE666.out) | exact HB.out)⟩
      · rw [if_neg c21] at H
        exact absurd H (by simp)
  · replace c3 := Bool.eq_false_iff.mpr c3
    subst c3
    have H1 : (some ([] : List Int)) = some r := by rw [if_neg (show ¬ (false = true) by decide)] at H; exact H
    clear H
    have H := H1
    clear H1
    obtain rfl := Option.some.inj H
    go_enter Try.func55, Try.ntmps55
    go_wp2_with (first | ((with_reducible refine gate_dst (N := 1) rfl ?_); refine box_event ?hg (N := 1) ?hd (cs := #[.bool a0_0, .int .u64 a0_1, .slice A0_2 l0_2.length c0_2]) (t := 75) ?hr ?_; (case hd => rfl); (case hg => rfl); (case hr => first | (go_simp; done) | (go_simp; rfl)); intro gb666 hg w35 hbox hb; have n0_ := Aside0.mk (below_step (by repeat (first | (with_reducible first | exact HB.out | apply below_alloc | apply pw_below_drewN | apply below_drew1) | exact HB.out)) hb); have n1_ := Aside0.mk (hbox); have n2_ := Aside0.mk ((by rw [hg]; exact (below_size (by repeat (first | (with_reducible first | exact HB.out | apply below_alloc | apply pw_below_drewN | apply below_drew1) | exact HB.out))) : w.heap.size ≤ gb666)); have n3_ := Aside0.mk ((by rw [hg]; exact (below_size (by repeat (first | (with_reducible first | exact HB.out | apply below_alloc | apply pw_below_drewN | apply below_drew1) | exact HB.out))) : w.heap.size ≤ gb666)); clear HB; have HB := n0_; have BK666 := n1_; have GW666 := n2_; have GE666 := n3_; clear n0_ n1_ n2_ n3_; clear hb hbox hg; have hcz36_0 : w35.cell? ⟨gb666, 0, none⟩ = some (.bool a0_0) := (blk_cell BK666.out 0).trans rfl; have hcz36_1 : w35.cell? ⟨gb666, 1, none⟩ = some (.int .u64 a0_1) := (blk_cell BK666.out 1).trans rfl; have hcz36_2 : w35.cell? ⟨gb666, 2, none⟩ = some (.slice A0_2 l0_2.length c0_2) := (blk_cell BK666.out 2).trans rfl; have hfz36_0 := blk_frozen BK666.out 0; have hfz36_1 := blk_frozen BK666.out 1; have hfz36_2 := blk_frozen BK666.out 2) | ((with_reducible refine gate_callee (f := 53) rfl ?_); refine goesL_ (some 5) rfl rfl Try.func53 (by kernel_rfl) rfl #[.agg #[.bool a0_0, .int .u64 a0_1, .slice A0_2 l0_2.length c0_2]] rfl (by (try simp only [List.map_toArray, List.map_cons, List.map_nil]); first | done | rfl | (simp only [List.length_drop, List.length_take]; rfl)) ?_; (with_reducible refine (tallymanref19_GoodFrame.calls a0_0 a0_1 _ _ l0_2 false _ ?side1 ?side2 A2.out).mono ?_); (case side1 => repeat (first | exact (Kd.C_below HR0_2.out HB.out) | (with_reducible refine Kd.C_alloc ?_ _) | (with_reducible refine Kd.C_drewN ?_ _) | (with_reducible refine Kd.C_drew ?_))); (case side2 => exact HC0_2.out); rintro e w37 ⟨rfl, hb⟩; refine ⟨_, rfl, ?_⟩; have n0_ := Aside0.mk (blk_below (g := gb666) (o := .cells #[.bool a0_0, .int .u64 a0_1, .slice A0_2 l0_2.length c0_2] 75 (0, 0)) (by (with_reducible repeat (first | refine blk_drewN ?_ _ | refine blk_drew ?_ | refine blk_alloc ?_ _)); exact BK666.out) hb); have n1_ := Aside0.mk (below_step (by repeat (first | (with_reducible first | exact HB.out | apply below_alloc | apply pw_below_drewN | apply below_drew1 | refine below_set ?_ GE666.out) | exact HB.out)) hb); clear BK666; clear HB; have BK666 := n0_; have HB := n1_; clear n0_ n1_; (try clear hb); (try clear hb2); (try clear hk); (try clear hi)))
    go_ret
    exact ⟨_, by first | rfl | (simp [errW_none, errW_some] <;> rfl) | (simp [*, errW_none, errW_some] <;> rfl), by first | exact Kd.R_nil _ _ _ _ _ | exact Kd.N_nil _ _ _ _ _ | exact Kd.V_nil _ _ _ _ _ | exact Kd.Q_nil _ _ _ _ _ | exact Kd.S_nil _ _ _ _ _, by repeat (first | (with_reducible first | exact HB.out | apply below_alloc | apply pw_below_drewN | apply below_drew1 | refine below_set ?_ GE666.out) | exact HB.out)⟩

end Go.Proofs.Ytlaojndlelcdaaa.P
