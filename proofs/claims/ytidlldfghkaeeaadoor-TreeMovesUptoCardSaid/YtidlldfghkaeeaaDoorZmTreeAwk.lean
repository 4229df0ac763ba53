/- Put together by pack.py: TreeAwk -/
import Derived.Test.YtidlldfghkaeeaaDoorZmTreeLaws
namespace Go.Proofs.YtidlldfghkaeeaaDoor.P
open Go.RowKit Go.Proofs.YtidlldfghkaeeaaDoorW.PrintWords Go.Proofs.YtidlldfghkaeeaaDoorW.PrintLast Go.Proofs.YtidlldfghkaeeaaDoorW.PrintMore
set_option linter.unusedVariables false
set_option linter.unusedSimpArgs false
instance : DecidableEq S30 := fun a b => if h : a.f0 = b.f0 ∧ a.f1 = b.f1 ∧ a.f2 = b.f2 then isTrue (by cases a; cases b; simp_all) else isFalse (by rintro rfl; exact h ⟨rfl, rfl, rfl⟩)
def aw1 : List S30 := [⟨⟨#[97]⟩, true, []⟩]
def aw2 : List S30 := [⟨⟨#[97]⟩, true, []⟩, ⟨⟨#[97, 47, 98]⟩, false, [120]⟩]
theorem aw_make : make0 [] ⟨#[97]⟩ = (aw1, 0) := by decide +kernel
theorem aw_put : put0 aw1 ⟨#[97, 47, 98]⟩ [120] = (aw2, 0) := by decide +kernel
theorem aw_good : GT30 aw2 := by decide +kernel
def tallymanlaw8_awake.f : Option Bool := some true
set_option maxHeartbeats 8000000 in
set_option maxRecDepth 100000 in
theorem tallymanlaw8_awake.calls (r : Bool) (w : World) (h : tallymanlaw8_awake.f = some r) :
    Calls Tryd.prog 13 #[] w fun e w' => e = .returned (.bool r) ∧ Below w.heap.size w w' := by
  obtain rfl := Option.some.inj h
  have hu26 := Tryd.underlying26
  have e1 : tree_Make.f [] ⟨#[97]⟩ = some (aw1, 0) := by rw [tree_Make.eq (by decide) (by decide), aw_make]
  have e2 : tree_Put.f aw1 ⟨#[97, 47, 98]⟩ [120] = some (aw2, 0) := by rw [tree_Put.eq (by decide) (by decide) (by decide), aw_put]
  have e3 : tree_Good.f aw2 = some true := by rw [tree_Good.eq (by decide), decide_eq_true aw_good]
  go_enter Tryd.func13, Tryd.ntmps13
  go_wp2_with (fail)
  refine (tree_Make.calls (fun _ => False) none 0 [] ⟨#[97]⟩ aw1 0 w (Kd.V_nil _ _ _ _ _) e1).mono ?_
  rintro e W1 ⟨v1, rfl, hV1, hb1⟩
  have hV1' := hV1
  obtain ⟨A1, c1, rfl⟩ := Kd.V_slice hV1
  clear e1
  dsimp only
  have bk := blk_new W1 (.cells #[.slice A1 aw1.length c1] 26)
  have bB := below_alloc hb1 (.cells #[.slice A1 aw1.length c1] 26)
  have m1 := blk_cell bk 0
  have hbs := hb1.size
  have hVq := Kd.V_alloc (Kd.V_bound hV1) (.cells #[.slice A1 aw1.length c1] 26)
  clear hV1 hV1' hb1
  go_wp2_with (refine gate_dst (N := 11) rfl ?_; refine Stop.out ?_)
  obtain ⟨gb, hgb⟩ : ∃ gb, gb = W1.heap.size := ⟨_, rfl⟩
  rw [← hgb] at bk m1 hVq ⊢
  have hgw : w.heap.size ≤ gb := by rw [hgb]; exact hbs
  clear hgb hbs
  generalize W1.alloc (.cells #[.slice A1 aw1.length c1] 26) = Wq at *
  constructor
  go_wp2_with ((with_reducible refine gate_dst (N := 12) rfl ?_); refine V_mlit (xs := [120]) (n := 1) (N := 12) ?hg ?hd (.tmp 11) (t := 23) (e := 5) rfl rfl Tryd.underlying23 Tryd.underlying5 rfl rfl (by decide) ?_; (case hd => rfl); (case hg => rfl); intro vx wx hv bx hg_ hnew; refine Stop.out ?_)
  obtain ⟨Ax, cx, rfl, hcx, hFx⟩ := hv
  have bk2 := (bx.block _ (blk_lt bk)).trans bk
  have bB2 := bB.trans (bx.mono bB.size)
  have m2 := blk_cell bk2 0
  have hV2 := Kd.V_below hVq bx
  have hxs := bx.size
  clear m1 hg_ hnew bB
  constructor
  go_wp2_with (fail)
  refine (tree_Put.calls _ A1 c1 aw1 ⟨#[97, 47, 98]⟩ Ax cx [120] aw2 0 wx hV2 (Kd.F_now hFx) hcx e2).mono ?_
  rintro e W3 ⟨v3, rfl, hV3, hb3⟩
  obtain ⟨A3, c3, rfl⟩ := Kd.V_slice hV3
  have hc3 := (Kd.V_reads' hV3).2
  have bk3 := (hb3.block _ (blk_lt bk2)).trans bk2
  have bk4 := blk_put (cs := #[.slice A1 aw1.length c1]) bk3 0 (.slice A3 aw2.length c3) rfl
  have bB3 := bB2.trans (hb3.mono bB2.size)
  clear bk2 bB2 m2 hV2 bx
  dsimp only
  have m3 := blk_cell bk3 0
  have f3 := blk_frozen bk3 0
  have hgx : gb < wx.heap.size := Nat.lt_of_lt_of_le (blk_lt bk) hxs
  have hV4 := Kd.V_far (p := ⟨gb, 0, none⟩) hV3 (fun k hk => by show k ≠ gb; rcases hk with hk | hk <;> omega) (.slice A3 aw2.length c3)
  have bB4 := bB3.setCell (p := ⟨gb, 0, none⟩) hgw (.slice A3 aw2.length c3)
  obtain ⟨ad, A5, c5, rfl, k0, k1, k2, k3, k4⟩ := atT (Kd.V_reads' hV4).2.2 0 (by decide)
  obtain ⟨ad', A6, c6, e6, l0, l1, l2, l3, l4⟩ := atT (Kd.V_reads' hV4).2.2 1 (by decide)
  obtain rfl : ad = ad' := by injection e6
  have hcv := Kd.C_string (P := Tryd.prog) (A := A6) (c := c6) Tryd.underlying23 Tryd.underlying5 Tryd.underlying9 l4
  have HV4 := Aside0.mk hV4
  have HC3 := Aside0.mk hc3
  have q1 : (W3.setCell ⟨gb, 0, none⟩ (.slice (some ad) aw2.length c3)).cell? ⟨ad.block, ad.off + 1, none⟩ = some (.bool true) := by
    have h := k1
    rw [show ad.add (0 * 3) = ad by simp [Addr.add]] at h
    exact h
  have q2 : (W3.setCell ⟨gb, 0, none⟩ (.slice (some ad) aw2.length c3)).cell? ⟨ad.block, ad.off + 3 + 2, none⟩ = some (.slice A6 1 c6) := by
    have h := l2
    simp only [Nat.one_mul, Addr.add, show ¬ (3 = 0) by decide, if_false] at h
    exact h
  have q3 : (convert 23 9 (.slice A6 1 c6)).run Tryd.prog (W3.setCell ⟨gb, 0, none⟩ (.slice (some ad) aw2.length c3)) = .ok (.string ⟨#[120]⟩) (W3.setCell ⟨gb, 0, none⟩ (.slice (some ad) aw2.length c3)) := hcv
  clear k1 l2 hcv
  clear k0 k2 l0 l1 e6 hV3 hVq hFx hV4 hc3 l4 k4
  go_wp2_with (fail)
  refine (tree_Good.calls (some ad) c3 aw2 true _ (Kd.V_reads' HV4.out).2.2 HC3.out.1 e3).mono ?_
  rintro e W5 ⟨rfl, hb5⟩
  have bB5 := bB4.trans (hb5.mono bB4.size)
  dsimp only
  go_wp2_with (fail)
  go_ret
  exact ⟨rfl, bB5⟩
end Go.Proofs.YtidlldfghkaeeaaDoor.P
