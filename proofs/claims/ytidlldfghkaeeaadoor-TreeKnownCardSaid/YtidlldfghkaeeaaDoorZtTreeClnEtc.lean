/- Put together by pack2.py: TreeCln, TreeAwk, PfTallymanlaw8Texts, TreeKp -/
import Derived.Test.YtidlldfghkaeeaaDoorZtPfTreeKidsEtc
import Derived.Test.YtidlldfghkaeeaaDoorZtDelFEtc
import Derived.Test.YtidlldfghkaeeaaDoorZtPfTreeMakeEtc
import Derived.Test.YtidlldfghkaeeaaDoorZtOwn53Etc
import Derived.Test.YtidlldfghkaeeaaDoorZtTreeMov
import Derived.Test.YtidlldfghkaeeaaDoorZtW0
section
namespace Go.Proofs.YtidlldfghkaeeaaDoor.P
open Go.RowKit Go.Proofs.YtidlldfghkaeeaaDoorW.PrintWords Go.Proofs.YtidlldfghkaeeaaDoorW.PrintLast Go.Proofs.YtidlldfghkaeeaaDoorW.PrintMore
set_option linter.unusedVariables false
set_option linter.unusedSimpArgs false

theorem copied_l0 (l : List S30) (hl : l.length ≤ 100000) (hb : ∀ x ∈ l, x.f2.length ≤ 1000000000000) : ∀ (d i k : Nat) (acc : List S30), i + d = l.length → d < k → acc.length ≤ i → tree_copied.l0 k l (l.length : Int) (i : Int) acc = some (acc ++ l.drop i)
  | 0, i, k, acc, hd, hk, ha => by
    obtain ⟨k, rfl⟩ : ∃ m, k = m + 1 := ⟨k - 1, by omega⟩
    rw [tree_copied.l0, if_neg (by omega), List.drop_eq_nil_of_le (by omega), List.append_nil]
  | d + 1, i, k, acc, hd, hk, ha => by
    obtain ⟨k, rfl⟩ : ∃ m, k = m + 1 := ⟨k - 1, by omega⟩
    have hi : i < l.length := by omega
    have hw : wrap64 ((i : Int) + 1) = ((i + 1 : Nat) : Int) := wr1 (by omega)
    rw [tree_copied.l0, if_pos (by omega), if_pos (by omega), if_pos (by omega), rdT hi, own_eq (hb _ (List.getElem_mem hi)), Option.bind_some, if_pos (by omega), hw, copied_l0 l hl hb d (i + 1) k _ (by omega) (by omega) (by rw [List.length_append, List.length_singleton]; omega), List.drop_eq_getElem_cons hi, List.append_assoc, List.singleton_append]
theorem tree_copied.eq {l : List S30} {k : Nat} (h : okT l) (hk : l.length < k) : tree_copied.f k l = some l := by
  unfold tree_copied.f
  have h1 := okP_iff.1 h.1
  have h2 := copied_l0 l h1.2 (fun x hx => by have := nB_mem hx; have := h.2; omega) l.length 0 k [] (by omega) hk (Nat.zero_le _)
  rw [List.drop_zero, List.nil_append] at h2
  exact h2
def clean0 (l : List S30) : List S30 := if GT30 l then l.filter (fun x => !insB x) else l
def tree_Clean.f (l : List S30) : Option (List S30) := if okT l then some (clean0 l) else none
set_option maxHeartbeats 8000000 in
set_option maxRecDepth 100000 in
theorem tree_Clean.calls (P0_0_ : Nat → Prop) (A0_0 : Option Addr) (c0_0 : Nat) (l0_0 : List S30) (r : List S30) (w : World) (hs0_0 : Kd.V k30 30 w w.heap.size (fun k_ => P0_0_ k_) (.slice A0_0 l0_0.length c0_0) l0_0) (h : tree_Clean.f l0_0 = some r) :
    Calls Tryd.prog 27 #[.agg #[.slice A0_0 l0_0.length c0_0]] w fun e w' => ∃ v0_ : Value, e = .returned (.agg #[v0_]) ∧ Kd.V k30 30 w' w.heap.size (fun k_ => (P0_0_ k_ ∨ w.heap.size ≤ k_)) v0_ r ∧ Below w.heap.size w w' := by
  unfold tree_Clean.f at h
  split at h
  · rename_i hok
    have hr := (Option.some.inj h).symm
    clear h
    have hu26 := Tryd.underlying26
    have hu30 := Tryd.underlying30
    have HS := Aside0.mk hs0_0
    have HRR := Aside0.mk hr
    have hC0 := (Kd.V_reads' hs0_0).2.2
    have hc0 := (Kd.V_reads' hs0_0).2.1
    have hge := tree_Good.eq hok
    have hce := tree_copied.eq (k := 100001) hok (by have := (okP_iff.1 hok.1).2; omega)
    have HOK := Aside0.mk (okP_iff.1 hok.1)
    obtain ⟨gd, hgd⟩ : ∃ gd, gd = decide (GT30 l0_0) := ⟨_, rfl⟩
    rw [← hgd] at hge
    have HGD := Aside0.mk hgd
    clear hgd hr hs0_0 hok
    have X0 := By.new w (.slice A0_0 l0_0.length c0_0)
    obtain ⟨m20, m40, f40⟩ := X0.cells
    go_enter Tryd.func27, Tryd.ntmps27
    go_wp2_with (fail)
    refine (tree_Good.calls A0_0 c0_0 l0_0 gd _ (Kd.C_below hC0 X0.b) hc0 hge).mono ?_
    rintro e W1 ⟨rfl, hb1⟩
    have X1 := X0.below hb1
    clear X0 hb1 hge m20 m40 f40
    dsimp only
    obtain ⟨m20, m40, f40⟩ := X1.cells
    cases gd with
    | false =>
      go_wp2_with (fail)
      refine bodyPost_ret (results_cell_row rfl _ _ (w.heap.size + 1) 26 #[.slice A0_0 l0_0.length c0_0] (0, 0) _ rfl (blk_put (cs := #[.slice none 0 0]) X1.k4 0 _ rfl) Tryd.underlying26 rfl (by kernel_rfl)) rfl ?_
      obtain rfl : r = l0_0 := by rw [HRR.out, clean0, if_neg (of_decide_eq_false HGD.out.symm)]
      exact ⟨_, rfl, V_came HS.out X1.b (by omega) _, X1.b.setCell (p := ⟨w.heap.size + 1, 0, none⟩) (by show w.heap.size ≤ w.heap.size + 1; omega) _⟩
    | true =>
      go_wp2_with (fail)
      refine (tree_copied.calls 100001 A0_0 c0_0 l0_0 l0_0 _ (Kd.C_below hC0 X1.b) hc0 hce).mono ?_
      rintro e W2 ⟨v2, rfl, hS2, hb2⟩
      have hN2 := Kd.S_N hS2
      obtain ⟨A2, c2, rfl⟩ := Kd.N_slice hN2
      have hs1 : w.heap.size + 2 ≤ W1.heap.size := by have := blk_lt X1.k4; omega
      have hs2 := hb2.size
      have X2 := (X1.below hb2).below (below_alloc (Below.refl _ W2) (.cells #[.slice A2 l0_0.length c2] 26))
      have bk2 := blk_new W2 (.cells #[.slice A2 l0_0.length c2] 26)
      have hNb : Kd.N k30 30 (W2.alloc (.cells #[.slice A2 l0_0.length c2] 26)) W1.heap.size (fun k => W1.heap.size ≤ k ∧ k ≠ W2.heap.size) (.slice A2 l0_0.length c2) l0_0 := by
        exact Kd.N_alloc (Kd.S_N (Kd.S_mono (Kd.S_bound hS2) fun k hk => ⟨hk.2.1, by have := hk.2.2.1; omega⟩)) _
      clear X1 hb2 hS2 hN2 hce m20 m40 f40
      dsimp only
      obtain ⟨m20, m40, f40⟩ := X2.cells
      have m3 := blk_cell bk2 0
      go_wp2_with (fail)
      refine (DeleteFE_calls W1.heap.size _ _ l0_0 _ hNb (by rw [World.size_alloc]; omega) HOK.out.2 HOK.out.1 (fun k hk => ⟨by rw [World.size_alloc] at hk; omega, by rw [World.size_alloc] at hk; omega⟩)).mono ?_
      rintro e W3 ⟨v3, rfl, hN3, hb3, hk3⟩
      obtain ⟨A3, c3, rfl⟩ := Kd.N_slice hN3
      have X3 := X2.belowB hs1 hb3
      have bk3 := (hk3 W2.heap.size (by rw [World.size_alloc]; omega) (by
        intro e
        have := Kd.N_lt hNb W2.heap.size e.symm
        have hh := hNb.1 W2.heap.size e.symm
        exact hh.2 rfl)).trans bk2
      have bk4 := blk_put (cs := #[.slice A2 l0_0.length c2]) bk3 0 (.slice A3 (l0_0.filter fun x => !insB x).length c3) rfl
      have m3' := blk_cell bk3 0
      have f3 := blk_frozen bk3 0
      have m4 := blk_cell bk4 0
      have hw2 : w.heap.size + 2 ≤ W2.heap.size := by omega
      have hV3 := Kd.V_far (base := w.heap.size) (p := ⟨W2.heap.size, 0, none⟩) (Kd.N_V hN3) (fun k hk => hk.2) (.slice A3 (l0_0.filter fun x => !insB x).length c3)
      have X4 : By w (W3.setCell ⟨W2.heap.size, 0, none⟩ (.slice A3 (l0_0.filter fun x => !insB x).length c3)) (.slice A0_0 l0_0.length c0_0) :=
        ⟨X3.b.setCell (p := ⟨W2.heap.size, 0, none⟩) (by show w.heap.size ≤ W2.heap.size; omega) _, (Below.heap_setCell _ _ _ _ (show w.heap.size ≠ W2.heap.size by omega)).trans X3.k2, (Below.heap_setCell _ _ _ _ (show w.heap.size + 1 ≠ W2.heap.size by omega)).trans X3.k4⟩
      have HV3 := Aside0.mk hV3
      have HRS : Aside0 (r = l0_0.filter fun x => !insB x) := ⟨by rw [HRR.out, clean0, if_pos (of_decide_eq_true HGD.out.symm)]⟩
      obtain ⟨fl, hfl⟩ : ∃ fl, fl = l0_0.filter fun x => !insB x := ⟨_, rfl⟩
      rw [← hfl] at HV3 HRS m4 X4 ⊢
      obtain ⟨m20', m40', f40'⟩ := X4.cells
      clear hfl hV3 hN3 hNb hk3 hb3 bk2 bk3 bk4 m3 m20 m40 f40 X2
      dsimp only
      go_wp2_with (fail)
      refine bodyPost_ret (results_cell_row rfl _ _ (w.heap.size + 1) 26 #[.slice A3 fl.length c3] (0, 0) _ rfl (blk_put (cs := #[.slice none 0 0]) X4.k4 0 _ rfl) Tryd.underlying26 rfl (by kernel_rfl)) rfl ?_
      obtain rfl : r = fl := HRS.out
      refine ⟨_, rfl, Kd.V_mono (Kd.V_far (p := ⟨w.heap.size + 1, 0, none⟩) HV3.out (fun k hk => ?_) _) (fun k hk => .inr (by have := hk.1; omega)), X4.b.setCell (p := ⟨w.heap.size + 1, 0, none⟩) (by show w.heap.size ≤ w.heap.size + 1; omega) _⟩
      show k ≠ w.heap.size + 1
      have := hk.1
      omega
  · cases h
end Go.Proofs.YtidlldfghkaeeaaDoor.P
end
section
namespace Go.Proofs.YtidlldfghkaeeaaDoor.P
open Go.RowKit Go.Proofs.YtidlldfghkaeeaaDoorW.PrintWords Go.Proofs.YtidlldfghkaeeaaDoorW.PrintLast Go.Proofs.YtidlldfghkaeeaaDoorW.PrintMore
set_option linter.unusedVariables false
set_option linter.unusedSimpArgs false
instance : DecidableEq S30 := fun a b => if h : a.f0 = b.f0 ∧ a.f1 = b.f1 ∧ a.f2 = b.f2 then isTrue (by cases a; cases b; simp_all) else isFalse (by rintro rfl; exact h ⟨rfl, rfl, rfl⟩)
def aw1 : List S30 := [⟨⟨#[97]⟩, true, []⟩]
def aw2 : List S30 := [⟨⟨#[97]⟩, true, []⟩, ⟨⟨#[97, 47, 98]⟩, false, [120]⟩]
theorem aw_make : make0 [] ⟨#[97]⟩ = (aw1, 0) := by decide +kernel
theorem aw_put : put0 aw1 ⟨#[97, 47, 98]⟩ [120] = (aw2, 0) := by decide +kernel
theorem aw_good : GT30 aw2 := by decide +kernel
def tallymanlaw8_awake.f : Option Bool := some true
set_option maxHeartbeats 8000000 in
set_option maxRecDepth 100000 in
theorem tallymanlaw8_awake.calls (r : Bool) (w : World) (h : tallymanlaw8_awake.f = some r) :
    Calls Tryd.prog 13 #[] w fun e w' => e = .returned (.bool r) ∧ Below w.heap.size w w' := by
  obtain rfl := Option.some.inj h
  have hu26 := Tryd.underlying26
  have e1 : tree_Make.f [] ⟨#[97]⟩ = some (aw1, 0) := by rw [tree_Make.eq (by decide) (by decide), aw_make]
  have e2 : tree_Put.f aw1 ⟨#[97, 47, 98]⟩ [120] = some (aw2, 0) := by rw [tree_Put.eq (by decide) (by decide) (by decide), aw_put]
  have e3 : tree_Good.f aw2 = some true := by rw [tree_Good.eq (by decide), decide_eq_true aw_good]
  go_enter Tryd.func13, Tryd.ntmps13
  go_wp2_with (fail)
  refine (tree_Make.calls (fun _ => False) none 0 [] ⟨#[97]⟩ aw1 0 w (Kd.V_nil _ _ _ _ _) e1).mono ?_
  rintro e W1 ⟨v1, rfl, hV1, hb1⟩
  have hV1' := hV1
  obtain ⟨A1, c1, rfl⟩ := Kd.V_slice hV1
  clear e1
  dsimp only
  have bk := blk_new W1 (.cells #[.slice A1 aw1.length c1] 26)
  have bB := below_alloc hb1 (.cells #[.slice A1 aw1.length c1] 26)
  have m1 := blk_cell bk 0
  have hbs := hb1.size
  have hVq := Kd.V_alloc (Kd.V_bound hV1) (.cells #[.slice A1 aw1.length c1] 26)
  clear hV1 hV1' hb1
  go_wp2_with (refine gate_dst (N := 11) rfl ?_; refine Stop.out ?_)
  obtain ⟨gb, hgb⟩ : ∃ gb, gb = W1.heap.size := ⟨_, rfl⟩
  rw [← hgb] at bk m1 hVq ⊢
  have hgw : w.heap.size ≤ gb := by rw [hgb]; exact hbs
  clear hgb hbs
  generalize W1.alloc (.cells #[.slice A1 aw1.length c1] 26) = Wq at *
  constructor
  go_wp2_with ((with_reducible refine gate_dst (N := 12) rfl ?_); refine V_mlit (xs := [120]) (n := 1) (N := 12) ?hg ?hd (.tmp 11) (t := 23) (e := 5) rfl rfl Tryd.underlying23 Tryd.underlying5 rfl rfl (by decide) ?_; (case hd => rfl); (case hg => rfl); intro vx wx hv bx hg_ hnew; refine Stop.out ?_)
  obtain ⟨Ax, cx, rfl, hcx, hFx⟩ := hv
  have bk2 := (bx.block _ (blk_lt bk)).trans bk
  have bB2 := bB.trans (bx.mono bB.size)
  have m2 := blk_cell bk2 0
  have hV2 := Kd.V_below hVq bx
  have hxs := bx.size
  clear m1 hg_ hnew bB
  constructor
  go_wp2_with (fail)
  refine (tree_Put.calls _ A1 c1 aw1 ⟨#[97, 47, 98]⟩ Ax cx [120] aw2 0 wx hV2 (Kd.F_now hFx) hcx e2).mono ?_
  rintro e W3 ⟨v3, rfl, hV3, hb3⟩
  obtain ⟨A3, c3, rfl⟩ := Kd.V_slice hV3
  have hc3 := (Kd.V_reads' hV3).2
  have bk3 := (hb3.block _ (blk_lt bk2)).trans bk2
  have bk4 := blk_put (cs := #[.slice A1 aw1.length c1]) bk3 0 (.slice A3 aw2.length c3) rfl
  have bB3 := bB2.trans (hb3.mono bB2.size)
  clear bk2 bB2 m2 hV2 bx
  dsimp only
  have m3 := blk_cell bk3 0
  have f3 := blk_frozen bk3 0
  have hgx : gb < wx.heap.size := Nat.lt_of_lt_of_le (blk_lt bk) hxs
  have hV4 := Kd.V_far (p := ⟨gb, 0, none⟩) hV3 (fun k hk => by show k ≠ gb; rcases hk with hk | hk <;> omega) (.slice A3 aw2.length c3)
  have bB4 := bB3.setCell (p := ⟨gb, 0, none⟩) hgw (.slice A3 aw2.length c3)
  obtain ⟨ad, A5, c5, rfl, k0, k1, k2, k3, k4⟩ := atT (Kd.V_reads' hV4).2.2 0 (by decide)
  obtain ⟨ad', A6, c6, e6, l0, l1, l2, l3, l4⟩ := atT (Kd.V_reads' hV4).2.2 1 (by decide)
  obtain rfl : ad = ad' := by injection e6
  have hcv := Kd.C_string (P := Tryd.prog) (A := A6) (c := c6) Tryd.underlying23 Tryd.underlying5 Tryd.underlying9 l4
  have HV4 := Aside0.mk hV4
  have HC3 := Aside0.mk hc3
  have q1 : (W3.setCell ⟨gb, 0, none⟩ (.slice (some ad) aw2.length c3)).cell? ⟨ad.block, ad.off + 1, none⟩ = some (.bool true) := by
    have h := k1
    rw [show ad.add (0 * 3) = ad by simp [Addr.add]] at h
    exact h
  have q2 : (W3.setCell ⟨gb, 0, none⟩ (.slice (some ad) aw2.length c3)).cell? ⟨ad.block, ad.off + 3 + 2, none⟩ = some (.slice A6 1 c6) := by
    have h := l2
    simp only [Nat.one_mul, Addr.add, show ¬ (3 = 0) by decide, if_false] at h
    exact h
  have q3 : (convert 23 9 (.slice A6 1 c6)).run Tryd.prog (W3.setCell ⟨gb, 0, none⟩ (.slice (some ad) aw2.length c3)) = .ok (.string ⟨#[120]⟩) (W3.setCell ⟨gb, 0, none⟩ (.slice (some ad) aw2.length c3)) := hcv
  clear k1 l2 hcv
  clear k0 k2 l0 l1 e6 hV3 hVq hFx hV4 hc3 l4 k4
  go_wp2_with (fail)
  refine (tree_Good.calls (some ad) c3 aw2 true _ (Kd.V_reads' HV4.out).2.2 HC3.out.1 e3).mono ?_
  rintro e W5 ⟨rfl, hb5⟩
  have bB5 := bB4.trans (hb5.mono bB4.size)
  dsimp only
  go_wp2_with (fail)
  go_ret
  exact ⟨rfl, bB5⟩
end Go.Proofs.YtidlldfghkaeeaaDoor.P
end
section
namespace Go.Proofs.YtidlldfghkaeeaaDoor.P
open Go.RowKit Go.Proofs.YtidlldfghkaeeaaDoorW.PrintWords Go.Proofs.YtidlldfghkaeeaaDoorW.PrintLast Go.Proofs.YtidlldfghkaeeaaDoorW.PrintMore
attribute [local go_sem] max2_int min2_int max_two min_two max_three min_three max_four min_four   -- for this text's walks alone
set_option linter.unusedVariables false
set_option linter.unusedSimpArgs false
/-! ### tallymanlaw8_texts: function 30 -/
def tallymanlaw8_texts.l0 : Nat → List ByteArray → List ByteArray → Int → Option (Bool)
 | 0, _, _, _ => none
 | k + 1, x0, x1, x5 => if x5 < (x0.length : Int) then (if 0 ≤ x5 then (if x5 < (x1.length : Int) then (if (rdOf ByteArray.empty x0 x5).toList = (rdOf ByteArray.empty x1 x5).toList then (tallymanlaw8_texts.l0 k x0 x1 (wrap64 (x5 + 1))) else (some false)) else (none)) else (none)) else (some true)
def tallymanlaw8_texts.f (k : Nat) (l0 : List ByteArray) (l1 : List ByteArray) : Option (Bool) := if (l0.length : Int) = (l1.length : Int) then (tallymanlaw8_texts.l0 k l0 l1 0) else (some false)
set_option maxHeartbeats 8000000 in
set_option maxRecDepth 100000 in
theorem tallymanlaw8_texts.calls (k : Nat) (A0 : Option Addr) (c0 : Nat) (l0 : List ByteArray) (A1 : Option Addr) (c1 : Nat) (l1 : List ByteArray) (r : Bool) (w : World) (hr0 : Kd.C Kd.string w A0 l0.length l0) (hc0 : l0.length ≤ c0) (hr1 : Kd.C Kd.string w A1 l1.length l1) (hc1 : l1.length ≤ c1) (h : tallymanlaw8_texts.f k l0 l1 = some r) :
  Calls Tryd.prog 30 #[.slice A0 l0.length c0, .slice A1 l1.length c1] w fun e w' => e = .returned (.bool r) ∧ Drawn0 w w' := by
 have HR0 := Aside0.mk hr0
 have HC0 := Aside0.mk hc0
 clear hr0 hc0
 have HR1 := Aside0.mk hr1
 have HC1 := Aside0.mk hc1
 clear hr1 hc1
 have H : (if (l0.length : Int) = (l1.length : Int) then (tallymanlaw8_texts.l0 k l0 l1 0) else (some false)) = some r := h
 clear h
 by_cases c3 : (l0.length : Int) = (l1.length : Int)
 ·rw [if_pos c3] at H
  have c3b0 : ((l0.length : Int) == (l1.length : Int)) = true := beq_iff_eq.mpr c3
  have c3b1 : ((l0.length : Int) != (l1.length : Int)) = false := bne_eq_false_iff_eq.mpr c3
  have c3b2 : (l0.length == l1.length) = true := by first | simpa using c3 | (simp at c3 ⊢; omega)
  clear c3
  have H' := Aside0.mk H
  clear H
  go_enter Tryd.func30, Tryd.ntmps30
  go_wp2
  repeat (go_quiet (fail); try go_wp2)
  go_loopg [5] k (fun kq v5 w' => ∃ (x5_1 : Int), v5 = .int .i64 x5_1 ∧ Aside0 (tallymanlaw8_texts.l0 kq l0 l1 x5_1 = some r) ∧ Aside0 (kq ≤ k) ∧ Drawn0 w w')
  case atStart => exact ⟨(0), (by first | rfl | (simp; done) | (simp [*]; done)), H', ⟨Nat.le_refl _⟩, by repeat (first | exact Drawn0.refl _ | apply Drawn0.step)⟩
  case round =>
   clear H'
   try clear c1
   try clear p2
   try clear c3
   try clear c3b0
   try clear c3b1
   try clear c3b2
   obtain ⟨x5_1, rfl, HA, HK1, ⟨m1, rfl⟩⟩ := hrel
   cases gk with
   | zero => exact absurd HA.out (by simp [tallymanlaw8_texts.l0])
   | succ k1 =>
    have H := HA.out
    clear HA
    simp only [tallymanlaw8_texts.l0] at H
    by_cases c4 : x5_1 < (l0.length : Int)
    ·rw [if_pos c4] at H
     have c4b0 : decide (x5_1 < (l0.length : Int)) = true := decide_eq_true c4
     clear c4
     by_cases c5 : 0 ≤ x5_1
     ·rw [if_pos c5] at H
      have c5b0 : decide (0 ≤ x5_1) = true := decide_eq_true c5
      clear c5
      by_cases c6 : x5_1 < (l1.length : Int)
      ·rw [if_pos c6] at H
       have c6b0 : decide (x5_1 < (l1.length : Int)) = true := decide_eq_true c6
       clear c6
       by_cases c7 : (rdOf ByteArray.empty l0 x5_1).toList = (rdOf ByteArray.empty l1 x5_1).toList
       ·rw [if_pos c7] at H
        have c7b0 : ((rdOf ByteArray.empty l0 x5_1).toList == (rdOf ByteArray.empty l1 x5_1).toList) = true := beq_iff_eq.mpr c7
        have c7b1 : ((rdOf ByteArray.empty l0 x5_1).toList != (rdOf ByteArray.empty l1 x5_1).toList) = false := bne_eq_false_iff_eq.mpr c7
        clear c7
        have H' := Aside0.mk H
        clear H
        have p187 : 0 ≤ (x5_1 : Int) := of_decide_eq_true (by first | (with_reducible assumption) | assumption)
        have q187 : x5_1 < (l0.length : Int) := of_decide_eq_true (by first | (with_reducible assumption) | assumption)
        obtain ⟨ad187, e187, hx187_0⟩ := Kd.at_string HR0.out x5_1 p187 q187
        cases e187
        replace p187 := eq_true p187
        replace q187 := eq_true q187
        have p188 : 0 ≤ (x5_1 : Int) := of_decide_eq_true (by first | (with_reducible assumption) | assumption)
        have q188 : x5_1 < (l1.length : Int) := of_decide_eq_true (by first | (with_reducible assumption) | assumption)
        obtain ⟨ad188, e188, hx188_0⟩ := Kd.at_string HR1.out x5_1 p188 q188
        cases e188
        replace p188 := eq_true p188
        replace q188 := eq_true q188
        go_wp2
        repeat (go_quiet (fail); try go_wp2)
        go_roundg k1
        case measure => have := HK1.out; omega
        case rel => exact ⟨(wrap64 (x5_1 + 1)), (by first | rfl | (simp; done) | (simp [*]; done)), H', ⟨by have := HK1.out; omega⟩, by repeat (first | exact Drawn0.refl _ | apply Drawn0.step)⟩
       ·rw [if_neg c7] at H
        have c7b0 : ((rdOf ByteArray.empty l0 x5_1).toList == (rdOf ByteArray.empty l1 x5_1).toList) = false := beq_eq_false_iff_ne.mpr c7
        have c7b1 : ((rdOf ByteArray.empty l0 x5_1).toList != (rdOf ByteArray.empty l1 x5_1).toList) = true := bne_iff_ne.mpr c7
        obtain rfl := Option.some.inj H
        have p187 : 0 ≤ (x5_1 : Int) := of_decide_eq_true (by first | (with_reducible assumption) | assumption)
        have q187 : x5_1 < (l0.length : Int) := of_decide_eq_true (by first | (with_reducible assumption) | assumption)
        obtain ⟨ad187, e187, hx187_0⟩ := Kd.at_string HR0.out x5_1 p187 q187
        cases e187
        replace p187 := eq_true p187
        replace q187 := eq_true q187
        have p188 : 0 ≤ (x5_1 : Int) := of_decide_eq_true (by first | (with_reducible assumption) | assumption)
        have q188 : x5_1 < (l1.length : Int) := of_decide_eq_true (by first | (with_reducible assumption) | assumption)
        obtain ⟨ad188, e188, hx188_0⟩ := Kd.at_string HR1.out x5_1 p188 q188
        cases e188
        replace p188 := eq_true p188
        replace q188 := eq_true q188
        go_wp2
        repeat (go_quiet (fail); try go_wp2)
        go_ret
        exact ⟨by first | rfl | (simp; done) | (simp [*]; done), by repeat (first | exact Drawn0.refl _ | apply Drawn0.step)⟩
      ·rw [if_neg c6] at H
       exact absurd H (by simp)
     ·rw [if_neg c5] at H
      exact absurd H (by simp)
    ·rw [if_neg c4] at H
     have c4b0 : decide (x5_1 < (l0.length : Int)) = false := decide_eq_false c4
     clear c4
     obtain rfl := Option.some.inj H
     go_wp2
     repeat (go_quiet (fail); try go_wp2)
     go_ret
     exact ⟨by first | rfl | (simp; done) | (simp [*]; done), by repeat (first | exact Drawn0.refl _ | apply Drawn0.step)⟩
 ·rw [if_neg c3] at H
  have c3b0 : ((l0.length : Int) == (l1.length : Int)) = false := beq_eq_false_iff_ne.mpr c3
  have c3b1 : ((l0.length : Int) != (l1.length : Int)) = true := bne_iff_ne.mpr c3
  have c3b2 : (l0.length == l1.length) = false := by first | simpa using c3 | (simp at c3 ⊢; omega)
  obtain rfl := Option.some.inj H
  go_enter Tryd.func30, Tryd.ntmps30
  go_wp2
  repeat (go_quiet (fail); try go_wp2)
  go_ret
  exact ⟨by first | rfl | (simp; done) | (simp [*]; done), by repeat (first | exact Drawn0.refl _ | apply Drawn0.step)⟩

end Go.Proofs.YtidlldfghkaeeaaDoor.P
end
section
namespace Go.Proofs.YtidlldfghkaeeaaDoor.P
open Go.RowKit Go.Proofs.YtidlldfghkaeeaaDoorW.PrintWords Go.Proofs.YtidlldfghkaeeaaDoorW.PrintLast Go.Proofs.YtidlldfghkaeeaaDoorW.PrintMore
set_option linter.unusedVariables false
set_option linter.unusedSimpArgs false
def kT0 : List S30 := [⟨⟨#[97]⟩, true, []⟩]
def kT1 : List S30 := [⟨⟨#[97]⟩, true, []⟩, ⟨⟨#[97, 47, 98]⟩, false, [120]⟩]
def kTT : List S30 := [⟨⟨#[97]⟩, true, []⟩, ⟨⟨#[97, 47, 98]⟩, false, [120]⟩, ⟨⟨#[99]⟩, false, []⟩]
def kTU : List S30 := [⟨⟨#[97]⟩, true, []⟩, ⟨⟨#[99]⟩, false, []⟩]
def kTO : List S30 := [⟨⟨#[97]⟩, true, []⟩, ⟨⟨#[99]⟩, false, [120]⟩]
def kTB : List S30 := [⟨⟨#[98]⟩, false, []⟩, ⟨⟨#[97]⟩, false, []⟩]
def kW1 : List S30 := [⟨⟨#[46, 119, 111, 114, 107]⟩, true, []⟩, ⟨⟨#[97]⟩, true, []⟩, ⟨⟨#[97, 47, 98]⟩, false, [120]⟩, ⟨⟨#[99]⟩, false, []⟩]
def kW2 : List S30 := [⟨⟨#[46, 119, 111, 114, 107]⟩, true, []⟩, ⟨⟨#[46, 119, 111, 114, 107, 47, 116, 49]⟩, false, [122]⟩, ⟨⟨#[97]⟩, true, []⟩, ⟨⟨#[97, 47, 98]⟩, false, [120]⟩, ⟨⟨#[99]⟩, false, []⟩]
theorem k_m0 : tree_Make.f [] ⟨#[97]⟩ = some (kT0, 0) := by kernel_rfl
theorem k_p1 : tree_Put.f kT0 ⟨#[97, 47, 98]⟩ [120] = some (kT1, 0) := by kernel_rfl
theorem k_p2 : tree_Put.f kT1 ⟨#[99]⟩ [] = some (kTT, 0) := by kernel_rfl
theorem k_f1 : tree_Find.f kTT ⟨#[65]⟩ = some (⟨#[]⟩, false, [], 4) := by kernel_rfl
theorem k_f2 : tree_Find.f kTT ⟨#[122]⟩ = some (⟨#[]⟩, false, [], 5) := by kernel_rfl
theorem k_f3 : tree_Find.f kTT ⟨#[97, 47, 98]⟩ = some (⟨#[97, 47, 98]⟩, false, [120], 0) := by kernel_rfl
theorem k_p3 : tree_Put.f kTT ⟨#[122, 47, 121]⟩ [] = some (kTT, 5) := by kernel_rfl
theorem k_p4 : tree_Put.f kTT ⟨#[99, 47, 121]⟩ [] = some (kTT, 7) := by kernel_rfl
theorem k_p5 : tree_Put.f kTT ⟨#[97]⟩ [] = some (kTT, 7) := by kernel_rfl
theorem k_p6 : tree_Put.f kTT ⟨#[113]⟩ (List.replicate 2049 0) = some (kTT, 9) := by kernel_rfl
theorem k_m1 : tree_Make.f kTT ⟨#[97]⟩ = some (kTT, 6) := by kernel_rfl
theorem k_m2 : tree_Make.f kTT ⟨#[99, 47, 100]⟩ = some (kTT, 7) := by kernel_rfl
theorem k_r1 : tree_Remove.f kTT ⟨#[97]⟩ = some (kTT, 8) := by kernel_rfl
theorem k_r2 : tree_Remove.f kTT ⟨#[113]⟩ = some (kTT, 5) := by kernel_rfl
theorem k_r3 : tree_Remove.f kTT ⟨#[97, 47, 98]⟩ = some (kTU, 0) := by kernel_rfl
theorem k_v1 : tree_Move.f kTT ⟨#[97]⟩ ⟨#[113]⟩ = some (kTT, 7) := by kernel_rfl
theorem k_v2 : tree_Move.f kTT ⟨#[97, 47, 98]⟩ ⟨#[122, 47, 121]⟩ = some (kTT, 5) := by kernel_rfl
theorem k_v3 : tree_Move.f kTT ⟨#[97, 47, 98]⟩ ⟨#[99]⟩ = some (kTO, 0) := by kernel_rfl
theorem k_v4 : tree_Move.f kTT ⟨#[99]⟩ ⟨#[99]⟩ = some (kTT, 0) := by kernel_rfl
theorem k_p7 : tree_Put.f kTB ⟨#[113]⟩ [] = some (kTB, 1) := by kernel_rfl
theorem k_w1 : tree_Make.f kTT ⟨#[46, 119, 111, 114, 107]⟩ = some (kW1, 0) := by kernel_rfl
theorem k_w2 : tree_Put.f kW1 ⟨#[46, 119, 111, 114, 107, 47, 116, 49]⟩ [122] = some (kW2, 0) := by kernel_rfl
theorem k_s1 : tree_Same.f kTT kTT = some true := by kernel_rfl
theorem k_c1 : tree_Clean.f kW2 = some kTT := by kernel_rfl
theorem k_k1 : tree_Kids.f 10 kTT ⟨#[]⟩ = some [⟨#[97]⟩, ⟨#[99]⟩] := by kernel_rfl
theorem k_k2 : tree_Kids.f 10 kTT ⟨#[97]⟩ = some [⟨#[97, 47, 98]⟩] := by kernel_rfl
theorem k_k3 : tree_Kids.f 10 kTT ⟨#[122, 122]⟩ = some [] := by kernel_rfl
theorem k_x1 : tallymanlaw8_texts.f 10 [⟨#[97]⟩, ⟨#[99]⟩] [⟨#[97]⟩, ⟨#[99]⟩] = some true := by kernel_rfl
theorem k_x2 : tallymanlaw8_texts.f 10 [⟨#[97, 47, 98]⟩] [⟨#[97, 47, 98]⟩] = some true := by kernel_rfl
theorem k_b1 : tree_Bytes.f 10 kTT = some 1 := by kernel_rfl
/-! #### the full tree -/
def nmS : ByteArray := ⟨#[97, 98, 99, 100, 101, 102, 103, 104, 105, 106, 107, 108, 109, 110, 111, 112, 113, 114, 115, 116, 117, 118, 119, 120, 121, 122, 48, 49, 50, 51, 52, 53, 54, 55, 56, 57, 45, 95]⟩
def nmI (i : Nat) : ByteArray := ⟨#[nmS.data.getD i 0]⟩
theorem nmI_ok : ∀ i < 38, Gd (nmI i).data.toList ∧ upB (nmI i) = ⟨#[]⟩ := by decide +kernel
theorem nmI_inj : ∀ i < 38, ∀ j < i, nmI j ≠ nmI i := by decide +kernel
theorem nmI_dot : ∀ i < 38, nmI i ≠ ⟨#[97, 46, 98]⟩ ∧ nmI i ≠ ⟨#[97, 46, 99]⟩ ∧ nmI i ≠ ⟨#[97, 46, 100]⟩ := by decide +kernel
theorem dots : (Gd (⟨#[97, 46, 98]⟩ : ByteArray).data.toList ∧ upB ⟨#[97, 46, 98]⟩ = ⟨#[]⟩) ∧ (Gd (⟨#[97, 46, 99]⟩ : ByteArray).data.toList ∧ upB ⟨#[97, 46, 99]⟩ = ⟨#[]⟩) ∧ (Gd (⟨#[97, 46, 100]⟩ : ByteArray).data.toList ∧ upB ⟨#[97, 46, 100]⟩ = ⟨#[]⟩) := by decide +kernel
/-- A tree of n empty directories. -/
structure Fu (n : Nat) (l : List S30) : Prop where
  g : GT30 l
  len : l.length = n
  nb : nB30 l = 0
theorem Fu_nil : Fu 0 [] := ⟨GT_nil, rfl, rfl⟩
section
variable {n : Nat} {l : List S30} {p : ByteArray}
theorem make_new (h : Fu n l) (hp : Gd p.data.toList) (hs : p.size < 4294967280) (hu : upB p = ⟨#[]⟩) (hn : ∀ x ∈ l, x.f0 ≠ p) (hl : n < 40) : tree_Make.f l p = some (insT l p true [], 0) ∧ Fu (n + 1) (insT l p true []) ∧ ∀ x ∈ insT l p true [], x.f0 = p ∨ x ∈ l := by
  have hlen := (ins_len (e := ⟨p, true, []⟩) hn)
  have h1 : (insT l p true []).length = l.length + 1 := hlen.1
  have h2 : nB30 (insT l p true []) = nB30 l + 0 := hlen.2
  have hx : ¬ ∃ x ∈ l, x.f0 = p ∧ x.f1 = true := fun ⟨x, hx, e, _⟩ => hn x hx e
  have hf5 : findE l p = 5 := findE_five.2 ⟨h.g, hp, hn⟩
  have hup : upE l p = 0 := by unfold upE; rw [if_pos hu]
  have hlq := h.len
  have hnq := h.nb
  have hw : with1 l p true [] = (insT l p true [], 0) := by
    unfold with1 with0
    rw [if_pos hup, if_neg hx, if_neg (by rw [h1, h2, List.length_nil]; omega)]
  refine ⟨?_, ⟨GT_ins h.g hp (upE_zero.1 hup) (fun _ => rfl) hx (by omega) (by simp) (by omega), by omega, by omega⟩, fun x hx => ?_⟩
  · rw [tree_Make.eq (GT_okT h.g) hs]
    unfold make0
    rw [if_neg (by rw [hf5]; decide), if_pos hf5, hw]
  · rcases (insE_mem h.g.2.2.1).1 hx with e | e
    · exact .inl (by rw [e])
    · exact .inr e.1
theorem make_full (h : Fu 40 l) (hp : Gd p.data.toList) (hs : p.size < 4294967280) (hu : upB p = ⟨#[]⟩) (hn : ∀ x ∈ l, x.f0 ≠ p) : tree_Make.f l p = some (l, 9) := by
  have hlen := (ins_len (e := ⟨p, true, []⟩) hn)
  have h1 : (insT l p true []).length = l.length + 1 := hlen.1
  have hx : ¬ ∃ x ∈ l, x.f0 = p ∧ x.f1 = true := fun ⟨x, hx, e, _⟩ => hn x hx e
  have hf5 : findE l p = 5 := findE_five.2 ⟨h.g, hp, hn⟩
  have hup : upE l p = 0 := by unfold upE; rw [if_pos hu]
  have hlq := h.len
  have hw : with1 l p true [] = (l, 9) := by
    unfold with1 with0
    rw [if_pos hup, if_neg hx, if_pos (by rw [h1]; omega)]
  rw [tree_Make.eq (GT_okT h.g) hs]
  unfold make0
  rw [if_neg (by rw [hf5]; decide), if_pos hf5, hw]
end
/-- The first n one-letter names. -/
structure Fn (n : Nat) (l : List S30) : Prop where
  fu : Fu n l
  nm : ∀ x ∈ l, ∃ j, j < n ∧ x.f0 = nmI j
theorem Fn_nil : Fn 0 [] := ⟨Fu_nil, fun x hx => by cases hx⟩
theorem nmI_size (i : Nat) : (nmI i).size < 4294967280 := by show 1 < 4294967280; decide
theorem Fn_step {n : Nat} {l : List S30} (h : Fn n l) (hn : n < 38) : tree_Make.f l (nmI n) = some (insT l (nmI n) true [], 0) ∧ Fn (n + 1) (insT l (nmI n) true []) := by
  obtain ⟨g1, g2⟩ := nmI_ok n hn
  obtain ⟨a, b, c⟩ := make_new h.fu g1 (nmI_size n) g2 (fun x hx e => by
    obtain ⟨j, hj, e2⟩ := h.nm x hx
    exact nmI_inj n hn j hj (e2.symm.trans e)) (by omega)
  refine ⟨a, b, fun x hx => ?_⟩
  rcases c x hx with e | e
  · exact ⟨n, by omega, e⟩
  · obtain ⟨j, hj, e⟩ := h.nm x e
    exact ⟨j, by omega, e⟩
/-- The three that come last. -/
theorem Fn_last {l : List S30} (h : Fn 38 l) : ∃ l1 l2, tree_Make.f l ⟨#[97, 46, 98]⟩ = some (l1, 0) ∧ tree_Make.f l1 ⟨#[97, 46, 99]⟩ = some (l2, 0) ∧ tree_Make.f l2 ⟨#[97, 46, 100]⟩ = some (l2, 9) ∧ l2.length = 40 := by
  obtain ⟨⟨b1, b2⟩, ⟨c1, c2⟩, d1, d2⟩ := dots
  have hd : ∀ x ∈ l, x.f0 ≠ ⟨#[97, 46, 98]⟩ ∧ x.f0 ≠ ⟨#[97, 46, 99]⟩ ∧ x.f0 ≠ ⟨#[97, 46, 100]⟩ := fun x hx => by
    obtain ⟨j, hj, e⟩ := h.nm x hx
    rw [e]
    exact nmI_dot j hj
  obtain ⟨m1, f1, x1⟩ := make_new h.fu b1 (by decide) b2 (fun x hx => (hd x hx).1) (by omega)
  obtain ⟨m2, f2, x2⟩ := make_new f1 c1 (by decide) c2 (fun x hx e => by
    rcases x1 x hx with h1 | h1
    · rw [h1] at e; revert e; decide
    · exact (hd x h1).2.1 e) (by omega)
  refine ⟨_, _, m1, m2, make_full f2 d1 (by decide) d2 (fun x hx e => ?_), f2.len⟩
  rcases x2 x hx with h1 | h1
  · rw [h1] at e; revert e; decide
  · rcases x1 x h1 with h2 | h2
    · rw [h2] at e; revert e; decide
    · exact (hd x h2).2.2 e
end Go.Proofs.YtidlldfghkaeeaaDoor.P
end
