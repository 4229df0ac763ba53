/- Put together by pack2.py: TreeCln -/
import Derived.Test.YtidlldfghkaeeaaDoorZsDelEEtc
import Derived.Test.YtidlldfghkaeeaaDoorZsDelFEtc
namespace Go.Proofs.YtidlldfghkaeeaaDoor.P
open Go.RowKit Go.Proofs.YtidlldfghkaeeaaDoorW.PrintWords Go.Proofs.YtidlldfghkaeeaaDoorW.PrintLast Go.Proofs.YtidlldfghkaeeaaDoorW.PrintMore
set_option linter.unusedVariables false
set_option linter.unusedSimpArgs false

theorem copied_l0 (l : List S30) (hl : l.length ≤ 100000) (hb : ∀ x ∈ l, x.f2.length ≤ 1000000000000) : ∀ (d i k : Nat) (acc : List S30), i + d = l.length → d < k → acc.length ≤ i → tree_copied.l0 k l (l.length : Int) (i : Int) acc = some (acc ++ l.drop i)
  | 0, i, k, acc, hd, hk, ha => by
    obtain ⟨k, rfl⟩ : ∃ m, k = m + 1 := ⟨k - 1, by omega⟩
    rw [tree_copied.l0, if_neg (by omega), List.drop_eq_nil_of_le (by omega), List.append_nil]
  | d + 1, i, k, acc, hd, hk, ha => by
    obtain ⟨k, rfl⟩ : ∃ m, k = m + 1 := ⟨k - 1, by omega⟩
    have hi : i < l.length := by omega
    have hw : wrap64 ((i : Int) + 1) = ((i + 1 : Nat) : Int) := wr1 (by omega)
    rw [tree_copied.l0, if_pos (by omega), if_pos (by omega), if_pos (by omega), rdT hi, own_eq (hb _ (List.getElem_mem hi)), Option.bind_some, if_pos (by omega), hw, copied_l0 l hl hb d (i + 1) k _ (by omega) (by omega) (by rw [List.length_append, List.length_singleton]; omega), List.drop_eq_getElem_cons hi, List.append_assoc, List.singleton_append]
theorem tree_copied.eq {l : List S30} {k : Nat} (h : okT l) (hk : l.length < k) : tree_copied.f k l = some l := by
  unfold tree_copied.f
  have h1 := okP_iff.1 h.1
  have h2 := copied_l0 l h1.2 (fun x hx => by have := nB_mem hx; have := h.2; omega) l.length 0 k [] (by omega) hk (Nat.zero_le _)
  rw [List.drop_zero, List.nil_append] at h2
  exact h2
def clean0 (l : List S30) : List S30 := if GT30 l then l.filter (fun x => !insB x) else l
def tree_Clean.f (l : List S30) : Option (List S30) := if okT l then some (clean0 l) else none
set_option maxHeartbeats 8000000 in
set_option maxRecDepth 100000 in
theorem tree_Clean.calls (P0_0_ : Nat → Prop) (A0_0 : Option Addr) (c0_0 : Nat) (l0_0 : List S30) (r : List S30) (w : World) (hs0_0 : Kd.V k30 30 w w.heap.size (fun k_ => P0_0_ k_) (.slice A0_0 l0_0.length c0_0) l0_0) (h : tree_Clean.f l0_0 = some r) :
    Calls Tryd.prog 27 #[.agg #[.slice A0_0 l0_0.length c0_0]] w fun e w' => ∃ v0_ : Value, e = .returned (.agg #[v0_]) ∧ Kd.V k30 30 w' w.heap.size (fun k_ => (P0_0_ k_ ∨ w.heap.size ≤ k_)) v0_ r ∧ Below w.heap.size w w' := by
  unfold tree_Clean.f at h
  split at h
  · rename_i hok
    have hr := (Option.some.inj h).symm
    clear h
    have hu26 := Tryd.underlying26
    have hu30 := Tryd.underlying30
    have HS := Aside0.mk hs0_0
    have HRR := Aside0.mk hr
    have hC0 := (Kd.V_reads' hs0_0).2.2
    have hc0 := (Kd.V_reads' hs0_0).2.1
    have hge := tree_Good.eq hok
    have hce := tree_copied.eq (k := 100001) hok (by have := (okP_iff.1 hok.1).2; omega)
    have HOK := Aside0.mk (okP_iff.1 hok.1)
    obtain ⟨gd, hgd⟩ : ∃ gd, gd = decide (GT30 l0_0) := ⟨_, rfl⟩
    rw [← hgd] at hge
    have HGD := Aside0.mk hgd
    clear hgd hr hs0_0 hok
    have X0 := By.new w (.slice A0_0 l0_0.length c0_0)
    obtain ⟨m20, m40, f40⟩ := X0.cells
    go_enter Tryd.func27, Tryd.ntmps27
    go_wp2_with (fail)
    refine (tree_Good.calls A0_0 c0_0 l0_0 gd _ (Kd.C_below hC0 X0.b) hc0 hge).mono ?_
    rintro e W1 ⟨rfl, hb1⟩
    have X1 := X0.below hb1
    clear X0 hb1 hge m20 m40 f40
    dsimp only
    obtain ⟨m20, m40, f40⟩ := X1.cells
    cases gd with
    | false =>
      go_wp2_with (fail)
      refine bodyPost_ret (results_cell_row rfl _ _ (w.heap.size + 1) 26 #[.slice A0_0 l0_0.length c0_0] (0, 0) _ rfl (blk_put (cs := #[.slice none 0 0]) X1.k4 0 _ rfl) Tryd.underlying26 rfl (by kernel_rfl)) rfl ?_
      obtain rfl : r = l0_0 := by rw [HRR.out, clean0, if_neg (of_decide_eq_false HGD.out.symm)]
      exact ⟨_, rfl, V_came HS.out X1.b (by omega) _, X1.b.setCell (p := ⟨w.heap.size + 1, 0, none⟩) (by show w.heap.size ≤ w.heap.size + 1; omega) _⟩
    | true =>
      go_wp2_with (fail)
      refine (tree_copied.calls 100001 A0_0 c0_0 l0_0 l0_0 _ (Kd.C_below hC0 X1.b) hc0 hce).mono ?_
      rintro e W2 ⟨v2, rfl, hS2, hb2⟩
      have hN2 := Kd.S_N hS2
      obtain ⟨A2, c2, rfl⟩ := Kd.N_slice hN2
      have hs1 : w.heap.size + 2 ≤ W1.heap.size := by have := blk_lt X1.k4; omega
      have hs2 := hb2.size
      have X2 := (X1.below hb2).below (below_alloc (Below.refl _ W2) (.cells #[.slice A2 l0_0.length c2] 26))
      have bk2 := blk_new W2 (.cells #[.slice A2 l0_0.length c2] 26)
      have hNb : Kd.N k30 30 (W2.alloc (.cells #[.slice A2 l0_0.length c2] 26)) W1.heap.size (fun k => W1.heap.size ≤ k ∧ k ≠ W2.heap.size) (.slice A2 l0_0.length c2) l0_0 := by
        exact Kd.N_alloc (Kd.S_N (Kd.S_mono (Kd.S_bound hS2) fun k hk => ⟨hk.2.1, by have := hk.2.2.1; omega⟩)) _
      clear X1 hb2 hS2 hN2 hce m20 m40 f40
      dsimp only
      obtain ⟨m20, m40, f40⟩ := X2.cells
      have m3 := blk_cell bk2 0
      go_wp2_with (fail)
      refine (DeleteFE_calls W1.heap.size _ _ l0_0 _ hNb (by rw [World.size_alloc]; omega) HOK.out.2 HOK.out.1 (fun k hk => ⟨by rw [World.size_alloc] at hk; omega, by rw [World.size_alloc] at hk; omega⟩)).mono ?_
      rintro e W3 ⟨v3, rfl, hN3, hb3, hk3⟩
      obtain ⟨A3, c3, rfl⟩ := Kd.N_slice hN3
      have X3 := X2.belowB hs1 hb3
      have bk3 := (hk3 W2.heap.size (by rw [World.size_alloc]; omega) (by
        intro e
        have := Kd.N_lt hNb W2.heap.size e.symm
        have hh := hNb.1 W2.heap.size e.symm
        exact hh.2 rfl)).trans bk2
      have bk4 := blk_put (cs := #[.slice A2 l0_0.length c2]) bk3 0 (.slice A3 (l0_0.filter fun x => !insB x).length c3) rfl
      have m3' := blk_cell bk3 0
      have f3 := blk_frozen bk3 0
      have m4 := blk_cell bk4 0
      have hw2 : w.heap.size + 2 ≤ W2.heap.size := by omega
      have hV3 := Kd.V_far (base := w.heap.size) (p := ⟨W2.heap.size, 0, none⟩) (Kd.N_V hN3) (fun k hk => hk.2) (.slice A3 (l0_0.filter fun x => !insB x).length c3)
      have X4 : By w (W3.setCell ⟨W2.heap.size, 0, none⟩ (.slice A3 (l0_0.filter fun x => !insB x).length c3)) (.slice A0_0 l0_0.length c0_0) :=
        ⟨X3.b.setCell (p := ⟨W2.heap.size, 0, none⟩) (by show w.heap.size ≤ W2.heap.size; omega) _, (Below.heap_setCell _ _ _ _ (show w.heap.size ≠ W2.heap.size by omega)).trans X3.k2, (Below.heap_setCell _ _ _ _ (show w.heap.size + 1 ≠ W2.heap.size by omega)).trans X3.k4⟩
      have HV3 := Aside0.mk hV3
      have HRS : Aside0 (r = l0_0.filter fun x => !insB x) := ⟨by rw [HRR.out, clean0, if_pos (of_decide_eq_true HGD.out.symm)]⟩
      obtain ⟨fl, hfl⟩ : ∃ fl, fl = l0_0.filter fun x => !insB x := ⟨_, rfl⟩
      rw [← hfl] at HV3 HRS m4 X4 ⊢
      obtain ⟨m20', m40', f40'⟩ := X4.cells
      clear hfl hV3 hN3 hNb hk3 hb3 bk2 bk3 bk4 m3 m20 m40 f40 X2
      dsimp only
      go_wp2_with (fail)
      refine bodyPost_ret (results_cell_row rfl _ _ (w.heap.size + 1) 26 #[.slice A3 fl.length c3] (0, 0) _ rfl (blk_put (cs := #[.slice none 0 0]) X4.k4 0 _ rfl) Tryd.underlying26 rfl (by kernel_rfl)) rfl ?_
      obtain rfl : r = fl := HRS.out
      refine ⟨_, rfl, Kd.V_mono (Kd.V_far (p := ⟨w.heap.size + 1, 0, none⟩) HV3.out (fun k hk => ?_) _) (fun k hk => .inr (by have := hk.1; omega)), X4.b.setCell (p := ⟨w.heap.size + 1, 0, none⟩) (by show w.heap.size ≤ w.heap.size + 1; omega) _⟩
      show k ≠ w.heap.size + 1
      have := hk.1
      omega
  · cases h
end Go.Proofs.YtidlldfghkaeeaaDoor.P
