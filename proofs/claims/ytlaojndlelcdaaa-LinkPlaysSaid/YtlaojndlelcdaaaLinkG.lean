/- The document's own link, walked: Say, Tick. No condition but what it is called with. The document's own link, walked: Hear. It holds where the number of what was heard is below 2^63. What the laws over both links need beside: the calls' values in the given type, and what stays. -/
import Derived.Test.YtlaojndlelcdaaaPx20
import Derived.Test.YtlaojndlelcdaaaLinkF
import Derived.Test.YtlaojndlelcdaaaRefFrame
import Derived.Test.YtlaojndlelcdaaaPx19
namespace Go.Proofs.Ytlaojndlelcdaaa.Links
open Go.RowKit Go.Proofs.Ytlaojndlelcdaaa.P Go.Proofs.Ytlaojndlelcdaaa.Pure Go.Proofs.YtlaojndlelcdaaaW.PrintWords Go.Proofs.YtlaojndlelcdaaaW.PrintLast Go.Proofs.YtlaojndlelcdaaaW.PrintMore

/-- Block g holds the document's link that says s. -/
def AtR (W : World) (g : Nat) (s : L) : Prop :=
  ∃ v base, W.heap[g]? = some (.cells #[.int .u64 s.said, .int .u64 s.heard, .bool s.busy, .bool s.lost, .int .i64 s.tries, v] 99 (0, 0)) ∧ Kd.R (Kd.int .u8) 5 W base (fun _ => True) v s.wait
theorem AtR.lt {W : World} {g : Nat} {s : L} (h : AtR W g s) : g < W.heap.size := by
  obtain ⟨v, base, hb, _⟩ := h; exact blk_lt hb
theorem AtR.below {W W1 : World} {g : Nat} {s : L} (h : AtR W g s) (hb : Below W.heap.size W W1) : AtR W1 g s := by
  obtain ⟨v, base, h1, h2⟩ := h
  exact ⟨v, base, (hb.block g (blk_lt h1)).trans h1, Kd.R_below h2 hb⟩
theorem AtR.alloc {W : World} {g : Nat} {s : L} (h : AtR W g s) (o : Obj) : AtR (W.alloc o) g s := h.below (below_alloc (Below.refl _ _) o)
theorem AtR.drewN {W : World} {g : Nat} {s : L} (h : AtR W g s) (m : Nat) : AtR (W.drewN m) g s := h
/-- Calls at the other link leave it. -/
theorem AtR.keep {W W1 : World} {g g' : Nat} {s s' : L} (h : AtR W g s) (h' : At W g' s') (hk : KeepBut W W1 g' none) (hne : g ≠ g') : AtR W1 g s := by
  obtain ⟨v, base, h1, h2⟩ := h
  obtain ⟨_, _, h3, _⟩ := h'
  exact ⟨v, base, (hk.2 g (blk_lt h1) hne (by simp)).trans h1, Kd.R_mono (Kd.R_keep (ok := fun k => True ∧ k ≠ g') (Kd.R_types h2 h3 (by decide)) hk (fun k hk => hk.2)) (fun _ _ => trivial)⟩
theorem At.keepR {W W1 : World} {g g' : Nat} {s s' : L} (h : At W g s) (h' : AtR W g' s') (hk : KeepBut W W1 g' none) (hne : g ≠ g') : At W1 g s := by
  obtain ⟨v, base, h1, h2⟩ := h
  obtain ⟨_, _, h3, _⟩ := h'
  exact ⟨v, base, (hk.2 g (blk_lt h1) hne (by simp)).trans h1, Kd.R_mono (Kd.R_keep (ok := fun k => True ∧ k ≠ g') (Kd.R_types h2 h3 (by decide)) hk (fun k hk => hk.2)) (fun _ _ => trivial)⟩
theorem readsR {W : World} {g : Nat} {a0 a1 a2 a3 a4 a5 : Value} (hb : W.heap[g]? = some (.cells #[a0, a1, a2, a3, a4, a5] 99 (0, 0))) :
    W.cell? ⟨g, 0, none⟩ = some a0 ∧ W.cell? ⟨g, 1, none⟩ = some a1 ∧ W.cell? ⟨g, 2, none⟩ = some a2 ∧ W.cell? ⟨g, 3, none⟩ = some a3 ∧ W.cell? ⟨g, 4, none⟩ = some a4 ∧ W.cell? ⟨g, 5, none⟩ = some a5 ∧
    W.frozen? ⟨g, 0, none⟩ = false ∧ W.frozen? ⟨g, 1, none⟩ = false ∧ W.frozen? ⟨g, 2, none⟩ = false ∧ W.frozen? ⟨g, 3, none⟩ = false ∧ W.frozen? ⟨g, 4, none⟩ = false ∧ W.frozen? ⟨g, 5, none⟩ = false := by
  refine ⟨blk_cell hb 0, blk_cell hb 1, blk_cell hb 2, blk_cell hb 3, blk_cell hb 4, blk_cell hb 5, ?_, ?_, ?_, ?_, ?_, ?_⟩ <;> simp [World.frozen?, hb]

theorem SayR (g : Nat) (s : L) (A0 : Option Addr) (c0 : Nat) (l0 : List Int) (w : World) (h : AtR w g s) (hr : Kd.C (Kd.int .u8) w A0 l0.length l0) (hc : l0.length ≤ c0) (hne : ∀ a, A0 = some a → 0 < l0.length → a.block ≠ g) :
    Calls Try.prog 65 #[.pointer (some ⟨g, 0, none⟩), .slice A0 l0.length c0] w fun e' w' => ∃ v, e' = .returned (.tuple #[v, .int .i64 (sayL s l0).2.2]) ∧ Rk w' v (sayL s l0).2.1 ∧ AtR w' g (sayL s l0).1 ∧ Near w w' g := by
  have h' := h
  obtain ⟨v, base, hb, hR⟩ := h
  obtain ⟨c0_, c1_, c2_, c3_, c4_, c5_, z0_, z1_, z2_, z3_, z4_, z5_⟩ := readsR hb
  unfold sayL
  by_cases hl : s.lost = true
  · rw [if_pos hl]
    rw [hl] at c3_
    go_enter Try.func65, Try.ntmps65
    go_wp2
    go_ret2
    exact ⟨_, rfl, ⟨0, Kd.R_nil _ _ _ _ _⟩, h', Near.refl _ _⟩
  · rw [if_neg hl]
    have hl' : s.lost = false := by simpa using hl
    by_cases h9 : (l0.length : Int) > 131072
    · rw [if_pos h9]
      have h9b : decide ((131072 : Int) < (l0.length : Int)) = true := decide_eq_true h9
      rw [hl'] at c3_
      go_enter Try.func65, Try.ntmps65
      go_wp2
      go_ret2
      exact ⟨_, rfl, ⟨0, Kd.R_nil _ _ _ _ _⟩, h', Near.refl _ _⟩
    · rw [if_neg h9]
      have h9b : decide ((131072 : Int) < (l0.length : Int)) = false := decide_eq_false h9
      by_cases h1 : s.busy = true
      · rw [if_pos h1]
        rw [h1] at c2_
        rw [hl'] at c3_
        go_enter Try.func65, Try.ntmps65
        go_wp2
        go_ret2
        exact ⟨_, rfl, ⟨0, Kd.R_nil _ _ _ _ _⟩, h', Near.refl _ _⟩
      · rw [if_neg h1]
        have h1' : s.busy = false := by simpa using h1
        have hp := ref_putF_eq ⟨false, IntKind.u64.wrap (s.said + 1), l0⟩ 20000000 (by omega)
        unfold up
        generalize hr' : putF ⟨false, IntKind.u64.wrap (s.said + 1), l0⟩ = r' at hp ⊢
        have hb1 := blk_put (blk_put (blk_put hb 0 (.int .u64 (IntKind.u64.wrap (s.said + 1))) rfl) 2 (.bool true) rfl) 4 (.int .i64 1) rfl
        have hK1 := (((Near.refl w g).set_ 0 (.int .u64 (IntKind.u64.wrap (s.said + 1)))).set_ 2 (.bool true)).set_ 4 (.int .i64 1)
        rw [h1'] at c2_
        rw [hl'] at c3_
        go_enter Try.func65, Try.ntmps65
        go_wp2_with (fail)
        refine (tallymanref19_PutFrame.calls 20000000 false (IntKind.u64.wrap (s.said + 1)) A0 c0 l0 r' _ (Kd.C_keep 0 hr hK1.1 hne) hc hp).mono ?_
        rintro e w2 ⟨v2, rfl, ho, hbel⟩
        obtain ⟨A2, c2, rfl, hc2, hC2⟩ := Kd.R_reads ho
        have hb2 := blk_below hb1 hbel
        obtain ⟨d0_, d1_, d2_, d3_, d4_, d5_, y0_, y1_, y2_, y3_, y4_, y5_⟩ := readsR hb2
        have hb5 := blk_put hb2 5 (.slice A2 r'.length c2) rfl
        have hK5 := (Near.refl w2 g).set_ 5 (.slice A2 r'.length c2)
        have hR5 := Kd.R_mono (ok' := fun _ => True) (Kd.R_keep (Kd.R_types ho hb2 (by decide)) hK5.1 (fun k hk => hk.2)) (fun _ _ => trivial)
        try dsimp only
        go_wp2_with (fail)
        go_ret2
        exact ⟨_, rfl, ⟨_, hR5⟩, ⟨_, _, hb5, hR5⟩, (hK1.trans (Near.of_below hbel g)).trans hK5⟩

theorem TickR (g : Nat) (s : L) (w : World) (h : AtR w g s) :
    Calls Try.prog 66 #[.pointer (some ⟨g, 0, none⟩)] w fun e' w' => ∃ v, e' = .returned (.tuple #[v, .int .i64 (tickL s).2.2]) ∧ Rk w' v (tickL s).2.1 ∧ AtR w' g (tickL s).1 ∧ Near w w' g := by
  have h' := h
  obtain ⟨v, base, hb, hR⟩ := h
  obtain ⟨A2, c2, rfl, hc2, hC2⟩ := Kd.R_reads hR
  obtain ⟨c0_, c1_, c2_, c3_, c4_, c5_, z0_, z1_, z2_, z3_, z4_, z5_⟩ := readsR hb
  unfold tickL
  cases hbz : s.busy with
  | false =>
    rw [if_pos rfl]
    rw [hbz] at c2_
    go_enter Try.func66, Try.ntmps66
    go_wp2
    go_ret2
    exact ⟨_, rfl, ⟨0, Kd.R_nil _ _ _ _ _⟩, h', Near.refl _ _⟩
  | true =>
    rw [if_neg (by simp)]
    rw [hbz] at c2_
    by_cases ht : s.tries ≥ 12
    · rw [if_pos ht]
      have htb : decide ((12 : Int) ≤ s.tries) = true := decide_eq_true ht
      have hb5 := blk_put (blk_put hb 3 (.bool true) rfl) 2 (.bool false) rfl
      have hK5 := ((Near.refl w g).set_ 3 (.bool true)).set_ 2 (.bool false)
      have hR5 := Kd.R_mono (ok' := fun _ => True) (Kd.R_keep (Kd.R_types hR hb (by decide)) hK5.1 (fun k hk => hk.2)) (fun _ _ => trivial)
      go_enter Try.func66, Try.ntmps66
      go_wp2
      go_ret2
      exact ⟨_, rfl, ⟨0, Kd.R_nil _ _ _ _ _⟩, ⟨_, _, hb5, hR5⟩, hK5⟩
    · rw [if_neg ht]
      have htb : decide ((12 : Int) ≤ s.tries) = false := decide_eq_false ht
      have hb5 := blk_put hb 4 (.int .i64 (wrap64 (s.tries + 1))) rfl
      have hK5 := (Near.refl w g).set_ 4 (.int .i64 (wrap64 (s.tries + 1)))
      have hR5 := Kd.R_mono (ok' := fun _ => True) (Kd.R_keep (Kd.R_types hR hb (by decide)) hK5.1 (fun k hk => hk.2)) (fun _ _ => trivial)
      go_enter Try.func66, Try.ntmps66
      go_wp2
      go_ret2
      exact ⟨_, rfl, ⟨_, hR5⟩, ⟨_, _, by rw [hbz] at hb5; exact hb5, hR5⟩, hK5⟩
end Go.Proofs.Ytlaojndlelcdaaa.Links
namespace Go.Proofs.Ytlaojndlelcdaaa.Links
open Go.RowKit Go.Proofs.Ytlaojndlelcdaaa.P Go.Proofs.Ytlaojndlelcdaaa.Pure Go.Proofs.YtlaojndlelcdaaaW.PrintWords Go.Proofs.YtlaojndlelcdaaaW.PrintLast Go.Proofs.YtlaojndlelcdaaaW.PrintMore

set_option maxHeartbeats 8000000 in
theorem HearR (g : Nat) (s : L) (A0 : Option Addr) (c0 : Nat) (l0 : List Int) (w : World) (h : AtR w g s) (hr : Kd.C (Kd.int .u8) w A0 l0.length l0) (hc : l0.length ≤ c0) (hbt : Bytes l0) (hln : l0.length ≤ 1000000) (hh0 : 0 ≤ s.heard) (hh1 : s.heard < 9223372036854775808) :
    Calls Try.prog 67 #[.pointer (some ⟨g, 0, none⟩), .slice A0 l0.length c0] w fun e' w' => ∃ v v', e' = .returned (.tuple #[v, .bool (hearL s l0).2.2.1, v']) ∧ Rk w' v (hearL s l0).2.1 ∧ Rk w' v' (hearL s l0).2.2.2 ∧ AtR w' g (hearL s l0).1 ∧ Near w w' g := by
  have h' := h
  obtain ⟨v, base, hb, hR⟩ := h
  obtain ⟨c0_, c1_, c2_, c3_, c4_, c5_, z0_, z1_, z2_, z3_, z4_, z5_⟩ := readsR hb
  have hg := ref_getF_eq l0 hbt hln 20000000 (by omega)
  unfold hearL
  cases hgf : getF l0 with
  | none =>
    rw [hgf] at hg
    dsimp only
    go_enter Try.func67, Try.ntmps67
    go_wp2_with (first | (go_at_call 52; refine (tallymanref19_GetFrame.calls 20000000 A0 c0 l0 false 0 ([] : List Int) 2 w hr hc hg).mono ?_; rintro e w1 ⟨v1, rfl, ho, hbel⟩; obtain ⟨A1, c1, rfl, hc1, hC1⟩ := Kd.R_reads ho; have hbx := blk_alloc (blk_below hb hbel) (.cells #[.bool false, .int .u64 0, .slice A1 (([] : List Int)).length c1] 75); have hnx := blk_new w1 (.cells #[.bool false, .int .u64 0, .slice A1 (([] : List Int)).length c1] 75); obtain ⟨d0_, d1_, d2_, d3_, d4_, d5_, y0_, y1_, y2_, y3_, y4_, y5_⟩ := readsR hbx; have hat := AtR.alloc (AtR.below h' hbel) (.cells #[.bool false, .int .u64 0, .slice A1 (([] : List Int)).length c1] 75); have hng : w1.heap.size ≠ g := Nat.ne_of_gt (AtR.lt (AtR.below h' hbel)); have hgn : g ≠ w1.heap.size := hng.symm; have hK0 := (Near.of_below hbel g).trans (Near.of_below (below_alloc (Below.refl w1.heap.size w1) (.cells #[.bool false, .int .u64 0, .slice A1 (([] : List Int)).length c1] 75)) g); have hRx := Kd.R_types (Kd.R_alloc (Kd.R_below hR hbel) (.cells #[.bool false, .int .u64 0, .slice A1 (([] : List Int)).length c1] 75)) hbx (by decide); have hox := Kd.R_types (Kd.R_alloc ho (.cells #[.bool false, .int .u64 0, .slice A1 (([] : List Int)).length c1] 75)) hbx (by decide)))
    repeat (go_quiet (fail); go_wp2_with (first | (go_at_call 52; refine (tallymanref19_GetFrame.calls 20000000 A0 c0 l0 false 0 ([] : List Int) 2 w hr hc hg).mono ?_; rintro e w1 ⟨v1, rfl, ho, hbel⟩; obtain ⟨A1, c1, rfl, hc1, hC1⟩ := Kd.R_reads ho; have hbx := blk_alloc (blk_below hb hbel) (.cells #[.bool false, .int .u64 0, .slice A1 (([] : List Int)).length c1] 75); have hnx := blk_new w1 (.cells #[.bool false, .int .u64 0, .slice A1 (([] : List Int)).length c1] 75); obtain ⟨d0_, d1_, d2_, d3_, d4_, d5_, y0_, y1_, y2_, y3_, y4_, y5_⟩ := readsR hbx; have hat := AtR.alloc (AtR.below h' hbel) (.cells #[.bool false, .int .u64 0, .slice A1 (([] : List Int)).length c1] 75); have hng : w1.heap.size ≠ g := Nat.ne_of_gt (AtR.lt (AtR.below h' hbel)); have hgn : g ≠ w1.heap.size := hng.symm; have hK0 := (Near.of_below hbel g).trans (Near.of_below (below_alloc (Below.refl w1.heap.size w1) (.cells #[.bool false, .int .u64 0, .slice A1 (([] : List Int)).length c1] 75)) g); have hRx := Kd.R_types (Kd.R_alloc (Kd.R_below hR hbel) (.cells #[.bool false, .int .u64 0, .slice A1 (([] : List Int)).length c1] 75)) hbx (by decide); have hox := Kd.R_types (Kd.R_alloc ho (.cells #[.bool false, .int .u64 0, .slice A1 (([] : List Int)).length c1] 75)) hbx (by decide))))
    go_ret3
    exact ⟨_, _, rfl, ⟨0, Kd.R_nil _ _ _ _ _⟩, ⟨0, Kd.R_nil _ _ _ _ _⟩, (by repeat (first | exact hat | apply AtR.drewN)), (by repeat (first | exact hK0 | apply Near.drewN))⟩
  | some f =>
    rw [hgf] at hg
    obtain ⟨ack, seq, body⟩ := f
    dsimp only at hg ⊢
    cases ack with
    | true =>
      rw [if_pos rfl]
      by_cases hq : s.busy = true ∧ seq = s.said
      · rw [if_pos hq]
        obtain ⟨hq1, hq2⟩ := hq
        subst hq2
        rw [hq1] at c2_
        go_enter Try.func67, Try.ntmps67
        go_wp2_with (first | (go_at_call 52; refine (tallymanref19_GetFrame.calls 20000000 A0 c0 l0 true s.said body 0 w hr hc hg).mono ?_; rintro e w1 ⟨v1, rfl, ho, hbel⟩; obtain ⟨A1, c1, rfl, hc1, hC1⟩ := Kd.R_reads ho; have hbx := blk_alloc (blk_below hb hbel) (.cells #[.bool true, .int .u64 s.said, .slice A1 (body).length c1] 75); have hnx := blk_new w1 (.cells #[.bool true, .int .u64 s.said, .slice A1 (body).length c1] 75); obtain ⟨d0_, d1_, d2_, d3_, d4_, d5_, y0_, y1_, y2_, y3_, y4_, y5_⟩ := readsR hbx; have hat := AtR.alloc (AtR.below h' hbel) (.cells #[.bool true, .int .u64 s.said, .slice A1 (body).length c1] 75); have hng : w1.heap.size ≠ g := Nat.ne_of_gt (AtR.lt (AtR.below h' hbel)); have hgn : g ≠ w1.heap.size := hng.symm; have hK0 := (Near.of_below hbel g).trans (Near.of_below (below_alloc (Below.refl w1.heap.size w1) (.cells #[.bool true, .int .u64 s.said, .slice A1 (body).length c1] 75)) g); have hRx := Kd.R_types (Kd.R_alloc (Kd.R_below hR hbel) (.cells #[.bool true, .int .u64 s.said, .slice A1 (body).length c1] 75)) hbx (by decide); have hox := Kd.R_types (Kd.R_alloc ho (.cells #[.bool true, .int .u64 s.said, .slice A1 (body).length c1] 75)) hbx (by decide)))
        repeat (go_quiet (fail); go_wp2_with (first | (go_at_call 52; refine (tallymanref19_GetFrame.calls 20000000 A0 c0 l0 true s.said body 0 w hr hc hg).mono ?_; rintro e w1 ⟨v1, rfl, ho, hbel⟩; obtain ⟨A1, c1, rfl, hc1, hC1⟩ := Kd.R_reads ho; have hbx := blk_alloc (blk_below hb hbel) (.cells #[.bool true, .int .u64 s.said, .slice A1 (body).length c1] 75); have hnx := blk_new w1 (.cells #[.bool true, .int .u64 s.said, .slice A1 (body).length c1] 75); obtain ⟨d0_, d1_, d2_, d3_, d4_, d5_, y0_, y1_, y2_, y3_, y4_, y5_⟩ := readsR hbx; have hat := AtR.alloc (AtR.below h' hbel) (.cells #[.bool true, .int .u64 s.said, .slice A1 (body).length c1] 75); have hng : w1.heap.size ≠ g := Nat.ne_of_gt (AtR.lt (AtR.below h' hbel)); have hgn : g ≠ w1.heap.size := hng.symm; have hK0 := (Near.of_below hbel g).trans (Near.of_below (below_alloc (Below.refl w1.heap.size w1) (.cells #[.bool true, .int .u64 s.said, .slice A1 (body).length c1] 75)) g); have hRx := Kd.R_types (Kd.R_alloc (Kd.R_below hR hbel) (.cells #[.bool true, .int .u64 s.said, .slice A1 (body).length c1] 75)) hbx (by decide); have hox := Kd.R_types (Kd.R_alloc ho (.cells #[.bool true, .int .u64 s.said, .slice A1 (body).length c1] 75)) hbx (by decide))))
        go_ret3
        refine ⟨_, _, rfl, ⟨0, Kd.R_nil _ _ _ _ _⟩, ⟨0, Kd.R_nil _ _ _ _ _⟩, ⟨v, base, ?hb, ?hR⟩, ?hk⟩
        case hb => exact blk_put (blk_put (blk_drewN hbx _) 2 _ rfl) 4 _ rfl
        case hR => exact Kd.R_mono (Kd.R_keep hRx (((Near.drewN (Near.refl _ g) _).set_ 2 _).set_ 4 _).1 (fun k hk => hk.2)) (fun _ _ => trivial)
        case hk => exact ((Near.drewN hK0 _).set_ 2 _).set_ 4 _
      · rw [if_neg hq]
        cases hq1 : s.busy with
        | false =>
          rw [hq1] at c2_
          go_enter Try.func67, Try.ntmps67
          go_wp2_with (first | (go_at_call 52; refine (tallymanref19_GetFrame.calls 20000000 A0 c0 l0 true seq body 0 w hr hc hg).mono ?_; rintro e w1 ⟨v1, rfl, ho, hbel⟩; obtain ⟨A1, c1, rfl, hc1, hC1⟩ := Kd.R_reads ho; have hbx := blk_alloc (blk_below hb hbel) (.cells #[.bool true, .int .u64 seq, .slice A1 (body).length c1] 75); have hnx := blk_new w1 (.cells #[.bool true, .int .u64 seq, .slice A1 (body).length c1] 75); obtain ⟨d0_, d1_, d2_, d3_, d4_, d5_, y0_, y1_, y2_, y3_, y4_, y5_⟩ := readsR hbx; have hat := AtR.alloc (AtR.below h' hbel) (.cells #[.bool true, .int .u64 seq, .slice A1 (body).length c1] 75); have hng : w1.heap.size ≠ g := Nat.ne_of_gt (AtR.lt (AtR.below h' hbel)); have hgn : g ≠ w1.heap.size := hng.symm; have hK0 := (Near.of_below hbel g).trans (Near.of_below (below_alloc (Below.refl w1.heap.size w1) (.cells #[.bool true, .int .u64 seq, .slice A1 (body).length c1] 75)) g); have hRx := Kd.R_types (Kd.R_alloc (Kd.R_below hR hbel) (.cells #[.bool true, .int .u64 seq, .slice A1 (body).length c1] 75)) hbx (by decide); have hox := Kd.R_types (Kd.R_alloc ho (.cells #[.bool true, .int .u64 seq, .slice A1 (body).length c1] 75)) hbx (by decide)))
          repeat (go_quiet (fail); go_wp2_with (first | (go_at_call 52; refine (tallymanref19_GetFrame.calls 20000000 A0 c0 l0 true seq body 0 w hr hc hg).mono ?_; rintro e w1 ⟨v1, rfl, ho, hbel⟩; obtain ⟨A1, c1, rfl, hc1, hC1⟩ := Kd.R_reads ho; have hbx := blk_alloc (blk_below hb hbel) (.cells #[.bool true, .int .u64 seq, .slice A1 (body).length c1] 75); have hnx := blk_new w1 (.cells #[.bool true, .int .u64 seq, .slice A1 (body).length c1] 75); obtain ⟨d0_, d1_, d2_, d3_, d4_, d5_, y0_, y1_, y2_, y3_, y4_, y5_⟩ := readsR hbx; have hat := AtR.alloc (AtR.below h' hbel) (.cells #[.bool true, .int .u64 seq, .slice A1 (body).length c1] 75); have hng : w1.heap.size ≠ g := Nat.ne_of_gt (AtR.lt (AtR.below h' hbel)); have hgn : g ≠ w1.heap.size := hng.symm; have hK0 := (Near.of_below hbel g).trans (Near.of_below (below_alloc (Below.refl w1.heap.size w1) (.cells #[.bool true, .int .u64 seq, .slice A1 (body).length c1] 75)) g); have hRx := Kd.R_types (Kd.R_alloc (Kd.R_below hR hbel) (.cells #[.bool true, .int .u64 seq, .slice A1 (body).length c1] 75)) hbx (by decide); have hox := Kd.R_types (Kd.R_alloc ho (.cells #[.bool true, .int .u64 seq, .slice A1 (body).length c1] 75)) hbx (by decide))))
          go_ret3
          exact ⟨_, _, rfl, ⟨0, Kd.R_nil _ _ _ _ _⟩, ⟨0, Kd.R_nil _ _ _ _ _⟩, (by repeat (first | exact hat | apply AtR.drewN)), (by repeat (first | exact hK0 | apply Near.drewN))⟩
        | true =>
          rw [hq1] at c2_
          have hq2 : ¬ seq = s.said := fun h => hq ⟨hq1, h⟩
          have hq2b : (seq == s.said) = false := beq_eq_false_iff_ne.2 hq2
          go_enter Try.func67, Try.ntmps67
          go_wp2_with (first | (go_at_call 52; refine (tallymanref19_GetFrame.calls 20000000 A0 c0 l0 true seq body 0 w hr hc hg).mono ?_; rintro e w1 ⟨v1, rfl, ho, hbel⟩; obtain ⟨A1, c1, rfl, hc1, hC1⟩ := Kd.R_reads ho; have hbx := blk_alloc (blk_below hb hbel) (.cells #[.bool true, .int .u64 seq, .slice A1 (body).length c1] 75); have hnx := blk_new w1 (.cells #[.bool true, .int .u64 seq, .slice A1 (body).length c1] 75); obtain ⟨d0_, d1_, d2_, d3_, d4_, d5_, y0_, y1_, y2_, y3_, y4_, y5_⟩ := readsR hbx; have hat := AtR.alloc (AtR.below h' hbel) (.cells #[.bool true, .int .u64 seq, .slice A1 (body).length c1] 75); have hng : w1.heap.size ≠ g := Nat.ne_of_gt (AtR.lt (AtR.below h' hbel)); have hgn : g ≠ w1.heap.size := hng.symm; have hK0 := (Near.of_below hbel g).trans (Near.of_below (below_alloc (Below.refl w1.heap.size w1) (.cells #[.bool true, .int .u64 seq, .slice A1 (body).length c1] 75)) g); have hRx := Kd.R_types (Kd.R_alloc (Kd.R_below hR hbel) (.cells #[.bool true, .int .u64 seq, .slice A1 (body).length c1] 75)) hbx (by decide); have hox := Kd.R_types (Kd.R_alloc ho (.cells #[.bool true, .int .u64 seq, .slice A1 (body).length c1] 75)) hbx (by decide)))
          repeat (go_quiet (fail); go_wp2_with (first | (go_at_call 52; refine (tallymanref19_GetFrame.calls 20000000 A0 c0 l0 true seq body 0 w hr hc hg).mono ?_; rintro e w1 ⟨v1, rfl, ho, hbel⟩; obtain ⟨A1, c1, rfl, hc1, hC1⟩ := Kd.R_reads ho; have hbx := blk_alloc (blk_below hb hbel) (.cells #[.bool true, .int .u64 seq, .slice A1 (body).length c1] 75); have hnx := blk_new w1 (.cells #[.bool true, .int .u64 seq, .slice A1 (body).length c1] 75); obtain ⟨d0_, d1_, d2_, d3_, d4_, d5_, y0_, y1_, y2_, y3_, y4_, y5_⟩ := readsR hbx; have hat := AtR.alloc (AtR.below h' hbel) (.cells #[.bool true, .int .u64 seq, .slice A1 (body).length c1] 75); have hng : w1.heap.size ≠ g := Nat.ne_of_gt (AtR.lt (AtR.below h' hbel)); have hgn : g ≠ w1.heap.size := hng.symm; have hK0 := (Near.of_below hbel g).trans (Near.of_below (below_alloc (Below.refl w1.heap.size w1) (.cells #[.bool true, .int .u64 seq, .slice A1 (body).length c1] 75)) g); have hRx := Kd.R_types (Kd.R_alloc (Kd.R_below hR hbel) (.cells #[.bool true, .int .u64 seq, .slice A1 (body).length c1] 75)) hbx (by decide); have hox := Kd.R_types (Kd.R_alloc ho (.cells #[.bool true, .int .u64 seq, .slice A1 (body).length c1] 75)) hbx (by decide))))
          go_ret3
          exact ⟨_, _, rfl, ⟨0, Kd.R_nil _ _ _ _ _⟩, ⟨0, Kd.R_nil _ _ _ _ _⟩, (by repeat (first | exact hat | apply AtR.drewN)), (by repeat (first | exact hK0 | apply Near.drewN))⟩
    | false =>
      rw [if_neg (by simp)]
      have hup : up s.heard = s.heard + 1 := by unfold up; rw [IntKind.wrap_u64]; omega
      have hup' : IntKind.u64.wrap (s.heard + 1) = s.heard + 1 := hup
      rw [hup]
      by_cases hq : s.heard + 1 < seq
      · rw [if_pos hq]
        have hqb : decide (s.heard + 1 < seq) = true := decide_eq_true hq
        go_enter Try.func67, Try.ntmps67
        go_wp2_with (first | (go_at_call 52; refine (tallymanref19_GetFrame.calls 20000000 A0 c0 l0 false seq body 0 w hr hc hg).mono ?_; rintro e w1 ⟨v1, rfl, ho, hbel⟩; obtain ⟨A1, c1, rfl, hc1, hC1⟩ := Kd.R_reads ho; have hbx := blk_alloc (blk_below hb hbel) (.cells #[.bool false, .int .u64 seq, .slice A1 (body).length c1] 75); have hnx := blk_new w1 (.cells #[.bool false, .int .u64 seq, .slice A1 (body).length c1] 75); obtain ⟨d0_, d1_, d2_, d3_, d4_, d5_, y0_, y1_, y2_, y3_, y4_, y5_⟩ := readsR hbx; have hat := AtR.alloc (AtR.below h' hbel) (.cells #[.bool false, .int .u64 seq, .slice A1 (body).length c1] 75); have hng : w1.heap.size ≠ g := Nat.ne_of_gt (AtR.lt (AtR.below h' hbel)); have hgn : g ≠ w1.heap.size := hng.symm; have hK0 := (Near.of_below hbel g).trans (Near.of_below (below_alloc (Below.refl w1.heap.size w1) (.cells #[.bool false, .int .u64 seq, .slice A1 (body).length c1] 75)) g); have hRx := Kd.R_types (Kd.R_alloc (Kd.R_below hR hbel) (.cells #[.bool false, .int .u64 seq, .slice A1 (body).length c1] 75)) hbx (by decide); have hox := Kd.R_types (Kd.R_alloc ho (.cells #[.bool false, .int .u64 seq, .slice A1 (body).length c1] 75)) hbx (by decide)))
        repeat (go_quiet (fail); go_wp2_with (first | (go_at_call 52; refine (tallymanref19_GetFrame.calls 20000000 A0 c0 l0 false seq body 0 w hr hc hg).mono ?_; rintro e w1 ⟨v1, rfl, ho, hbel⟩; obtain ⟨A1, c1, rfl, hc1, hC1⟩ := Kd.R_reads ho; have hbx := blk_alloc (blk_below hb hbel) (.cells #[.bool false, .int .u64 seq, .slice A1 (body).length c1] 75); have hnx := blk_new w1 (.cells #[.bool false, .int .u64 seq, .slice A1 (body).length c1] 75); obtain ⟨d0_, d1_, d2_, d3_, d4_, d5_, y0_, y1_, y2_, y3_, y4_, y5_⟩ := readsR hbx; have hat := AtR.alloc (AtR.below h' hbel) (.cells #[.bool false, .int .u64 seq, .slice A1 (body).length c1] 75); have hng : w1.heap.size ≠ g := Nat.ne_of_gt (AtR.lt (AtR.below h' hbel)); have hgn : g ≠ w1.heap.size := hng.symm; have hK0 := (Near.of_below hbel g).trans (Near.of_below (below_alloc (Below.refl w1.heap.size w1) (.cells #[.bool false, .int .u64 seq, .slice A1 (body).length c1] 75)) g); have hRx := Kd.R_types (Kd.R_alloc (Kd.R_below hR hbel) (.cells #[.bool false, .int .u64 seq, .slice A1 (body).length c1] 75)) hbx (by decide); have hox := Kd.R_types (Kd.R_alloc ho (.cells #[.bool false, .int .u64 seq, .slice A1 (body).length c1] 75)) hbx (by decide))))
        go_ret3
        exact ⟨_, _, rfl, ⟨0, Kd.R_nil _ _ _ _ _⟩, ⟨0, Kd.R_nil _ _ _ _ _⟩, (by repeat (first | exact hat | apply AtR.drewN)), (by repeat (first | exact hK0 | apply Near.drewN))⟩
      · rw [if_neg hq]
        have hqb : decide (s.heard + 1 < seq) = false := decide_eq_false hq
        have hp := ref_putF_eq ⟨true, seq, []⟩ 20000000 (by omega)
        generalize hr' : putF ⟨true, seq, []⟩ = p at hp ⊢
        by_cases he : seq = s.heard + 1
        · rw [if_pos he]
          have hlb : decide (seq ≤ s.heard) = false := decide_eq_false (by omega)
          clear hq hr' hgf
          subst he
          go_enter Try.func67, Try.ntmps67
          go_wp2_with (first | (go_at_call 52; refine (tallymanref19_GetFrame.calls 20000000 A0 c0 l0 false (s.heard + 1) body 0 w hr hc hg).mono ?_; rintro e w1 ⟨v1, rfl, ho, hbel⟩; obtain ⟨A1, c1, rfl, hc1, hC1⟩ := Kd.R_reads ho; have hbx := blk_alloc (blk_below hb hbel) (.cells #[.bool false, .int .u64 (s.heard + 1), .slice A1 (body).length c1] 75); have hnx := blk_new w1 (.cells #[.bool false, .int .u64 (s.heard + 1), .slice A1 (body).length c1] 75); obtain ⟨d0_, d1_, d2_, d3_, d4_, d5_, y0_, y1_, y2_, y3_, y4_, y5_⟩ := readsR hbx; have hat := AtR.alloc (AtR.below h' hbel) (.cells #[.bool false, .int .u64 (s.heard + 1), .slice A1 (body).length c1] 75); have hng : w1.heap.size ≠ g := Nat.ne_of_gt (AtR.lt (AtR.below h' hbel)); have hgn : g ≠ w1.heap.size := hng.symm; have hK0 := (Near.of_below hbel g).trans (Near.of_below (below_alloc (Below.refl w1.heap.size w1) (.cells #[.bool false, .int .u64 (s.heard + 1), .slice A1 (body).length c1] 75)) g); have hRx := Kd.R_types (Kd.R_alloc (Kd.R_below hR hbel) (.cells #[.bool false, .int .u64 (s.heard + 1), .slice A1 (body).length c1] 75)) hbx (by decide); have hox := Kd.R_types (Kd.R_alloc ho (.cells #[.bool false, .int .u64 (s.heard + 1), .slice A1 (body).length c1] 75)) hbx (by decide)) | (go_at_call 55; refine (tallymanref19_PutFrame.calls 20000000 true (s.heard + 1) none 0 [] p _ (Kd.C_nil _ _) (Nat.le_refl _) hp).mono ?_; rintro e w2 ⟨v2, rfl, ho2, hbel2⟩; have hb2 := (hbel2.block g (blk_lt hbx)).trans hbx; have hn2 := (hbel2.block w1.heap.size (blk_lt hnx)).trans hnx; obtain ⟨e0_, e1_, e2_, e3_, e4_, e5_, x0_, x1_, x2_, x3_, x4_, x5_⟩ := readsR hb2; have b1_ : w2.cell? ⟨w1.heap.size, 1, none⟩ = some (.int .u64 (s.heard + 1)) := blk_cell hn2 1; have b2_ : w2.cell? ⟨w1.heap.size, 2, none⟩ = some (.slice A1 body.length c1) := blk_cell hn2 2))
          repeat (go_quiet (fail); go_wp2_with (first | (go_at_call 52; refine (tallymanref19_GetFrame.calls 20000000 A0 c0 l0 false (s.heard + 1) body 0 w hr hc hg).mono ?_; rintro e w1 ⟨v1, rfl, ho, hbel⟩; obtain ⟨A1, c1, rfl, hc1, hC1⟩ := Kd.R_reads ho; have hbx := blk_alloc (blk_below hb hbel) (.cells #[.bool false, .int .u64 (s.heard + 1), .slice A1 (body).length c1] 75); have hnx := blk_new w1 (.cells #[.bool false, .int .u64 (s.heard + 1), .slice A1 (body).length c1] 75); obtain ⟨d0_, d1_, d2_, d3_, d4_, d5_, y0_, y1_, y2_, y3_, y4_, y5_⟩ := readsR hbx; have hat := AtR.alloc (AtR.below h' hbel) (.cells #[.bool false, .int .u64 (s.heard + 1), .slice A1 (body).length c1] 75); have hng : w1.heap.size ≠ g := Nat.ne_of_gt (AtR.lt (AtR.below h' hbel)); have hgn : g ≠ w1.heap.size := hng.symm; have hK0 := (Near.of_below hbel g).trans (Near.of_below (below_alloc (Below.refl w1.heap.size w1) (.cells #[.bool false, .int .u64 (s.heard + 1), .slice A1 (body).length c1] 75)) g); have hRx := Kd.R_types (Kd.R_alloc (Kd.R_below hR hbel) (.cells #[.bool false, .int .u64 (s.heard + 1), .slice A1 (body).length c1] 75)) hbx (by decide); have hox := Kd.R_types (Kd.R_alloc ho (.cells #[.bool false, .int .u64 (s.heard + 1), .slice A1 (body).length c1] 75)) hbx (by decide)) | (go_at_call 55; refine (tallymanref19_PutFrame.calls 20000000 true (s.heard + 1) none 0 [] p _ (Kd.C_nil _ _) (Nat.le_refl _) hp).mono ?_; rintro e w2 ⟨v2, rfl, ho2, hbel2⟩; have hb2 := (hbel2.block g (blk_lt hbx)).trans hbx; have hn2 := (hbel2.block w1.heap.size (blk_lt hnx)).trans hnx; obtain ⟨e0_, e1_, e2_, e3_, e4_, e5_, x0_, x1_, x2_, x3_, x4_, x5_⟩ := readsR hb2; have b1_ : w2.cell? ⟨w1.heap.size, 1, none⟩ = some (.int .u64 (s.heard + 1)) := blk_cell hn2 1; have b2_ : w2.cell? ⟨w1.heap.size, 2, none⟩ = some (.slice A1 body.length c1) := blk_cell hn2 2)))
          go_ret3
          refine ⟨_, _, rfl, ?ho, ?ho2, ⟨v, base, ?hb, ?hR⟩, ?hk⟩
          case hb => exact blk_put hb2 1 _ rfl
          case hR => exact Kd.R_mono (Kd.R_keep (Kd.R_below (Kd.R_drewN hRx _) hbel2) ((Near.refl w2 g).set_ 1 _).1 (fun k hk => hk.2)) (fun _ _ => trivial)
          case ho => exact ⟨_, Kd.R_mono (Kd.R_keep (Kd.R_below (Kd.R_drewN hox _) hbel2) ((Near.refl w2 g).set_ 1 _).1 (fun k hk => hk.2)) (fun _ _ => trivial)⟩
          case ho2 => exact ⟨_, Kd.R_mono (Kd.R_keep (Kd.R_types ho2 hb2 (by decide)) ((Near.refl w2 g).set_ 1 _).1 (fun k hk => hk.2)) (fun _ _ => trivial)⟩
          case hk => exact ((Near.drewN hK0 _).trans (Near.of_below hbel2 g)).trans ((Near.drewN (Near.refl w2 g) _).set_ 1 _)
        · rw [if_neg he]
          have hlb : decide (seq ≤ s.heard) = true := decide_eq_true (by omega)
          clear he hr' hgf
          go_enter Try.func67, Try.ntmps67
          go_wp2_with (first | (go_at_call 52; refine (tallymanref19_GetFrame.calls 20000000 A0 c0 l0 false seq body 0 w hr hc hg).mono ?_; rintro e w1 ⟨v1, rfl, ho, hbel⟩; obtain ⟨A1, c1, rfl, hc1, hC1⟩ := Kd.R_reads ho; have hbx := blk_alloc (blk_below hb hbel) (.cells #[.bool false, .int .u64 seq, .slice A1 (body).length c1] 75); have hnx := blk_new w1 (.cells #[.bool false, .int .u64 seq, .slice A1 (body).length c1] 75); obtain ⟨d0_, d1_, d2_, d3_, d4_, d5_, y0_, y1_, y2_, y3_, y4_, y5_⟩ := readsR hbx; have hat := AtR.alloc (AtR.below h' hbel) (.cells #[.bool false, .int .u64 seq, .slice A1 (body).length c1] 75); have hng : w1.heap.size ≠ g := Nat.ne_of_gt (AtR.lt (AtR.below h' hbel)); have hgn : g ≠ w1.heap.size := hng.symm; have hK0 := (Near.of_below hbel g).trans (Near.of_below (below_alloc (Below.refl w1.heap.size w1) (.cells #[.bool false, .int .u64 seq, .slice A1 (body).length c1] 75)) g); have hRx := Kd.R_types (Kd.R_alloc (Kd.R_below hR hbel) (.cells #[.bool false, .int .u64 seq, .slice A1 (body).length c1] 75)) hbx (by decide); have hox := Kd.R_types (Kd.R_alloc ho (.cells #[.bool false, .int .u64 seq, .slice A1 (body).length c1] 75)) hbx (by decide)) | (go_at_call 55; refine (tallymanref19_PutFrame.calls 20000000 true seq none 0 [] p _ (Kd.C_nil _ _) (Nat.le_refl _) hp).mono ?_; rintro e w2 ⟨v2, rfl, ho2, hbel2⟩; have hb2 := (hbel2.block g (blk_lt hbx)).trans hbx; have hn2 := (hbel2.block w1.heap.size (blk_lt hnx)).trans hnx; obtain ⟨e0_, e1_, e2_, e3_, e4_, e5_, x0_, x1_, x2_, x3_, x4_, x5_⟩ := readsR hb2; have b1_ : w2.cell? ⟨w1.heap.size, 1, none⟩ = some (.int .u64 seq) := blk_cell hn2 1; have b2_ : w2.cell? ⟨w1.heap.size, 2, none⟩ = some (.slice A1 body.length c1) := blk_cell hn2 2))
          repeat (go_quiet (fail); go_wp2_with (first | (go_at_call 52; refine (tallymanref19_GetFrame.calls 20000000 A0 c0 l0 false seq body 0 w hr hc hg).mono ?_; rintro e w1 ⟨v1, rfl, ho, hbel⟩; obtain ⟨A1, c1, rfl, hc1, hC1⟩ := Kd.R_reads ho; have hbx := blk_alloc (blk_below hb hbel) (.cells #[.bool false, .int .u64 seq, .slice A1 (body).length c1] 75); have hnx := blk_new w1 (.cells #[.bool false, .int .u64 seq, .slice A1 (body).length c1] 75); obtain ⟨d0_, d1_, d2_, d3_, d4_, d5_, y0_, y1_, y2_, y3_, y4_, y5_⟩ := readsR hbx; have hat := AtR.alloc (AtR.below h' hbel) (.cells #[.bool false, .int .u64 seq, .slice A1 (body).length c1] 75); have hng : w1.heap.size ≠ g := Nat.ne_of_gt (AtR.lt (AtR.below h' hbel)); have hgn : g ≠ w1.heap.size := hng.symm; have hK0 := (Near.of_below hbel g).trans (Near.of_below (below_alloc (Below.refl w1.heap.size w1) (.cells #[.bool false, .int .u64 seq, .slice A1 (body).length c1] 75)) g); have hRx := Kd.R_types (Kd.R_alloc (Kd.R_below hR hbel) (.cells #[.bool false, .int .u64 seq, .slice A1 (body).length c1] 75)) hbx (by decide); have hox := Kd.R_types (Kd.R_alloc ho (.cells #[.bool false, .int .u64 seq, .slice A1 (body).length c1] 75)) hbx (by decide)) | (go_at_call 55; refine (tallymanref19_PutFrame.calls 20000000 true seq none 0 [] p _ (Kd.C_nil _ _) (Nat.le_refl _) hp).mono ?_; rintro e w2 ⟨v2, rfl, ho2, hbel2⟩; have hb2 := (hbel2.block g (blk_lt hbx)).trans hbx; have hn2 := (hbel2.block w1.heap.size (blk_lt hnx)).trans hnx; obtain ⟨e0_, e1_, e2_, e3_, e4_, e5_, x0_, x1_, x2_, x3_, x4_, x5_⟩ := readsR hb2; have b1_ : w2.cell? ⟨w1.heap.size, 1, none⟩ = some (.int .u64 seq) := blk_cell hn2 1; have b2_ : w2.cell? ⟨w1.heap.size, 2, none⟩ = some (.slice A1 body.length c1) := blk_cell hn2 2)))
          go_ret3
          exact ⟨_, _, rfl, ⟨0, Kd.R_nil _ _ _ _ _⟩, ⟨_, Kd.R_drewN ho2 _⟩, AtR.drewN (AtR.below (AtR.drewN hat _) hbel2) _, ((Near.drewN hK0 _).trans (Near.of_below hbel2 g)).drewN _⟩
end Go.Proofs.Ytlaojndlelcdaaa.Links
namespace Go.Proofs.Ytlaojndlelcdaaa.Links
open Go.RowKit Go.Proofs.Ytlaojndlelcdaaa.P Go.Proofs.Ytlaojndlelcdaaa.Pure Go.Proofs.YtlaojndlelcdaaaW.PrintWords Go.Proofs.YtlaojndlelcdaaaW.PrintLast Go.Proofs.YtlaojndlelcdaaaW.PrintMore

/-- One call of the law's list. -/
structure S101 where
  f0 : Int
  f1 : Bool
  f2 : Int
  f3 : (List Int)
def z101 : S101 := ⟨(0 : Int), false, (0 : Int), ([] : List Int)⟩
def k101 : Kd S101 := Kd.iso (Kd.pair (Kd.int .i64) (Kd.pair Kd.bool (Kd.pair (Kd.int .u64) (Kd.slice 5 (Kd.int .u8))))) (fun x : S101 => (x.f0, x.f1, x.f2, x.f3))
theorem k101_open {w : World} {x : S101} {cs : List Value} (h : k101.K w x cs) : ∃ A3 c3, cs = [.int .i64 x.f0, .bool x.f1, .int .u64 x.f2, .slice A3 x.f3.length c3] ∧ x.f3.length ≤ c3 ∧ (Kd.int .u8).C w A3 x.f3.length x.f3 := by
  obtain ⟨_, _, rfl, rfl, ⟨_, _, rfl, rfl, ⟨_, _, rfl, rfl, ⟨A3, c3, rfl, l3, g3⟩⟩⟩⟩ := h
  exact ⟨A3, c3, rfl, l3, g3⟩
def rd_T101 (xs : List S101) (i : Int) : S101 := xs.getD i.toNat z101
theorem cell_lt {w : World} {a : Addr} {v : Value} (h : w.cell? a = some v) : a.block < w.heap.size := by
  rcases Nat.lt_or_ge a.block w.heap.size with h1 | h1
  · exact h1
  · have : w.heap[a.block]? = none := by simp [h1]
    simp [World.cell?, this] at h
theorem at_T101 {w w1 : World} {A : Option Addr} {n : Nat} {xs : List S101} (h : Kd.C k101 w A n xs) (hb : Below w.heap.size w w1) (i : Int) (h0 : 0 ≤ i) (h1 : i < n) : ∃ ad A3 c3, A = some ad ∧ w1.cell? (ad.add (i.toNat * 4)) = some (.int .i64 (rd_T101 xs i).f0) ∧ w1.cell? ⟨(ad.add (i.toNat * 4)).block, (ad.add (i.toNat * 4)).off + 1, none⟩ = some (.bool (rd_T101 xs i).f1) ∧ w1.cell? ⟨(ad.add (i.toNat * 4)).block, (ad.add (i.toNat * 4)).off + 2, none⟩ = some (.int .u64 (rd_T101 xs i).f2) ∧ w1.cell? ⟨(ad.add (i.toNat * 4)).block, (ad.add (i.toNat * 4)).off + 3, none⟩ = some (.slice A3 (rd_T101 xs i).f3.length c3) ∧ (rd_T101 xs i).f3.length ≤ c3 ∧ (Kd.int .u8).C w A3 (rd_T101 xs i).f3.length (rd_T101 xs i).f3 := by
  obtain ⟨ad, c, e, _, hK, hc0⟩ := Kd.C_get h z101 i h0 h1
  have hc : ∀ j u, c[j]? = some u → w.cell? (ad.add (i.toNat * 4 + j)) = some u := hc0
  obtain ⟨A3, c3, rfl, l3, g3⟩ := k101_open hK
  have hd : ∀ j u, ([.int .i64 (xs.getD i.toNat z101).f0, .bool (xs.getD i.toNat z101).f1, .int .u64 (xs.getD i.toNat z101).f2, .slice A3 (xs.getD i.toNat z101).f3.length c3] : List Value)[j]? = some u → w1.cell? (ad.add (i.toNat * 4 + j)) = some u := fun j u hj => (Below.cell hb (cell_lt (hc j u hj))).trans (hc j u hj)
  exact ⟨ad, A3, c3, e, hd 0 _ rfl, by rw [← add_field _ _ 1 (by omega)]; exact hd 1 _ rfl, by rw [← add_field _ _ 2 (by omega)]; exact hd 2 _ rfl, by rw [← add_field _ _ 3 (by omega)]; exact hd 3 _ rfl, l3, g3⟩

theorem say_wait (s : L) (b : List Int) (h : s.wait.length ≤ 131100) : (sayL s b).1.wait.length ≤ 131100 ∧ (sayL s b).1.heard = s.heard := by
  unfold sayL
  split
  · exact ⟨h, rfl⟩
  · split
    · exact ⟨h, rfl⟩
    · split
      · exact ⟨h, rfl⟩
      · exact ⟨putF_len _, rfl⟩
theorem tick_wait (s : L) (h : s.wait.length ≤ 131100) : (tickL s).1.wait.length ≤ 131100 ∧ (tickL s).1.heard = s.heard := by
  unfold tickL
  split
  · exact ⟨h, rfl⟩
  · split
    · exact ⟨h, rfl⟩
    · exact ⟨h, rfl⟩
theorem hear_wait (s : L) (l : List Int) (h : s.wait.length ≤ 131100) (i : Nat) (h0 : 0 ≤ s.heard) (h1 : s.heard ≤ i) (hi : i < 1000) : (hearL s l).1.wait.length ≤ 131100 ∧ 0 ≤ (hearL s l).1.heard ∧ (hearL s l).1.heard ≤ (i + 1 : Nat) := by
  have hu : up s.heard = s.heard + 1 := by unfold up; rw [IntKind.wrap_u64]; omega
  unfold hearL
  split
  · exact ⟨h, h0, by dsimp only; omega⟩
  · split
    · split
      · exact ⟨h, h0, by dsimp only; omega⟩
      · exact ⟨h, h0, by dsimp only; omega⟩
    · split
      · exact ⟨h, h0, by dsimp only; omega⟩
      · split
        · exact ⟨h, by simp; omega, by simp; omega⟩
        · exact ⟨h, h0, by dsimp only; omega⟩
theorem Rk.nearR {W W' : World} {g : Nat} {s : L} {v : Value} {xs : List Int} (h : Rk W v xs) (hA : AtR W g s) (hN : Near W W' g) : Rk W' v xs := by
  obtain ⟨base, h⟩ := h
  obtain ⟨_, _, hb, _⟩ := hA
  exact ⟨base, Kd.R_mono (Kd.R_keep (Kd.R_types h hb (by decide)) hN.1 (fun k hk => hk.2)) (fun _ _ => trivial)⟩
end Go.Proofs.Ytlaojndlelcdaaa.Links
