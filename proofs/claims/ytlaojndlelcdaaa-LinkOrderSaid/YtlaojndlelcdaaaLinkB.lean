import Derived.Test.YtlaojndlelcdaaaPx1
import Derived.Test.YtlaojndlelcdaaaPx15
import Derived.Test.YtlaojndlelcdaaaPx16
import Derived.Test.YtlaojndlelcdaaaLinkA
namespace Go.Proofs.Ytlaojndlelcdaaa.Links
open Go.RowKit Go.Proofs.Ytlaojndlelcdaaa.P Go.Proofs.YtlaojndlelcdaaaW.PrintWords Go.Proofs.YtlaojndlelcdaaaW.PrintLast Go.Proofs.YtlaojndlelcdaaaW.PrintMore

/-- What Tick answers. -/
def tick (s : L) : Option (L × List Int × Int) :=
  if s.busy = false then some (s, [], 5) else
  if s.tries ≥ 12 then some (⟨s.said, s.heard, s.wait, false, s.tries, true⟩, [], 12) else
  if s.wait.length < 140737488355328 then some (⟨s.said, s.heard, s.wait, s.busy, wrap64 (s.tries + 1), s.lost⟩, s.wait, 0) else none

theorem Tick_calls (g : Nat) (s s' : L) (r : List Int) (e : Int) (w : World) (h : At w g s) (hf : tick s = some (s', r, e)) :
    Calls Try.prog 60 #[.pointer (some ⟨g, 0, none⟩)] w fun e' w' => ∃ v, e' = .returned (.tuple #[v, .int .i64 e]) ∧ Kd.R (Kd.int .u8) 5 w' w.heap.size (fun _ => True) v r ∧ At w' g s' ∧ Near w w' g := by
  have h' := h
  have hB := Busy_calls g s w h'
  obtain ⟨v, base, hb, hR⟩ := h
  obtain ⟨A2, c2, rfl, hc2, hC2⟩ := Kd.R_reads hR
  obtain ⟨c0_, c1_, c2_, c3_, c4_, c5_, z0_, z1_, z2_, z3_, z4_, z5_⟩ := reads_ hb
  unfold tick at hf
  cases hbz : s.busy with
  | false =>
    rw [if_pos hbz] at hf
    simp only [Option.some.injEq, Prod.mk.injEq] at hf
    obtain ⟨rfl, rfl, rfl⟩ := hf
    rw [hbz] at hB
    go_enter Try.func60, Try.ntmps60
    go_wp2_with (go_at_call 62; refine hB.mono ?_; rintro e w' ⟨rfl, rfl⟩)
    go_ret2
    exact ⟨_, rfl, Kd.R_nil _ _ _ _ _, h', Near.refl _ _⟩
  | true =>
    rw [if_neg (by rw [hbz]; simp)] at hf
    rw [hbz] at hB
    by_cases ht : s.tries ≥ 12
    · rw [if_pos ht] at hf
      simp only [Option.some.injEq, Prod.mk.injEq] at hf
      obtain ⟨rfl, rfl, rfl⟩ := hf
      have htb : decide ((12 : Int) ≤ s.tries) = true := decide_eq_true ht
      have hb5 := blk_put (blk_put hb 5 (.bool true) rfl) 3 (.bool false) rfl
      have hK5 := ((Near.refl w g).set_ 5 (.bool true)).set_ 3 (.bool false)
      have hR5 := Kd.R_keep (Kd.R_types hR hb (by decide)) hK5.1 (fun k hk => hk.2)
      go_enter Try.func60, Try.ntmps60
      go_wp2_with (go_at_call 62; refine hB.mono ?_; rintro e w' ⟨rfl, rfl⟩)
      go_ret2
      exact ⟨_, rfl, Kd.R_nil _ _ _ _ _, ⟨_, _, hb5, Kd.R_mono hR5 (fun _ _ => trivial)⟩, hK5⟩
    · rw [if_neg ht] at hf
      have htb : decide ((12 : Int) ≤ s.tries) = false := decide_eq_false ht
      by_cases hm : s.wait.length < 140737488355328
      · rw [if_pos hm] at hf
        simp only [Option.some.injEq, Prod.mk.injEq] at hf
        obtain ⟨rfl, rfl, rfl⟩ := hf
        have hb5 := blk_put hb 4 (.int .i64 (wrap64 (s.tries + 1))) rfl
        have hK5 := (Near.refl w g).set_ 4 (.int .i64 (wrap64 (s.tries + 1)))
        have hR5 := Kd.R_keep (Kd.R_types hR hb (by decide)) hK5.1 (fun k hk => hk.2)
        obtain ⟨_, _, hC5⟩ := Kd.R_reads' hR5
        go_enter Try.func60, Try.ntmps60
        go_wp2_with (first
          | (go_at_call 62; refine hB.mono ?_; rintro e w' ⟨rfl, rfl⟩)
          | (go_at_call 68; refine (bytes_Clone.calls A2 c2 s.wait s.wait _ hC5 hc2 (by simp [bytes_Clone.f, hm])).mono ?_; rintro e w6 ⟨v6, rfl, ho6, hbel6⟩))
        go_ret2
        exact ⟨_, rfl, Kd.R_lower ho6 hK5.size, ⟨_, _, blk_below hb5 hbel6, Kd.R_mono (Kd.R_below hR5 hbel6) (fun _ _ => trivial)⟩, hK5.trans (Near.of_below hbel6 g)⟩
      · rw [if_neg hm] at hf
        simp at hf

/-- What Hear answers. -/
def hear (k : Nat) (s : L) (b : List Int) : Option (L × List Int × Bool × List Int) :=
  (frame_Get.f k b).bind fun x =>
    if x.2.2.2 ≠ 0 then some (s, [], false, []) else
    if x.1 = true then (if s.busy = true ∧ x.2.1 = s.said then some (⟨s.said, s.heard, s.wait, false, 0, s.lost⟩, [], false, []) else some (s, [], false, [])) else
    if IntKind.u64.wrap (s.heard + 1) < x.2.1 then some (s, [], false, []) else
    (frame_Put.f k true x.2.1 []).bind fun r =>
      if x.2.1 = IntKind.u64.wrap (s.heard + 1) then some (⟨s.said, IntKind.u64.wrap (s.heard + 1), s.wait, s.busy, s.tries, s.lost⟩, x.2.2.1, true, r) else some (s, [], false, r)

theorem Hear_calls (k : Nat) (g : Nat) (s s' : L) (A0 : Option Addr) (c0 : Nat) (l0 r r' : List Int) (is : Bool) (w : World) (h : At w g s) (hr : Kd.C (Kd.int .u8) w A0 l0.length l0) (hc : l0.length ≤ c0) (hf : hear k s l0 = some (s', r, is, r')) :
    Calls Try.prog 61 #[.pointer (some ⟨g, 0, none⟩), .slice A0 l0.length c0] w fun e' w' => ∃ v v', e' = .returned (.tuple #[v, .bool is, v']) ∧ Kd.R (Kd.int .u8) 5 w' w.heap.size (fun _ => True) v r ∧ Kd.R (Kd.int .u8) 5 w' w.heap.size (fun _ => True) v' r' ∧ At w' g s' ∧ Near w w' g := by
  have h' := h
  obtain ⟨v, base, hb, hR⟩ := h
  obtain ⟨c0_, c1_, c2_, c3_, c4_, c5_, z0_, z1_, z2_, z3_, z4_, z5_⟩ := reads_ hb
  unfold hear at hf
  obtain ⟨⟨ack, seq, body, er⟩, hg, hf⟩ := Option.bind_eq_some_iff.1 hf
  dsimp only at hf
  by_cases h0 : er ≠ 0
  · rw [if_pos h0] at hf
    simp only [Option.some.injEq, Prod.mk.injEq] at hf
    obtain ⟨rfl, rfl, rfl, rfl⟩ := hf
    have h0b : (er != 0) = true := bne_iff_ne.2 h0
    have h0c : (er == 0) = false := beq_eq_false_iff_ne.2 h0
    go_enter Try.func61, Try.ntmps61
    go_wp2_with (go_at_call 51; refine (frame_Get.calls k A0 c0 l0 ack seq body er w hr hc hg).mono ?_; rintro e w1 ⟨v1, rfl, ho, hbel⟩; obtain ⟨A1, c1, rfl, hc1, hC1⟩ := Kd.R_reads ho; have hbx := blk_alloc (blk_below hb hbel) (.cells #[.bool ack, .int .u64 seq, .slice A1 body.length c1] 69); have hnx := blk_new w1 (.cells #[.bool ack, .int .u64 seq, .slice A1 body.length c1] 69); obtain ⟨d0_, d1_, d2_, d3_, d4_, d5_, y0_, y1_, y2_, y3_, y4_, y5_⟩ := reads_ hbx; have hB := Busy_calls g s _ (At.below (At.below h' hbel) (below_alloc (Below.refl _ _) (.cells #[.bool ack, .int .u64 seq, .slice A1 body.length c1] 69))))
    go_ret3
    exact ⟨_, _, rfl, Kd.R_nil _ _ _ _ _, Kd.R_nil _ _ _ _ _, At.below (At.below h' hbel) (below_alloc (Below.refl _ _) _), (Near.of_below hbel g).trans (Near.of_below (below_alloc (Below.refl _ _) _) g)⟩
  · rw [if_neg h0] at hf
    have h0' : er = 0 := by simpa using h0
    subst h0'
    cases ack with
    | true =>
      rw [if_pos rfl] at hf
      by_cases hq : s.busy = true ∧ seq = s.said
      · rw [if_pos hq] at hf
        simp only [Option.some.injEq, Prod.mk.injEq] at hf
        obtain ⟨rfl, rfl, rfl, rfl⟩ := hf
        obtain ⟨hq1, hq2⟩ := hq
        subst hq2
        go_enter Try.func61, Try.ntmps61
        go_wp2_with (first
          | (go_at_call 51; refine (frame_Get.calls k A0 c0 l0 true s.said body _ w hr hc hg).mono ?_; rintro e w1 ⟨v1, rfl, ho, hbel⟩; obtain ⟨A1, c1, rfl, hc1, hC1⟩ := Kd.R_reads ho; have hbx := blk_alloc (blk_below hb hbel) (.cells #[.bool true, .int .u64 s.said, .slice A1 body.length c1] 69); have hnx := blk_new w1 (.cells #[.bool true, .int .u64 s.said, .slice A1 body.length c1] 69); obtain ⟨d0_, d1_, d2_, d3_, d4_, d5_, y0_, y1_, y2_, y3_, y4_, y5_⟩ := reads_ hbx; have hat := At.alloc (At.below h' hbel) (.cells #[.bool true, .int .u64 s.said, .slice A1 body.length c1] 69); have hng : w1.heap.size ≠ g := Nat.ne_of_gt (At.lt (At.below h' hbel)); have hgn : g ≠ w1.heap.size := hng.symm; have hK0 := (Near.of_below hbel g).trans (Near.of_below (below_alloc (Below.refl w1.heap.size w1) (.cells #[.bool true, .int .u64 s.said, .slice A1 body.length c1] 69)) g); have hRx := Kd.R_types (Kd.R_alloc (Kd.R_below hR hbel) (.cells #[.bool true, .int .u64 s.said, .slice A1 body.length c1] 69)) hbx (by decide); have hox := Kd.R_types (Kd.R_alloc ho (.cells #[.bool true, .int .u64 s.said, .slice A1 body.length c1] 69)) hbx (by decide))
          | (go_at_call 62; refine (Busy_calls g s _ (by repeat (first | exact hat | apply At.drewN))).mono ?_; rw [hq1]; rintro e w' ⟨rfl, rfl⟩))
        repeat (go_quiet (first
          | (go_at_call 62; refine (Busy_calls g s _ (by repeat (first | exact hat | apply At.drewN))).mono ?_; rw [hq1]; rintro e w' ⟨rfl, rfl⟩; exact ⟨rfl, _, rfl⟩)
          | (fail)); go_wp2_with (first
          | (go_at_call 51; refine (frame_Get.calls k A0 c0 l0 true s.said body _ w hr hc hg).mono ?_; rintro e w1 ⟨v1, rfl, ho, hbel⟩; obtain ⟨A1, c1, rfl, hc1, hC1⟩ := Kd.R_reads ho; have hbx := blk_alloc (blk_below hb hbel) (.cells #[.bool true, .int .u64 s.said, .slice A1 body.length c1] 69); have hnx := blk_new w1 (.cells #[.bool true, .int .u64 s.said, .slice A1 body.length c1] 69); obtain ⟨d0_, d1_, d2_, d3_, d4_, d5_, y0_, y1_, y2_, y3_, y4_, y5_⟩ := reads_ hbx; have hat := At.alloc (At.below h' hbel) (.cells #[.bool true, .int .u64 s.said, .slice A1 body.length c1] 69); have hng : w1.heap.size ≠ g := Nat.ne_of_gt (At.lt (At.below h' hbel)); have hgn : g ≠ w1.heap.size := hng.symm; have hK0 := (Near.of_below hbel g).trans (Near.of_below (below_alloc (Below.refl w1.heap.size w1) (.cells #[.bool true, .int .u64 s.said, .slice A1 body.length c1] 69)) g); have hRx := Kd.R_types (Kd.R_alloc (Kd.R_below hR hbel) (.cells #[.bool true, .int .u64 s.said, .slice A1 body.length c1] 69)) hbx (by decide); have hox := Kd.R_types (Kd.R_alloc ho (.cells #[.bool true, .int .u64 s.said, .slice A1 body.length c1] 69)) hbx (by decide))
          | (go_at_call 62; refine (Busy_calls g s _ (by repeat (first | exact hat | apply At.drewN))).mono ?_; rw [hq1]; rintro e w' ⟨rfl, rfl⟩)))
        go_ret3
        refine ⟨_, _, rfl, Kd.R_nil _ _ _ _ _, Kd.R_nil _ _ _ _ _, ⟨v, base, ?hb, ?hR⟩, ?hk⟩
        case hb => exact blk_put (blk_put (blk_drewN hbx _) 3 _ rfl) 4 _ rfl
        case hR => exact Kd.R_mono (Kd.R_keep hRx (((Near.drewN (Near.refl _ g) _).set_ 3 _).set_ 4 _).1 (fun k hk => hk.2)) (fun _ _ => trivial)
        case hk => exact ((Near.drewN hK0 _).set_ 3 _).set_ 4 _
      · rw [if_neg hq] at hf
        simp only [Option.some.injEq, Prod.mk.injEq] at hf
        obtain ⟨rfl, rfl, rfl, rfl⟩ := hf
        cases hq1 : s.busy with
        | false =>
          go_enter Try.func61, Try.ntmps61
          go_wp2_with (first
            | (go_at_call 51; refine (frame_Get.calls k A0 c0 l0 true seq body _ w hr hc hg).mono ?_; rintro e w1 ⟨v1, rfl, ho, hbel⟩; obtain ⟨A1, c1, rfl, hc1, hC1⟩ := Kd.R_reads ho; have hbx := blk_alloc (blk_below hb hbel) (.cells #[.bool true, .int .u64 seq, .slice A1 body.length c1] 69); have hnx := blk_new w1 (.cells #[.bool true, .int .u64 seq, .slice A1 body.length c1] 69); obtain ⟨d0_, d1_, d2_, d3_, d4_, d5_, y0_, y1_, y2_, y3_, y4_, y5_⟩ := reads_ hbx; have hat := At.alloc (At.below h' hbel) (.cells #[.bool true, .int .u64 seq, .slice A1 body.length c1] 69); have hng : w1.heap.size ≠ g := Nat.ne_of_gt (At.lt (At.below h' hbel)); have hgn : g ≠ w1.heap.size := hng.symm; have hK0 := (Near.of_below hbel g).trans (Near.of_below (below_alloc (Below.refl w1.heap.size w1) (.cells #[.bool true, .int .u64 seq, .slice A1 body.length c1] 69)) g); have hRx := Kd.R_types (Kd.R_alloc (Kd.R_below hR hbel) (.cells #[.bool true, .int .u64 seq, .slice A1 body.length c1] 69)) hbx (by decide); have hox := Kd.R_types (Kd.R_alloc ho (.cells #[.bool true, .int .u64 seq, .slice A1 body.length c1] 69)) hbx (by decide))
            | (go_at_call 62; refine (Busy_calls g s _ (by repeat (first | exact hat | apply At.drewN))).mono ?_; rw [hq1]; rintro e w' ⟨rfl, rfl⟩))
          repeat (go_quiet (first
            | (go_at_call 62; refine (Busy_calls g s _ (by repeat (first | exact hat | apply At.drewN))).mono ?_; rw [hq1]; rintro e w' ⟨rfl, rfl⟩; exact ⟨rfl, _, rfl⟩)
            | (fail)); go_wp2_with (first
            | (go_at_call 51; refine (frame_Get.calls k A0 c0 l0 true seq body _ w hr hc hg).mono ?_; rintro e w1 ⟨v1, rfl, ho, hbel⟩; obtain ⟨A1, c1, rfl, hc1, hC1⟩ := Kd.R_reads ho; have hbx := blk_alloc (blk_below hb hbel) (.cells #[.bool true, .int .u64 seq, .slice A1 body.length c1] 69); have hnx := blk_new w1 (.cells #[.bool true, .int .u64 seq, .slice A1 body.length c1] 69); obtain ⟨d0_, d1_, d2_, d3_, d4_, d5_, y0_, y1_, y2_, y3_, y4_, y5_⟩ := reads_ hbx; have hat := At.alloc (At.below h' hbel) (.cells #[.bool true, .int .u64 seq, .slice A1 body.length c1] 69); have hng : w1.heap.size ≠ g := Nat.ne_of_gt (At.lt (At.below h' hbel)); have hgn : g ≠ w1.heap.size := hng.symm; have hK0 := (Near.of_below hbel g).trans (Near.of_below (below_alloc (Below.refl w1.heap.size w1) (.cells #[.bool true, .int .u64 seq, .slice A1 body.length c1] 69)) g); have hRx := Kd.R_types (Kd.R_alloc (Kd.R_below hR hbel) (.cells #[.bool true, .int .u64 seq, .slice A1 body.length c1] 69)) hbx (by decide); have hox := Kd.R_types (Kd.R_alloc ho (.cells #[.bool true, .int .u64 seq, .slice A1 body.length c1] 69)) hbx (by decide))
            | (go_at_call 62; refine (Busy_calls g s _ (by repeat (first | exact hat | apply At.drewN))).mono ?_; rw [hq1]; rintro e w' ⟨rfl, rfl⟩)))
          go_ret3
          exact ⟨_, _, rfl, Kd.R_nil _ _ _ _ _, Kd.R_nil _ _ _ _ _, (by repeat (first | exact hat | apply At.drewN)), (by repeat (first | exact hK0 | apply Near.drewN))⟩
        | true =>
          have hq2 : ¬ seq = s.said := fun h => hq ⟨hq1, h⟩
          have hq2b : (seq == s.said) = false := beq_eq_false_iff_ne.2 hq2
          go_enter Try.func61, Try.ntmps61
          go_wp2_with (first
            | (go_at_call 51; refine (frame_Get.calls k A0 c0 l0 true seq body _ w hr hc hg).mono ?_; rintro e w1 ⟨v1, rfl, ho, hbel⟩; obtain ⟨A1, c1, rfl, hc1, hC1⟩ := Kd.R_reads ho; have hbx := blk_alloc (blk_below hb hbel) (.cells #[.bool true, .int .u64 seq, .slice A1 body.length c1] 69); have hnx := blk_new w1 (.cells #[.bool true, .int .u64 seq, .slice A1 body.length c1] 69); obtain ⟨d0_, d1_, d2_, d3_, d4_, d5_, y0_, y1_, y2_, y3_, y4_, y5_⟩ := reads_ hbx; have hat := At.alloc (At.below h' hbel) (.cells #[.bool true, .int .u64 seq, .slice A1 body.length c1] 69); have hng : w1.heap.size ≠ g := Nat.ne_of_gt (At.lt (At.below h' hbel)); have hgn : g ≠ w1.heap.size := hng.symm; have hK0 := (Near.of_below hbel g).trans (Near.of_below (below_alloc (Below.refl w1.heap.size w1) (.cells #[.bool true, .int .u64 seq, .slice A1 body.length c1] 69)) g); have hRx := Kd.R_types (Kd.R_alloc (Kd.R_below hR hbel) (.cells #[.bool true, .int .u64 seq, .slice A1 body.length c1] 69)) hbx (by decide); have hox := Kd.R_types (Kd.R_alloc ho (.cells #[.bool true, .int .u64 seq, .slice A1 body.length c1] 69)) hbx (by decide))
            | (go_at_call 62; refine (Busy_calls g s _ (by repeat (first | exact hat | apply At.drewN))).mono ?_; rw [hq1]; rintro e w' ⟨rfl, rfl⟩))
          repeat (go_quiet (first
            | (go_at_call 62; refine (Busy_calls g s _ (by repeat (first | exact hat | apply At.drewN))).mono ?_; rw [hq1]; rintro e w' ⟨rfl, rfl⟩; exact ⟨rfl, _, rfl⟩)
            | (fail)); go_wp2_with (first
            | (go_at_call 51; refine (frame_Get.calls k A0 c0 l0 true seq body _ w hr hc hg).mono ?_; rintro e w1 ⟨v1, rfl, ho, hbel⟩; obtain ⟨A1, c1, rfl, hc1, hC1⟩ := Kd.R_reads ho; have hbx := blk_alloc (blk_below hb hbel) (.cells #[.bool true, .int .u64 seq, .slice A1 body.length c1] 69); have hnx := blk_new w1 (.cells #[.bool true, .int .u64 seq, .slice A1 body.length c1] 69); obtain ⟨d0_, d1_, d2_, d3_, d4_, d5_, y0_, y1_, y2_, y3_, y4_, y5_⟩ := reads_ hbx; have hat := At.alloc (At.below h' hbel) (.cells #[.bool true, .int .u64 seq, .slice A1 body.length c1] 69); have hng : w1.heap.size ≠ g := Nat.ne_of_gt (At.lt (At.below h' hbel)); have hgn : g ≠ w1.heap.size := hng.symm; have hK0 := (Near.of_below hbel g).trans (Near.of_below (below_alloc (Below.refl w1.heap.size w1) (.cells #[.bool true, .int .u64 seq, .slice A1 body.length c1] 69)) g); have hRx := Kd.R_types (Kd.R_alloc (Kd.R_below hR hbel) (.cells #[.bool true, .int .u64 seq, .slice A1 body.length c1] 69)) hbx (by decide); have hox := Kd.R_types (Kd.R_alloc ho (.cells #[.bool true, .int .u64 seq, .slice A1 body.length c1] 69)) hbx (by decide))
            | (go_at_call 62; refine (Busy_calls g s _ (by repeat (first | exact hat | apply At.drewN))).mono ?_; rw [hq1]; rintro e w' ⟨rfl, rfl⟩)))
          go_ret3
          exact ⟨_, _, rfl, Kd.R_nil _ _ _ _ _, Kd.R_nil _ _ _ _ _, (by repeat (first | exact hat | apply At.drewN)), (by repeat (first | exact hK0 | apply Near.drewN))⟩
    | false =>
      rw [if_neg (by simp)] at hf
      by_cases hq : IntKind.u64.wrap (s.heard + 1) < seq
      · rw [if_pos hq] at hf
        simp only [Option.some.injEq, Prod.mk.injEq] at hf
        obtain ⟨rfl, rfl, rfl, rfl⟩ := hf
        have hqb : decide (IntKind.u64.wrap (s.heard + 1) < seq) = true := decide_eq_true hq
        go_enter Try.func61, Try.ntmps61
        go_wp2_with (first
          | (go_at_call 51; refine (frame_Get.calls k A0 c0 l0 false seq body _ w hr hc hg).mono ?_; rintro e w1 ⟨v1, rfl, ho, hbel⟩; obtain ⟨A1, c1, rfl, hc1, hC1⟩ := Kd.R_reads ho; have hbx := blk_alloc (blk_below hb hbel) (.cells #[.bool false, .int .u64 seq, .slice A1 body.length c1] 69); have hnx := blk_new w1 (.cells #[.bool false, .int .u64 seq, .slice A1 body.length c1] 69); obtain ⟨d0_, d1_, d2_, d3_, d4_, d5_, y0_, y1_, y2_, y3_, y4_, y5_⟩ := reads_ hbx; have hat := At.alloc (At.below h' hbel) (.cells #[.bool false, .int .u64 seq, .slice A1 body.length c1] 69); have hng : w1.heap.size ≠ g := Nat.ne_of_gt (At.lt (At.below h' hbel)); have hgn : g ≠ w1.heap.size := hng.symm; have hK0 := (Near.of_below hbel g).trans (Near.of_below (below_alloc (Below.refl w1.heap.size w1) (.cells #[.bool false, .int .u64 seq, .slice A1 body.length c1] 69)) g); have hRx := Kd.R_types (Kd.R_alloc (Kd.R_below hR hbel) (.cells #[.bool false, .int .u64 seq, .slice A1 body.length c1] 69)) hbx (by decide); have hox := Kd.R_types (Kd.R_alloc ho (.cells #[.bool false, .int .u64 seq, .slice A1 body.length c1] 69)) hbx (by decide))
          | (go_at_call 62; refine (Busy_calls g s _ (by repeat (first | exact hat | apply At.drewN))).mono ?_; rw [hq1]; rintro e w' ⟨rfl, rfl⟩))
        repeat (go_quiet (first
          | (go_at_call 62; refine (Busy_calls g s _ (by repeat (first | exact hat | apply At.drewN))).mono ?_; rw [hq1]; rintro e w' ⟨rfl, rfl⟩; exact ⟨rfl, _, rfl⟩)
          | (fail)); go_wp2_with (first
          | (go_at_call 51; refine (frame_Get.calls k A0 c0 l0 false seq body _ w hr hc hg).mono ?_; rintro e w1 ⟨v1, rfl, ho, hbel⟩; obtain ⟨A1, c1, rfl, hc1, hC1⟩ := Kd.R_reads ho; have hbx := blk_alloc (blk_below hb hbel) (.cells #[.bool false, .int .u64 seq, .slice A1 body.length c1] 69); have hnx := blk_new w1 (.cells #[.bool false, .int .u64 seq, .slice A1 body.length c1] 69); obtain ⟨d0_, d1_, d2_, d3_, d4_, d5_, y0_, y1_, y2_, y3_, y4_, y5_⟩ := reads_ hbx; have hat := At.alloc (At.below h' hbel) (.cells #[.bool false, .int .u64 seq, .slice A1 body.length c1] 69); have hng : w1.heap.size ≠ g := Nat.ne_of_gt (At.lt (At.below h' hbel)); have hgn : g ≠ w1.heap.size := hng.symm; have hK0 := (Near.of_below hbel g).trans (Near.of_below (below_alloc (Below.refl w1.heap.size w1) (.cells #[.bool false, .int .u64 seq, .slice A1 body.length c1] 69)) g); have hRx := Kd.R_types (Kd.R_alloc (Kd.R_below hR hbel) (.cells #[.bool false, .int .u64 seq, .slice A1 body.length c1] 69)) hbx (by decide); have hox := Kd.R_types (Kd.R_alloc ho (.cells #[.bool false, .int .u64 seq, .slice A1 body.length c1] 69)) hbx (by decide))
          | (go_at_call 62; refine (Busy_calls g s _ (by repeat (first | exact hat | apply At.drewN))).mono ?_; rw [hq1]; rintro e w' ⟨rfl, rfl⟩)))
        go_ret3
        exact ⟨_, _, rfl, Kd.R_nil _ _ _ _ _, Kd.R_nil _ _ _ _ _, (by repeat (first | exact hat | apply At.drewN)), (by repeat (first | exact hK0 | apply Near.drewN))⟩
      · rw [if_neg hq] at hf
        have hqb : decide (IntKind.u64.wrap (s.heard + 1) < seq) = false := decide_eq_false hq
        obtain ⟨p, hp, hf⟩ := Option.bind_eq_some_iff.1 hf
        by_cases he : seq = IntKind.u64.wrap (s.heard + 1)
        · rw [if_pos he] at hf
          simp only [Option.some.injEq, Prod.mk.injEq] at hf
          obtain ⟨rfl, rfl, rfl, rfl⟩ := hf
          have he' := he.symm
          clear he hqb hq
          rw [he']
          go_enter Try.func61, Try.ntmps61
          go_wp2_with (first
            | (go_at_call 51; refine (frame_Get.calls k A0 c0 l0 false seq body _ w hr hc hg).mono ?_; rintro e w1 ⟨v1, rfl, ho, hbel⟩; obtain ⟨A1, c1, rfl, hc1, hC1⟩ := Kd.R_reads ho; have hbx := blk_alloc (blk_below hb hbel) (.cells #[.bool false, .int .u64 seq, .slice A1 body.length c1] 69); have hnx := blk_new w1 (.cells #[.bool false, .int .u64 seq, .slice A1 body.length c1] 69); obtain ⟨d0_, d1_, d2_, d3_, d4_, d5_, y0_, y1_, y2_, y3_, y4_, y5_⟩ := reads_ hbx; have hat := At.alloc (At.below h' hbel) (.cells #[.bool false, .int .u64 seq, .slice A1 body.length c1] 69); have hng : w1.heap.size ≠ g := Nat.ne_of_gt (At.lt (At.below h' hbel)); have hgn : g ≠ w1.heap.size := hng.symm; have hK0 := (Near.of_below hbel g).trans (Near.of_below (below_alloc (Below.refl w1.heap.size w1) (.cells #[.bool false, .int .u64 seq, .slice A1 body.length c1] 69)) g); have hRx := Kd.R_types (Kd.R_alloc (Kd.R_below hR hbel) (.cells #[.bool false, .int .u64 seq, .slice A1 body.length c1] 69)) hbx (by decide); have hox := Kd.R_types (Kd.R_alloc ho (.cells #[.bool false, .int .u64 seq, .slice A1 body.length c1] 69)) hbx (by decide))
            | (go_at_call 62; refine (Busy_calls g s _ (by repeat (first | exact hat | apply At.drewN))).mono ?_; rw [hq1]; rintro e w' ⟨rfl, rfl⟩)
            | (go_at_call 50; refine (frame_Put.calls k true seq none 0 [] p _ (Kd.C_nil _ _) (Nat.le_refl _) hp).mono ?_; rintro e w2 ⟨v2, rfl, ho2, hbel2⟩))
          repeat (go_quiet (first
            | (go_at_call 62; refine (Busy_calls g s _ (by repeat (first | exact hat | apply At.drewN))).mono ?_; rw [hq1]; rintro e w' ⟨rfl, rfl⟩; exact ⟨rfl, _, rfl⟩)
            | (fail)); go_wp2_with (first
            | (go_at_call 51; refine (frame_Get.calls k A0 c0 l0 false seq body _ w hr hc hg).mono ?_; rintro e w1 ⟨v1, rfl, ho, hbel⟩; obtain ⟨A1, c1, rfl, hc1, hC1⟩ := Kd.R_reads ho; have hbx := blk_alloc (blk_below hb hbel) (.cells #[.bool false, .int .u64 seq, .slice A1 body.length c1] 69); have hnx := blk_new w1 (.cells #[.bool false, .int .u64 seq, .slice A1 body.length c1] 69); obtain ⟨d0_, d1_, d2_, d3_, d4_, d5_, y0_, y1_, y2_, y3_, y4_, y5_⟩ := reads_ hbx; have hat := At.alloc (At.below h' hbel) (.cells #[.bool false, .int .u64 seq, .slice A1 body.length c1] 69); have hng : w1.heap.size ≠ g := Nat.ne_of_gt (At.lt (At.below h' hbel)); have hgn : g ≠ w1.heap.size := hng.symm; have hK0 := (Near.of_below hbel g).trans (Near.of_below (below_alloc (Below.refl w1.heap.size w1) (.cells #[.bool false, .int .u64 seq, .slice A1 body.length c1] 69)) g); have hRx := Kd.R_types (Kd.R_alloc (Kd.R_below hR hbel) (.cells #[.bool false, .int .u64 seq, .slice A1 body.length c1] 69)) hbx (by decide); have hox := Kd.R_types (Kd.R_alloc ho (.cells #[.bool false, .int .u64 seq, .slice A1 body.length c1] 69)) hbx (by decide))
            | (go_at_call 62; refine (Busy_calls g s _ (by repeat (first | exact hat | apply At.drewN))).mono ?_; rw [hq1]; rintro e w' ⟨rfl, rfl⟩)
            | (go_at_call 50; refine (frame_Put.calls k true seq none 0 [] p _ (Kd.C_nil _ _) (Nat.le_refl _) hp).mono ?_; rintro e w2 ⟨v2, rfl, ho2, hbel2⟩)))
          go_ret3
          refine ⟨_, _, rfl, ?ho, ?ho2, ⟨v, base, ?hb, ?hR⟩, ?hk⟩
          case hb => exact blk_below (blk_put (blk_drewN hbx _) 1 _ rfl) hbel2
          case hR => exact Kd.R_mono (Kd.R_below (Kd.R_keep hRx ((Near.drewN (Near.refl _ g) _).set_ 1 _).1 (fun k hk => hk.2)) hbel2) (fun _ _ => trivial)
          case ho => exact Kd.R_mono (Kd.R_below (Kd.R_keep hox ((Near.drewN (Near.refl _ g) _).set_ 1 _).1 (fun k hk => hk.2)) hbel2) (fun _ _ => trivial)
          case ho2 => exact Kd.R_lower ho2 ((Near.drewN hK0 _).set_ 1 _).size
          case hk => exact ((Near.drewN hK0 _).set_ 1 _).trans (Near.of_below hbel2 g)
        · rw [if_neg he] at hf
          simp only [Option.some.injEq, Prod.mk.injEq] at hf
          obtain ⟨rfl, rfl, rfl, rfl⟩ := hf
          have heb : (seq == IntKind.u64.wrap (s.heard + 1)) = false := beq_eq_false_iff_ne.2 he
          go_enter Try.func61, Try.ntmps61
          go_wp2_with (first
            | (go_at_call 51; refine (frame_Get.calls k A0 c0 l0 false seq body _ w hr hc hg).mono ?_; rintro e w1 ⟨v1, rfl, ho, hbel⟩; obtain ⟨A1, c1, rfl, hc1, hC1⟩ := Kd.R_reads ho; have hbx := blk_alloc (blk_below hb hbel) (.cells #[.bool false, .int .u64 seq, .slice A1 body.length c1] 69); have hnx := blk_new w1 (.cells #[.bool false, .int .u64 seq, .slice A1 body.length c1] 69); obtain ⟨d0_, d1_, d2_, d3_, d4_, d5_, y0_, y1_, y2_, y3_, y4_, y5_⟩ := reads_ hbx; have hat := At.alloc (At.below h' hbel) (.cells #[.bool false, .int .u64 seq, .slice A1 body.length c1] 69); have hng : w1.heap.size ≠ g := Nat.ne_of_gt (At.lt (At.below h' hbel)); have hgn : g ≠ w1.heap.size := hng.symm; have hK0 := (Near.of_below hbel g).trans (Near.of_below (below_alloc (Below.refl w1.heap.size w1) (.cells #[.bool false, .int .u64 seq, .slice A1 body.length c1] 69)) g); have hRx := Kd.R_types (Kd.R_alloc (Kd.R_below hR hbel) (.cells #[.bool false, .int .u64 seq, .slice A1 body.length c1] 69)) hbx (by decide); have hox := Kd.R_types (Kd.R_alloc ho (.cells #[.bool false, .int .u64 seq, .slice A1 body.length c1] 69)) hbx (by decide))
            | (go_at_call 62; refine (Busy_calls g s _ (by repeat (first | exact hat | apply At.drewN))).mono ?_; rw [hq1]; rintro e w' ⟨rfl, rfl⟩)
            | (go_at_call 50; refine (frame_Put.calls k true seq none 0 [] p _ (Kd.C_nil _ _) (Nat.le_refl _) hp).mono ?_; rintro e w2 ⟨v2, rfl, ho2, hbel2⟩))
          repeat (go_quiet (first
            | (go_at_call 62; refine (Busy_calls g s _ (by repeat (first | exact hat | apply At.drewN))).mono ?_; rw [hq1]; rintro e w' ⟨rfl, rfl⟩; exact ⟨rfl, _, rfl⟩)
            | (fail)); go_wp2_with (first
            | (go_at_call 51; refine (frame_Get.calls k A0 c0 l0 false seq body _ w hr hc hg).mono ?_; rintro e w1 ⟨v1, rfl, ho, hbel⟩; obtain ⟨A1, c1, rfl, hc1, hC1⟩ := Kd.R_reads ho; have hbx := blk_alloc (blk_below hb hbel) (.cells #[.bool false, .int .u64 seq, .slice A1 body.length c1] 69); have hnx := blk_new w1 (.cells #[.bool false, .int .u64 seq, .slice A1 body.length c1] 69); obtain ⟨d0_, d1_, d2_, d3_, d4_, d5_, y0_, y1_, y2_, y3_, y4_, y5_⟩ := reads_ hbx; have hat := At.alloc (At.below h' hbel) (.cells #[.bool false, .int .u64 seq, .slice A1 body.length c1] 69); have hng : w1.heap.size ≠ g := Nat.ne_of_gt (At.lt (At.below h' hbel)); have hgn : g ≠ w1.heap.size := hng.symm; have hK0 := (Near.of_below hbel g).trans (Near.of_below (below_alloc (Below.refl w1.heap.size w1) (.cells #[.bool false, .int .u64 seq, .slice A1 body.length c1] 69)) g); have hRx := Kd.R_types (Kd.R_alloc (Kd.R_below hR hbel) (.cells #[.bool false, .int .u64 seq, .slice A1 body.length c1] 69)) hbx (by decide); have hox := Kd.R_types (Kd.R_alloc ho (.cells #[.bool false, .int .u64 seq, .slice A1 body.length c1] 69)) hbx (by decide))
            | (go_at_call 62; refine (Busy_calls g s _ (by repeat (first | exact hat | apply At.drewN))).mono ?_; rw [hq1]; rintro e w' ⟨rfl, rfl⟩)
            | (go_at_call 50; refine (frame_Put.calls k true seq none 0 [] p _ (Kd.C_nil _ _) (Nat.le_refl _) hp).mono ?_; rintro e w2 ⟨v2, rfl, ho2, hbel2⟩)))
          go_ret3
          refine ⟨_, _, rfl, Kd.R_nil _ _ _ _ _, ?ho2, ?hat, ?hk⟩
          case hat => exact At.below (At.drewN hat _) hbel2
          case ho2 => exact Kd.R_lower ho2 (Near.drewN hK0 _).size
          case hk => exact (Near.drewN hK0 _).trans (Near.of_below hbel2 g)
end Go.Proofs.Ytlaojndlelcdaaa.Links
