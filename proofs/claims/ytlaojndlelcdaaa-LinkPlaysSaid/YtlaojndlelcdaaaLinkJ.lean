/- LinkPlays, walked: whatever is called, the link and the document's say the same. -/
import Derived.Test.YtlaojndlelcdaaaLinkG
namespace Go.Proofs.Ytlaojndlelcdaaa.Links
open Go.RowKit Go.Proofs.Ytlaojndlelcdaaa.P Go.Proofs.Ytlaojndlelcdaaa.Pure Go.Proofs.YtlaojndlelcdaaaW.PrintWords Go.Proofs.YtlaojndlelcdaaaW.PrintLast Go.Proofs.YtlaojndlelcdaaaW.PrintMore

theorem Rk.slice {W : World} {v : Value} {xs : List Int} (h : Rk W v xs) : ∃ A c, v = .slice A xs.length c := by
  obtain ⟨base, h⟩ := h
  obtain ⟨A, c, e, _, _⟩ := Kd.R_reads h
  exact ⟨A, c, e⟩
theorem newR (w : World) : AtR (w.alloc (.cells #[.int .u64 0, .int .u64 0, .bool false, .bool false, .int .i64 0, .slice none 0 0] 99)) w.heap.size L0 :=
  ⟨_, 0, blk_new _ _, Kd.R_nil _ _ _ _ _⟩

set_option maxHeartbeats 16000000 in
set_option maxRecDepth 100000 in
theorem LinkPlays_calls (A0 : Option Addr) (c0 : Nat) (l0 : List S101) (w : World) (hC0 : Kd.C k101 w A0 l0.length l0) (_hc0 : l0.length ≤ c0) (ok0 : ∀ x ∈ l0, ∀ y ∈ x.f3, (Lit.int .u8 y).wf = true) :
    Calls Try.prog 19 #[.slice A0 l0.length c0] w fun e w' => e = .returned (.bool true) ∧ Below w.heap.size w w' := by
  by_cases h1 : (100 : Int) < (l0.length : Int)
  · have h1b : decide ((100 : Int) < (l0.length : Int)) = true := decide_eq_true h1
    go_enter Try.func19, Try.ntmps19
    go_wp2_with (go_at_call 57; refine (awake_calls w).mono ?_; rintro e wa ⟨rfl, ba⟩)
    go_ret
    exact ⟨rfl, ba⟩
  have h1b : decide ((100 : Int) < (l0.length : Int)) = false := decide_eq_false h1
  have hl100 : l0.length ≤ 100 := by omega
  clear h1
  go_enter Try.func19, Try.ntmps19
  go_wp2_with (first
    | (go_at_call 57; refine (awake_calls w).mono ?_; rintro e wa ⟨rfl, ba⟩)
    | (go_at_call 58; refine (New_calls wa).mono ?_; rintro e wb ⟨rfl, hA, bb⟩))
  have hAR := newR wb
  have hlt := At.lt hA
  have hA' := At.alloc hA (.cells #[.int .u64 0, .int .u64 0, .bool false, .bool false, .int .i64 0, .slice none 0 0] 99)
  have B1 : Below w.heap.size w (wb.alloc (.cells #[.int .u64 0, .int .u64 0, .bool false, .bool false, .int .i64 0, .slice none 0 0] 99)) := below_alloc (ba.trans (bb.mono ba.size)) _
  have hga := ba.size
  have hgw : w.heap.size ≤ wb.heap.size := Nat.le_trans hga bb.size
  have hne : wa.heap.size ≠ wb.heap.size := Nat.ne_of_lt hlt
  generalize wa.heap.size = ga at *
  generalize wb.heap.size = gw at *
  clear hA ba bb hlt
  go_loopg [5] l0.length (fun gg s5 wr => ∃ (i : Nat) (s : L), i ≤ l0.length ∧ gg = l0.length - i ∧ s5 = .int .i64 i ∧ At wr ga s ∧ AtR wr gw s ∧ Below w.heap.size w wr ∧ (s.wait.length ≤ 131100 ∧ 0 ≤ s.heard ∧ s.heard ≤ i))
  case atStart => exact ⟨0, L0, Nat.zero_le _, rfl, rfl, hA', hAR, B1, by simp [L0]⟩
  case round =>
    obtain ⟨i, s, hi, rfl, rfl, hA, hW, hB, hs1, hs2, hs3⟩ := hrel
    by_cases hlt : i < l0.length
    · have hltb : decide ((i : Int) < (l0.length : Int)) = true := decide_eq_true (by omega)
      obtain ⟨ad, A3, c3, rfl, e0, e1, e2, e3, l3, hC3⟩ := at_T101 hC0 hB (i : Int) (by omega) (by omega)
      have hyb := ok0 _ (List.getElem_mem hlt)
      rw [show l0[i] = rd_T101 l0 (i : Int) from by simp [rd_T101, hlt]] at hyb
      generalize rd_T101 l0 (i : Int) = x at *
      obtain ⟨op, xa, xq, xb⟩ := x
      dsimp only at *
      simp only [Int.toNat_natCast] at *
      by_cases h3 : (300 : Int) < (xb.length : Int)
      · have h3b : decide ((300 : Int) < (xb.length : Int)) = true := decide_eq_true h3
        go_wp2_with (fail)
        go_ret
        exact ⟨rfl, below_alloc hB _⟩
      have h3b : decide ((300 : Int) < (xb.length : Int)) = false := decide_eq_false h3
      have hA1 := At.alloc hA (.cells #[.int .i64 op, .bool xa, .int .u64 xq, .slice A3 xb.length c3] 101)
      have hW1 := AtR.alloc hW (.cells #[.int .i64 op, .bool xa, .int .u64 xq, .slice A3 xb.length c3] 101)
      have hB1 := below_alloc hB (.cells #[.int .i64 op, .bool xa, .int .u64 xq, .slice A3 xb.length c3] 101)
      have hx1 := blk_new wr (.cells #[.int .i64 op, .bool xa, .int .u64 xq, .slice A3 xb.length c3] 101)
      have hxga : wr.heap.size ≠ ga := Nat.ne_of_gt (At.lt hA)
      have hxgw : wr.heap.size ≠ gw := Nat.ne_of_gt (AtR.lt hW)
      have hxlt1 := blk_lt hx1
      have hCx := Kd.C_below hC3 hB1
      have hfa := Kd.far_C 0 hC3 hga
      have hfw := Kd.far_C 0 hC3 hgw
      have hyb : Bytes xb := fun y hy => Pure.wf_u8 (hyb y hy)
      have q0 := blk_cell hx1 0
      have q1 := blk_cell hx1 1
      have q2 := blk_cell hx1 2
      have q3 := blk_cell hx1 3
      clear hC0
      by_cases h0 : op = 0
      · subst h0
        obtain ⟨s', r, e, hsay⟩ : ∃ s' r e, sayL s xb = (s', r, e) := ⟨_, _, _, rfl⟩
        have hwt := say_wait s xb hs1
        rw [hsay] at hwt
        replace hwt : s'.wait.length ≤ 131100 ∧ 0 ≤ s'.heard ∧ s'.heard ≤ (i + 1 : Nat) := ⟨hwt.1, by dsimp only at hwt; omega, by dsimp only at hwt; omega⟩
        have hT := SayL ga s A3 c3 xb (wr.alloc (.cells #[.int .i64 0, .bool xa, .int .u64 xq, .slice A3 xb.length c3] 101)) hA1 hCx l3 hfa
        rw [hsay] at hT
        go_wp2_with (fail)
        refine hT.mono ?_
        clear hT
        rintro e' w2 ⟨v2, rfl, hR2, hA2, hN2⟩
        obtain ⟨A2, c2, rfl, hc2, _⟩ := Kd.R_reads hR2
        dsimp only
        have hk2 : Rk w2 (.slice A2 r.length c2) r := ⟨_, hR2⟩
        have hW2 := AtR.keep hW1 hA1 hN2.1 hne.symm
        have hx2 := (hN2.1.2 wr.heap.size hxlt1 hxga (by simp)).trans hx1
        have hxlt2 := blk_lt hx2
        have hB2 := hB1.trans (hN2.below (B := w.heap.size) (by have := hB1.size; omega) hga)
        have q20 := blk_cell hx2 0
        have q21 := blk_cell hx2 1
        have q22 := blk_cell hx2 2
        have q23 := blk_cell hx2 3
        have hCx2 := Kd.C_below hC3 hB2
        have hT := SayR gw s A3 c3 xb w2 hW2 hCx2 l3 hfw
        rw [hsay] at hT
        go_wp2_with (fail)
        refine hT.mono ?_
        clear hT
        rintro e' w3 ⟨v3, rfl, hk3, hW3, hN3⟩
        obtain ⟨A4, c4, rfl⟩ := Rk.slice hk3
        dsimp only
        have hA3 := At.keepR hA2 hW2 hN3.1 hne
        have hx3 := (hN3.1.2 wr.heap.size hxlt2 hxgw (by simp)).trans hx2
        have hB3 := hB2.trans (hN3.below (B := w.heap.size) (by have := hB2.size; omega) hgw)
        have hk2' := Rk.nearR hk2 hW2 hN3
        have z1 := hk2'.str
        have z2 := hk3.str
        clear hk2 hk2' hk3 hR2 hc2
        have hB3' := hB3
        have hBz := Busy_calls ga _ _ hA3
        have hTz := Tries_calls ga _ _ hA3
        have hLz := Lost_calls ga _ _ hA3
        obtain ⟨vw, bw, hbw, _⟩ := id hW3
        obtain ⟨d0_, d1_, d2_, d3_, d4_, d5_, y0_, y1_, y2_, y3_, y4_, y5_⟩ := readsR hbw
        repeat (go_wp2_with (first | (go_at_call 62; refine hBz.mono ?_; rintro e w' ⟨rfl, rfl⟩) | (go_at_call 64; refine hTz.mono ?_; rintro e w' ⟨rfl, rfl⟩) | (go_at_call 63; refine hLz.mono ?_; rintro e w' ⟨rfl, rfl⟩)); go_quiet (first
          | (go_at_call 62; refine (Busy_calls ga _ _ (At.drewN hA3 _)).mono ?_; rintro e w' ⟨rfl, rfl⟩; exact ⟨rfl, _, rfl⟩)
          | (go_at_call 64; refine (Tries_calls ga _ _ (At.drewN hA3 _)).mono ?_; rintro e w' ⟨rfl, rfl⟩; exact ⟨rfl, _, rfl⟩)
          | (go_at_call 63; refine (Lost_calls ga _ _ (At.drewN hA3 _)).mono ?_; rintro e w' ⟨rfl, rfl⟩; exact ⟨rfl, _, rfl⟩)))
        go_wp2_with (fail)
        go_roundg (l0.length - (i + 1))
        case measure => omega
        case rel => exact ⟨i + 1, s', by omega, rfl, by go_num, At.drewN hA3 _, AtR.drewN hW3 _, pw_below_drewN hB3 _, hwt⟩
      have h0b : (op == (0 : Int)) = false := beq_eq_false_iff_ne.2 h0
      by_cases h1 : op = 1
      · subst h1
        obtain ⟨s', r, e, hsay⟩ : ∃ s' r e, tickL s = (s', r, e) := ⟨_, _, _, rfl⟩
        have hwt := tick_wait s hs1
        rw [hsay] at hwt
        replace hwt : s'.wait.length ≤ 131100 ∧ 0 ≤ s'.heard ∧ s'.heard ≤ (i + 1 : Nat) := ⟨hwt.1, by dsimp only at hwt; omega, by dsimp only at hwt; omega⟩
        have hT := TickL ga s (wr.alloc (.cells #[.int .i64 1, .bool xa, .int .u64 xq, .slice A3 xb.length c3] 101)) hA1 hs1
        rw [hsay] at hT
        go_wp2_with (fail)
        refine hT.mono ?_
        clear hT
        rintro e' w2 ⟨v2, rfl, hR2, hA2, hN2⟩
        obtain ⟨A2, c2, rfl, hc2, _⟩ := Kd.R_reads hR2
        dsimp only
        have hk2 : Rk w2 (.slice A2 r.length c2) r := ⟨_, hR2⟩
        have hW2 := AtR.keep hW1 hA1 hN2.1 hne.symm
        have hx2 := (hN2.1.2 wr.heap.size hxlt1 hxga (by simp)).trans hx1
        have hxlt2 := blk_lt hx2
        have hB2 := hB1.trans (hN2.below (B := w.heap.size) (by have := hB1.size; omega) hga)
        have q20 := blk_cell hx2 0
        have q21 := blk_cell hx2 1
        have q22 := blk_cell hx2 2
        have q23 := blk_cell hx2 3
        have hCx2 := Kd.C_below hC3 hB2
        have hT := TickR gw s w2 hW2
        rw [hsay] at hT
        go_wp2_with (fail)
        refine hT.mono ?_
        clear hT
        rintro e' w3 ⟨v3, rfl, hk3, hW3, hN3⟩
        obtain ⟨A4, c4, rfl⟩ := Rk.slice hk3
        dsimp only
        have hA3 := At.keepR hA2 hW2 hN3.1 hne
        have hx3 := (hN3.1.2 wr.heap.size hxlt2 hxgw (by simp)).trans hx2
        have hB3 := hB2.trans (hN3.below (B := w.heap.size) (by have := hB2.size; omega) hgw)
        have hk2' := Rk.nearR hk2 hW2 hN3
        have z1 := hk2'.str
        have z2 := hk3.str
        clear hk2 hk2' hk3 hR2 hc2
        have hB3' := hB3
        have hBz := Busy_calls ga _ _ hA3
        have hTz := Tries_calls ga _ _ hA3
        have hLz := Lost_calls ga _ _ hA3
        obtain ⟨vw, bw, hbw, _⟩ := id hW3
        obtain ⟨d0_, d1_, d2_, d3_, d4_, d5_, y0_, y1_, y2_, y3_, y4_, y5_⟩ := readsR hbw
        repeat (go_wp2_with (first | (go_at_call 62; refine hBz.mono ?_; rintro e w' ⟨rfl, rfl⟩) | (go_at_call 64; refine hTz.mono ?_; rintro e w' ⟨rfl, rfl⟩) | (go_at_call 63; refine hLz.mono ?_; rintro e w' ⟨rfl, rfl⟩)); go_quiet (first
          | (go_at_call 62; refine (Busy_calls ga _ _ (At.drewN hA3 _)).mono ?_; rintro e w' ⟨rfl, rfl⟩; exact ⟨rfl, _, rfl⟩)
          | (go_at_call 64; refine (Tries_calls ga _ _ (At.drewN hA3 _)).mono ?_; rintro e w' ⟨rfl, rfl⟩; exact ⟨rfl, _, rfl⟩)
          | (go_at_call 63; refine (Lost_calls ga _ _ (At.drewN hA3 _)).mono ?_; rintro e w' ⟨rfl, rfl⟩; exact ⟨rfl, _, rfl⟩)))
        go_wp2_with (fail)
        go_roundg (l0.length - (i + 1))
        case measure => omega
        case rel => exact ⟨i + 1, s', by omega, rfl, by go_num, At.drewN hA3 _, AtR.drewN hW3 _, pw_below_drewN hB3 _, hwt⟩
      have h1b : (op == (1 : Int)) = false := beq_eq_false_iff_ne.2 h1
      by_cases h2 : op = 2
      · subst h2
        go_wp2_with (fail)
        refine (PutL ⟨xa, xq, xb⟩ A3 c3 (wr.alloc (.cells #[.int .i64 2, .bool xa, .int .u64 xq, .slice A3 xb.length c3] 101)) hCx l3).mono ?_
        rintro e' w5 ⟨v5, rfl, hR5, hb5⟩
        have hfb := putF_bytes ⟨xa, xq, xb⟩ hyb
        have hfl := putF_len ⟨xa, xq, xb⟩
        generalize putF ⟨xa, xq, xb⟩ = fb at *
        obtain ⟨A5, c5, rfl, hc5, hC5⟩ := Kd.R_reads hR5
        dsimp only
        have hA5 := At.below hA1 hb5
        have hW5 := AtR.below hW1 hb5
        have hx5 := (hb5.block wr.heap.size hxlt1).trans hx1
        have hxlt5 := blk_lt hx5
        have hB5 := hB1.trans (hb5.mono hB1.size)
        have hk5 : Rk w5 (.slice A5 fb.length c5) fb := ⟨_, hR5⟩
        obtain ⟨s', r, b, q, hsay⟩ : ∃ s' r b q, hearL s fb = (s', r, b, q) := ⟨_, _, _, _, rfl⟩
        have hwt := hear_wait s fb hs1 i hs2 hs3 (by omega)
        rw [hsay] at hwt
        have hT := HearL ga s A5 c5 fb w5 hA5 hC5 hc5 hfb (by omega)
        rw [hsay] at hT
        go_wp2_with (fail)
        refine hT.mono ?_
        clear hT
        rintro e' w2 ⟨v2, v2', rfl, hR2, hR2', hA2, hN2⟩
        obtain ⟨A2, c2, rfl, hc2, _⟩ := Kd.R_reads hR2
        obtain ⟨D2, d2, rfl, hd2, _⟩ := Kd.R_reads hR2'
        dsimp only
        have hk2 : Rk w2 (.slice A2 r.length c2) r := ⟨_, hR2⟩
        have hj2 : Rk w2 (.slice D2 q.length d2) q := ⟨_, hR2'⟩
        have hW2 := AtR.keep hW5 hA5 hN2.1 hne.symm
        have hx2 := (hN2.1.2 wr.heap.size hxlt5 hxga (by simp)).trans hx5
        have hxlt2 := blk_lt hx2
        have hB2 := hB5.trans (hN2.below (B := w.heap.size) (by have := hB5.size; omega) hga)
        have q20 := blk_cell hx2 0
        have q21 := blk_cell hx2 1
        have q22 := blk_cell hx2 2
        have q23 := blk_cell hx2 3
        have hT := HearR gw s A5 c5 fb w2 hW2 (Rk.near hk5 hA5 hN2).C.1 hc5 hfb (by omega) hs2 (by omega)
        rw [hsay] at hT
        go_wp2_with (fail)
        refine hT.mono ?_
        clear hT
        rintro e' w3 ⟨v3, v3', rfl, hk3, hj3, hW3, hN3⟩
        obtain ⟨A4, c4, rfl⟩ := Rk.slice hk3
        obtain ⟨D4, d4, rfl⟩ := Rk.slice hj3
        dsimp only
        have hA3 := At.keepR hA2 hW2 hN3.1 hne
        have hx3 := (hN3.1.2 wr.heap.size hxlt2 hxgw (by simp)).trans hx2
        have hB3 := hB2.trans (hN3.below (B := w.heap.size) (by have := hB2.size; omega) hgw)
        have hk2' := Rk.nearR hk2 hW2 hN3
        have hj2' := Rk.nearR hj2 hW2 hN3
        have z1 := hk2'.str
        have z2 := hk3.str
        have z3 := hj2'.str
        have z4 := hj3.str
        clear hk2 hk2' hk3 hR2 hc2 hj2 hj2' hj3 hR2' hd2
        have hB3' := hB3
        have hBz := Busy_calls ga _ _ hA3
        have hTz := Tries_calls ga _ _ hA3
        have hLz := Lost_calls ga _ _ hA3
        obtain ⟨vw, bw, hbw, _⟩ := id hW3
        obtain ⟨d0_, d1_, d2_, d3_, d4_, d5_, y0_, y1_, y2_, y3_, y4_, y5_⟩ := readsR hbw
        repeat (go_wp2_with (first | (go_at_call 62; refine hBz.mono ?_; rintro e w' ⟨rfl, rfl⟩) | (go_at_call 64; refine hTz.mono ?_; rintro e w' ⟨rfl, rfl⟩) | (go_at_call 63; refine hLz.mono ?_; rintro e w' ⟨rfl, rfl⟩)); go_quiet (first
          | (go_at_call 62; refine (Busy_calls ga _ _ (At.drewN hA3 _)).mono ?_; rintro e w' ⟨rfl, rfl⟩; exact ⟨rfl, _, rfl⟩)
          | (go_at_call 64; refine (Tries_calls ga _ _ (At.drewN hA3 _)).mono ?_; rintro e w' ⟨rfl, rfl⟩; exact ⟨rfl, _, rfl⟩)
          | (go_at_call 63; refine (Lost_calls ga _ _ (At.drewN hA3 _)).mono ?_; rintro e w' ⟨rfl, rfl⟩; exact ⟨rfl, _, rfl⟩)))
        go_wp2_with (fail)
        go_roundg (l0.length - (i + 1))
        case measure => omega
        case rel => exact ⟨i + 1, s', by omega, rfl, by go_num, At.drewN hA3 _, AtR.drewN hW3 _, pw_below_drewN hB3 _, hwt⟩
      · have h2b : (op == (2 : Int)) = false := beq_eq_false_iff_ne.2 h2
        obtain ⟨s', r, b, q, hsay⟩ : ∃ s' r b q, hearL s xb = (s', r, b, q) := ⟨_, _, _, _, rfl⟩
        have hwt := hear_wait s xb hs1 i hs2 hs3 (by omega)
        rw [hsay] at hwt
        have hT := HearL ga s A3 c3 xb (wr.alloc (.cells #[.int .i64 op, .bool xa, .int .u64 xq, .slice A3 xb.length c3] 101)) hA1 hCx l3 hyb (by omega)
        rw [hsay] at hT
        go_wp2_with (fail)
        refine hT.mono ?_
        clear hT
        rintro e' w2 ⟨v2, v2', rfl, hR2, hR2', hA2, hN2⟩
        obtain ⟨A2, c2, rfl, hc2, _⟩ := Kd.R_reads hR2
        obtain ⟨D2, d2, rfl, hd2, _⟩ := Kd.R_reads hR2'
        dsimp only
        have hk2 : Rk w2 (.slice A2 r.length c2) r := ⟨_, hR2⟩
        have hj2 : Rk w2 (.slice D2 q.length d2) q := ⟨_, hR2'⟩
        have hW2 := AtR.keep hW1 hA1 hN2.1 hne.symm
        have hx2 := (hN2.1.2 wr.heap.size hxlt1 hxga (by simp)).trans hx1
        have hxlt2 := blk_lt hx2
        have hB2 := hB1.trans (hN2.below (B := w.heap.size) (by have := hB1.size; omega) hga)
        have q20 := blk_cell hx2 0
        have q21 := blk_cell hx2 1
        have q22 := blk_cell hx2 2
        have q23 := blk_cell hx2 3
        have hT := HearR gw s A3 c3 xb w2 hW2 (Kd.C_below hC3 hB2) l3 hyb (by omega) hs2 (by omega)
        rw [hsay] at hT
        go_wp2_with (fail)
        refine hT.mono ?_
        clear hT
        rintro e' w3 ⟨v3, v3', rfl, hk3, hj3, hW3, hN3⟩
        obtain ⟨A4, c4, rfl⟩ := Rk.slice hk3
        obtain ⟨D4, d4, rfl⟩ := Rk.slice hj3
        dsimp only
        have hA3 := At.keepR hA2 hW2 hN3.1 hne
        have hx3 := (hN3.1.2 wr.heap.size hxlt2 hxgw (by simp)).trans hx2
        have hB3 := hB2.trans (hN3.below (B := w.heap.size) (by have := hB2.size; omega) hgw)
        have hk2' := Rk.nearR hk2 hW2 hN3
        have hj2' := Rk.nearR hj2 hW2 hN3
        have z1 := hk2'.str
        have z2 := hk3.str
        have z3 := hj2'.str
        have z4 := hj3.str
        clear hk2 hk2' hk3 hR2 hc2 hj2 hj2' hj3 hR2' hd2
        have hB3' := hB3
        have hBz := Busy_calls ga _ _ hA3
        have hTz := Tries_calls ga _ _ hA3
        have hLz := Lost_calls ga _ _ hA3
        obtain ⟨vw, bw, hbw, _⟩ := id hW3
        obtain ⟨d0_, d1_, d2_, d3_, d4_, d5_, y0_, y1_, y2_, y3_, y4_, y5_⟩ := readsR hbw
        repeat (go_wp2_with (first | (go_at_call 62; refine hBz.mono ?_; rintro e w' ⟨rfl, rfl⟩) | (go_at_call 64; refine hTz.mono ?_; rintro e w' ⟨rfl, rfl⟩) | (go_at_call 63; refine hLz.mono ?_; rintro e w' ⟨rfl, rfl⟩)); go_quiet (first
          | (go_at_call 62; refine (Busy_calls ga _ _ (At.drewN hA3 _)).mono ?_; rintro e w' ⟨rfl, rfl⟩; exact ⟨rfl, _, rfl⟩)
          | (go_at_call 64; refine (Tries_calls ga _ _ (At.drewN hA3 _)).mono ?_; rintro e w' ⟨rfl, rfl⟩; exact ⟨rfl, _, rfl⟩)
          | (go_at_call 63; refine (Lost_calls ga _ _ (At.drewN hA3 _)).mono ?_; rintro e w' ⟨rfl, rfl⟩; exact ⟨rfl, _, rfl⟩)))
        go_wp2_with (fail)
        go_roundg (l0.length - (i + 1))
        case measure => omega
        case rel => exact ⟨i + 1, s', by omega, rfl, by go_num, At.drewN hA3 _, AtR.drewN hW3 _, pw_below_drewN hB3 _, hwt⟩
    · have hltb : decide ((i : Int) < (l0.length : Int)) = false := decide_eq_false (by omega)
      go_wp2_with (fail)
      go_ret
      exact ⟨by simp, hB⟩
end Go.Proofs.Ytlaojndlelcdaaa.Links
