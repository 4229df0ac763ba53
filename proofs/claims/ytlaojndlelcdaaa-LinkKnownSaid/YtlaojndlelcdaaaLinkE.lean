/- LinkTries, walked: true of all bytes and every number. -/
import Derived.Test.YtlaojndlelcdaaaLinkD
namespace Go.Proofs.Ytlaojndlelcdaaa.Links
open Go.RowKit Go.Proofs.Ytlaojndlelcdaaa.P Go.Proofs.Ytlaojndlelcdaaa.Pure Go.Proofs.YtlaojndlelcdaaaW.PrintWords Go.Proofs.YtlaojndlelcdaaaW.PrintLast Go.Proofs.YtlaojndlelcdaaaW.PrintMore

/-- The link behind i Ticks. -/
def st (F : List Int) (i : Nat) : L := if i ≤ 11 then ⟨1, 0, F, true, i + 1, false⟩ else ⟨1, 0, F, false, 12, true⟩
theorem st0 (F : List Int) : st F 0 = ⟨1, 0, F, true, 1, false⟩ := rfl
theorem st_wait (F : List Int) (i : Nat) : (st F i).wait = F := by unfold st; split <;> rfl
theorem tick_lt (F : List Int) (i : Nat) (h : i < 11) : tickL (st F i) = (st F (i + 1), F, 0) := by
  unfold tickL st
  rw [if_pos (show i ≤ 11 by omega), if_pos (show i + 1 ≤ 11 by omega)]
  dsimp only
  rw [if_neg (by simp), if_neg (by omega)]
  congr 2
  unfold wrap64
  omega
theorem tick_at (F : List Int) : tickL (st F 11) = (st F 12, [], 12) := by
  unfold tickL st
  simp
theorem tick_gt (F : List Int) (i : Nat) (h : 11 < i) : tickL (st F i) = (st F (i + 1), [], 5) := by
  unfold tickL st
  rw [if_neg (show ¬ i ≤ 11 by omega), if_neg (show ¬ i + 1 ≤ 11 by omega)]
  simp
theorem say0 (b : List Int) (h : b.length ≤ 500) : ∃ F : List Int, sayL L0 b = (⟨1, 0, F, true, 1, false⟩, F, 0) ∧ F.length ≤ 131100 := by
  refine ⟨putF ⟨false, 1, b⟩, ?_, putF_len _⟩
  unfold sayL L0
  rw [up0, if_neg (by simp), if_neg (by omega), if_neg (by simp)]

set_option maxHeartbeats 8000000 in
set_option maxRecDepth 100000 in
theorem LinkTries_calls (A0 : Option Addr) (c0 : Nat) (l0 : List Int) (n : Int) (w : World) (hr0 : Kd.C (Kd.int .u8) w A0 l0.length l0) (hc0 : l0.length ≤ c0) :
    Calls Try.prog 20 #[.slice A0 l0.length c0, .int .i64 n] w fun e w' => e = .returned (.bool true) ∧ Below w.heap.size w w' := by
  by_cases h1 : (500 : Int) < (l0.length : Int)
  · have h1b : decide ((500 : Int) < (l0.length : Int)) = true := decide_eq_true h1
    go_enter Try.func20, Try.ntmps20
    go_wp2_with (go_at_call 57; refine (awake_calls w).mono ?_; rintro e wa ⟨rfl, ba⟩)
    go_ret
    exact ⟨rfl, ba⟩
  by_cases h2 : n < 0
  · have h1b : decide ((500 : Int) < (l0.length : Int)) = false := decide_eq_false h1
    have h2b : decide (n < (0 : Int)) = true := decide_eq_true h2
    go_enter Try.func20, Try.ntmps20
    go_wp2_with (go_at_call 57; refine (awake_calls w).mono ?_; rintro e wa ⟨rfl, ba⟩)
    go_ret
    exact ⟨rfl, ba⟩
  by_cases h3 : 30 < n
  · have h1b : decide ((500 : Int) < (l0.length : Int)) = false := decide_eq_false h1
    have h2b : decide (n < (0 : Int)) = false := decide_eq_false h2
    have h3b : decide ((30 : Int) < n) = true := decide_eq_true h3
    go_enter Try.func20, Try.ntmps20
    go_wp2_with (go_at_call 57; refine (awake_calls w).mono ?_; rintro e wa ⟨rfl, ba⟩)
    go_ret
    exact ⟨rfl, ba⟩
  have h1b : decide ((500 : Int) < (l0.length : Int)) = false := decide_eq_false h1
  obtain ⟨m, rfl⟩ : ∃ m : Nat, n = m := ⟨n.toNat, by omega⟩
  have h2b : decide ((m : Int) < (0 : Int)) = false := decide_eq_false h2
  have h3b : decide ((30 : Int) < (m : Int)) = false := decide_eq_false h3
  have hm : m ≤ 30 := by omega
  obtain ⟨F, hs0, hF⟩ := say0 l0 (by omega)
  clear h1 h2 h3
  go_enter Try.func20, Try.ntmps20
  go_wp2_with (first
    | (go_at_call 57; refine (awake_calls w).mono ?_; rintro e wa ⟨rfl, ba⟩; have hC1 := Kd.C_below hr0 ba)
    | (go_at_call 58; refine (New_calls wa).mono ?_; rintro e wb ⟨rfl, hA, bb⟩; have hC2 := Kd.C_below hC1 bb)
    | (go_at_call 59; have hS := SayL wa.heap.size L0 A0 c0 l0 wb hA hC2 hc0 (Kd.far_C 0 hC1 (Nat.le_refl _)); rw [hs0] at hS; refine hS.mono ?_; clear hS; rintro e w1 ⟨v1, rfl, hR1, hA1, hN1⟩; obtain ⟨A1, c1, rfl, hc1, hC3⟩ := Kd.R_reads hR1))
  have B1 : Below w.heap.size w w1 := by
    have s1 := ba.size
    have s2 := bb.size
    exact (ba.trans (bb.mono s1)).trans (hN1.below (B := w.heap.size) (by omega) (by omega))
  have hg0 : w.heap.size ≤ wa.heap.size := ba.size
  clear hs0 hC1 hC2 hr0 hA bb ba hN1 hC3
  rw [← st0] at hA1
  go_loopg [8] m (fun gg s8 wr => ∃ i base : Nat, i ≤ m ∧ gg = m - i ∧ s8 = .int .i64 i ∧ At wr wa.heap.size (st F i) ∧ Kd.R (Kd.int .u8) 5 wr base (fun _ => True) (.slice A1 F.length c1) F ∧ Below w.heap.size w wr)
  case atStart => exact ⟨0, _, Nat.zero_le _, rfl, rfl, hA1, hR1, B1⟩
  case round =>
    obtain ⟨i, base, hi, rfl, rfl, hAt, hR, hB⟩ := hrel
    by_cases hlt : i < m
    · have hltb : decide ((i : Int) < (m : Int)) = true := decide_eq_true (by omega)
      have hT := TickL wa.heap.size (st F i) wr hAt (by rw [st_wait]; omega)
      obtain ⟨vv, bs, hblk, _⟩ := id hAt
      by_cases h11 : i < 11
      · rw [tick_lt F i h11] at hT
        have h11b : decide ((i : Int) < (11 : Int)) = true := decide_eq_true (by omega)
        have htr : (st F (i + 1)).tries = (i : Int) + 2 := by unfold st; rw [if_pos (by omega)]; dsimp only; omega
        have hbz : (st F (i + 1)).busy = true := by unfold st; rw [if_pos (by omega)]
        have hwr : IntKind.i64.wrap ((i : Int) + 2) = (i : Int) + 2 := by rw [IntKind.wrap_i64]; omega
        go_wp2_with (fail)
        refine hT.mono ?_
        clear hT
        rintro e w2 ⟨v2, rfl, hR2, hA2, hN2⟩
        obtain ⟨A2, c2, rfl, hc2, hC2⟩ := Kd.R_reads hR2
        have hRk := Kd.R_mono (ok' := fun _ => True) (Kd.R_keep (Kd.R_types hR hblk (by decide)) hN2.1 (fun k hk => hk.2)) (fun _ _ => trivial)
        have hs2 : (convert 24 9 (.slice A2 F.length c2)).run Try.prog w2 = .ok (.string (strOfNums F)) w2 := C_string_n Try.underlying24 Try.underlying5 Try.underlying9 hC2 rfl
        have hs1 : (convert 24 9 (.slice A1 F.length c1)).run Try.prog w2 = .ok (.string (strOfNums F)) w2 := C_string_n Try.underlying24 Try.underlying5 Try.underlying9 (Kd.R_reads' hRk).2.2 rfl
        have hTr := Tries_calls _ _ _ hA2
        rw [htr] at hTr
        have hBz := Busy_calls _ _ _ hA2
        rw [hbz] at hBz
        dsimp only
        go_wp2_with (first
          | (go_at_call 64; refine hTr.mono ?_; rintro e w' ⟨rfl, rfl⟩)
          | (go_at_call 62; refine hBz.mono ?_; rintro e w' ⟨rfl, rfl⟩))
        go_roundg (m - (i + 1))
        case measure => omega
        case rel => exact ⟨i + 1, base, by omega, rfl, by go_num, hA2, hRk, hB.trans (hN2.below (B := w.heap.size) (by have := hB.size; omega) hg0)⟩
      · have h11b : decide ((i : Int) < (11 : Int)) = false := decide_eq_false (by omega)
        by_cases h12 : i = 11
        · subst h12
          rw [tick_at F] at hT
          have hbz : (st F (11 + 1)).busy = false := rfl
          have hlz : (st F (11 + 1)).lost = true := rfl
          go_wp2_with (fail)
          refine hT.mono ?_
          clear hT
          rintro e w2 ⟨v2, rfl, hR2, hA2, hN2⟩
          obtain ⟨A2, c2, rfl, hc2, hC2⟩ := Kd.R_reads hR2
          have hRk := Kd.R_mono (ok' := fun _ => True) (Kd.R_keep (Kd.R_types hR hblk (by decide)) hN2.1 (fun k hk => hk.2)) (fun _ _ => trivial)
          have hBz := Busy_calls _ _ _ hA2
          rw [hbz] at hBz
          have hLz := Lost_calls _ _ _ hA2
          rw [hlz] at hLz
          dsimp only
          go_wp2_with (first
            | (go_at_call 62; refine hBz.mono ?_; rintro e w' ⟨rfl, rfl⟩)
            | (go_at_call 63; refine hLz.mono ?_; rintro e w' ⟨rfl, rfl⟩))
          go_roundg (m - (11 + 1))
          case measure => omega
          case rel => exact ⟨11 + 1, base, by omega, rfl, by go_num, hA2, hRk, hB.trans (hN2.below (B := w.heap.size) (by have := hB.size; omega) hg0)⟩
        · rw [tick_gt F i (by omega)] at hT
          have h12b : ((i : Int) == (11 : Int)) = false := beq_eq_false_iff_ne.2 (by omega)
          go_wp2_with (fail)
          refine hT.mono ?_
          clear hT
          rintro e w2 ⟨v2, rfl, hR2, hA2, hN2⟩
          obtain ⟨A2, c2, rfl, hc2, hC2⟩ := Kd.R_reads hR2
          have hRk := Kd.R_mono (ok' := fun _ => True) (Kd.R_keep (Kd.R_types hR hblk (by decide)) hN2.1 (fun k hk => hk.2)) (fun _ _ => trivial)
          dsimp only
          go_wp2_with (fail)
          go_roundg (m - (i + 1))
          case measure => omega
          case rel => exact ⟨i + 1, base, by omega, rfl, by go_num, hA2, hRk, hB.trans (hN2.below (B := w.heap.size) (by have := hB.size; omega) hg0)⟩
    · have hltb : decide ((i : Int) < (m : Int)) = false := decide_eq_false (by omega)
      have him : i = m := by omega
      subst him
      have hLz := Lost_calls _ _ _ hAt
      have hlz : (st F i).lost = decide ((11 : Int) < (i : Int)) := by
        unfold st
        by_cases hx : i ≤ 11
        · rw [if_pos hx]; exact (decide_eq_false (by omega)).symm
        · rw [if_neg hx]; exact (decide_eq_true (by omega)).symm
      rw [hlz] at hLz
      generalize hq : decide ((11 : Int) < (i : Int)) = q at hLz
      go_wp2_with (go_at_call 63; refine hLz.mono ?_; rintro e w' ⟨rfl, rfl⟩)
      go_ret
      exact ⟨by simp, hB⟩
end Go.Proofs.Ytlaojndlelcdaaa.Links
