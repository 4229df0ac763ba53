/- The link's methods in plain words: what they hand back, and how they leave the link, as functions of lists and numbers. Two links hear each other, as the laws ask first. -/
import Derived.Test.YtlaojndlelcdaaaLinkB
import Derived.Test.YtlaojndlelcdaaaFrame
import Derived.Test.YtlaojndlelcdaaaPx0
import Derived.Test.YtlaojndlelcdaaaFrAwake
namespace Go.Proofs.Ytlaojndlelcdaaa.Links
open Go.RowKit Go.Proofs.Ytlaojndlelcdaaa.P Go.Proofs.Ytlaojndlelcdaaa.Pure Go.Proofs.YtlaojndlelcdaaaW.PrintWords Go.Proofs.YtlaojndlelcdaaaW.PrintLast Go.Proofs.YtlaojndlelcdaaaW.PrintMore

def up (n : Int) : Int := IntKind.u64.wrap (n + 1)
def sayL (s : L) (b : List Int) : L × List Int × Int :=
  if s.lost = true then (s, [], 12) else
  if (b.length : Int) > 131072 then (s, [], 9) else
  if s.busy = true then (s, [], 1) else
  (⟨up s.said, s.heard, putF ⟨false, up s.said, b⟩, true, 1, s.lost⟩, putF ⟨false, up s.said, b⟩, 0)
def tickL (s : L) : L × List Int × Int :=
  if s.busy = false then (s, [], 5) else
  if s.tries ≥ 12 then (⟨s.said, s.heard, s.wait, false, s.tries, true⟩, [], 12) else
  (⟨s.said, s.heard, s.wait, s.busy, wrap64 (s.tries + 1), s.lost⟩, s.wait, 0)
def hearL (s : L) (l : List Int) : L × List Int × Bool × List Int :=
  match getF l with
  | none => (s, [], false, [])
  | some f =>
    if f.ack = true then (if s.busy = true ∧ f.seq = s.said then (⟨s.said, s.heard, s.wait, false, 0, s.lost⟩, [], false, []) else (s, [], false, [])) else
    if up s.heard < f.seq then (s, [], false, []) else
    if f.seq = up s.heard then (⟨s.said, up s.heard, s.wait, s.busy, s.tries, s.lost⟩, f.b, true, putF ⟨true, f.seq, []⟩) else (s, [], false, putF ⟨true, f.seq, []⟩)

theorem putF_bytes (f : Fr) (h : Bytes f.b) : Bytes (putF f) := by
  unfold putF
  cases hg : goodF f
  · exact Bytes.nil
  · obtain ⟨h1, h2, h3, h4⟩ := good_seq hg
    refine seal_bytes ?_
    intro x hx
    rcases List.mem_cons.1 hx with rfl | hx
    · unfold Byte
      split <;> omega
    · exact ((enc9_bytes (by omega) (by omega)).append h) x hx
theorem putF_len (f : Fr) : (putF f).length ≤ 131100 := by
  unfold putF
  by_cases h : goodF f = true
  · rw [if_pos h]
    have hg := good_seq h
    have he := enc_len 9 f.seq
    have hb : f.b.length ≤ 131072 := hg.2.2.1
    simp [seal_len]
    omega
  · rw [if_neg h]
    simp

theorem say_eq (s : L) (b : List Int) : say 20000000 s b = some (sayL s b) := by
  unfold say sayL
  have hp := putF_eq ⟨false, IntKind.u64.wrap (s.said + 1), b⟩ 20000000 (by omega)
  have hl := putF_len ⟨false, IntKind.u64.wrap (s.said + 1), b⟩
  dsimp only at hp
  have hm : (putF ⟨false, IntKind.u64.wrap (s.said + 1), b⟩).length < 140737488355328 := by omega
  rw [hp, Option.bind_some]
  unfold up
  by_cases h1 : s.lost = true
  · rw [if_pos h1, if_pos h1]
  · rw [if_neg h1, if_neg h1]
    by_cases h2 : (b.length : Int) > 131072
    · rw [if_pos h2, if_pos h2]
    · rw [if_neg h2, if_neg h2]
      by_cases h3 : s.busy = true
      · rw [if_pos h3, if_pos h3]
      · rw [if_neg h3, if_neg h3, if_pos hm]
theorem tick_eq (s : L) (h : s.wait.length ≤ 131100) : tick s = some (tickL s) := by
  unfold tick tickL
  by_cases h1 : s.busy = false
  · rw [if_pos h1, if_pos h1]
  · rw [if_neg h1, if_neg h1]
    by_cases h2 : s.tries ≥ 12
    · rw [if_pos h2, if_pos h2]
    · rw [if_neg h2, if_neg h2, if_pos (show s.wait.length < 140737488355328 by omega)]
theorem hear_eq (s : L) (l : List Int) (hb : Bytes l) (hl : l.length ≤ 1000000) : hear 20000000 s l = some (hearL s l) := by
  unfold hear hearL
  rw [getF_eq l hb hl 20000000 (by omega), Option.bind_some]
  cases hg : getF l with
  | none => rfl
  | some f =>
    have hp := putF_eq ⟨true, f.seq, []⟩ 20000000 (by omega)
    dsimp only at hp ⊢
    rw [hp, Option.bind_some]
    unfold up
    rw [if_neg (by simp)]
    by_cases h1 : f.ack = true
    · rw [if_pos h1, if_pos h1]
      split <;> rfl
    · rw [if_neg h1, if_neg h1]
      split
      · rfl
      · split <;> rfl

theorem SayL (g : Nat) (s : L) (A0 : Option Addr) (c0 : Nat) (l0 : List Int) (w : World) (h : At w g s) (hr : Kd.C (Kd.int .u8) w A0 l0.length l0) (hc : l0.length ≤ c0) (hne : ∀ a, A0 = some a → 0 < l0.length → a.block ≠ g) :
    Calls Try.prog 59 #[.pointer (some ⟨g, 0, none⟩), .slice A0 l0.length c0] w fun e' w' => ∃ v, e' = .returned (.tuple #[v, .int .i64 (sayL s l0).2.2]) ∧ Kd.R (Kd.int .u8) 5 w' w.heap.size (fun _ => True) v (sayL s l0).2.1 ∧ At w' g (sayL s l0).1 ∧ Near w w' g :=
  Say_calls 20000000 g s _ A0 c0 l0 _ _ w h hr hc hne (say_eq s l0)
theorem TickL (g : Nat) (s : L) (w : World) (h : At w g s) (hw : s.wait.length ≤ 131100) :
    Calls Try.prog 60 #[.pointer (some ⟨g, 0, none⟩)] w fun e' w' => ∃ v, e' = .returned (.tuple #[v, .int .i64 (tickL s).2.2]) ∧ Kd.R (Kd.int .u8) 5 w' w.heap.size (fun _ => True) v (tickL s).2.1 ∧ At w' g (tickL s).1 ∧ Near w w' g :=
  Tick_calls g s _ _ _ w h (tick_eq s hw)
theorem HearL (g : Nat) (s : L) (A0 : Option Addr) (c0 : Nat) (l0 : List Int) (w : World) (h : At w g s) (hr : Kd.C (Kd.int .u8) w A0 l0.length l0) (hc : l0.length ≤ c0) (hb : Bytes l0) (hl : l0.length ≤ 1000000) :
    Calls Try.prog 61 #[.pointer (some ⟨g, 0, none⟩), .slice A0 l0.length c0] w fun e' w' => ∃ v v', e' = .returned (.tuple #[v, .bool (hearL s l0).2.2.1, v']) ∧ Kd.R (Kd.int .u8) 5 w' w.heap.size (fun _ => True) v (hearL s l0).2.1 ∧ Kd.R (Kd.int .u8) 5 w' w.heap.size (fun _ => True) v' (hearL s l0).2.2.2 ∧ At w' g (hearL s l0).1 ∧ Near w w' g :=
  Hear_calls 20000000 g s _ A0 c0 l0 _ _ _ w h hr hc (hear_eq s l0 hb hl)
end Go.Proofs.Ytlaojndlelcdaaa.Links
namespace Go.Proofs.Ytlaojndlelcdaaa.Links
open Go.RowKit Go.Proofs.Ytlaojndlelcdaaa.P Go.Proofs.Ytlaojndlelcdaaa.Pure Go.Proofs.YtlaojndlelcdaaaW.PrintWords Go.Proofs.YtlaojndlelcdaaaW.PrintLast Go.Proofs.YtlaojndlelcdaaaW.PrintMore

/-- A new link. -/
def L0 : L := ⟨0, 0, [], false, 0, false⟩
theorem up0 : up 0 = 1 := by decide
def FX : List Int := putF ⟨false, 1, [120]⟩
def AX : List Int := putF ⟨true, 1, []⟩
theorem sayX : sayL L0 [120] = (⟨1, 0, FX, true, 1, false⟩, FX, 0) := by
  unfold sayL L0 FX
  rw [up0]
  rfl
theorem hearX : hearL L0 FX = (⟨0, 1, [], false, 0, false⟩, [120], true, AX) := by
  unfold hearL FX
  rw [get_putF _ (by decide)]
  simp [L0, up0, AX]
theorem hearA : hearL ⟨1, 0, FX, true, 1, false⟩ AX = (⟨1, 0, FX, false, 0, false⟩, [], false, []) := by
  unfold hearL AX
  rw [get_putF _ (by decide)]
  simp
theorem FX_bytes : Bytes FX := putF_bytes _ (by intro x hx; simp at hx; subst hx; exact ⟨by decide, by decide⟩)
theorem FX_len : FX.length ≤ 1000000 := Nat.le_trans (putF_len _) (by omega)
theorem AX_bytes : Bytes AX := putF_bytes _ (by intro x hx; simp at hx)
theorem AX_len : AX.length ≤ 1000000 := Nat.le_trans (putF_len _) (by omega)

theorem talk : ∃ F A : List Int, sayL L0 [120] = (⟨1, 0, F, true, 1, false⟩, F, 0) ∧ hearL L0 F = (⟨0, 1, [], false, 0, false⟩, [120], true, A) ∧ hearL ⟨1, 0, F, true, 1, false⟩ A = (⟨1, 0, F, false, 0, false⟩, [], false, []) ∧ Bytes F ∧ F.length ≤ 1000000 ∧ Bytes A ∧ A.length ≤ 1000000 :=
  ⟨FX, AX, sayX, hearX, hearA, FX_bytes, FX_len, AX_bytes, AX_len⟩

set_option maxHeartbeats 8000000 in
set_option maxRecDepth 100000 in
theorem awake_calls (w : World) : Calls Try.prog 57 #[] w fun e w' => e = .returned (.bool true) ∧ Below w.heap.size w w' := by
  obtain ⟨F, K, sx, hx, ha, fb, fl, kb, kl⟩ := talk
  go_enter Try.func57, Try.ntmps57
  go_wp2_with (first
    | (go_at_call 58; refine (New_calls w).mono ?_; rintro e wa ⟨rfl, hA, ba⟩)
    | (go_at_call 58; refine (New_calls wa).mono ?_; rintro e wb ⟨rfl, hB, bb⟩; have hab : w.heap.size ≠ wa.heap.size := Nat.ne_of_lt (At.lt hA); replace hA := At.below hA bb)
    | ((with_reducible refine gate_dst (N := 22) rfl ?_); refine V_mlit (xs := [120]) (n := 1) (N := 22) ?hg ?hd (.tmp 21) (t := 24) (e := 5) rfl rfl Try.underlying24 Try.underlying5 rfl rfl (by decide) ?_; (case hd => rfl); (case hg => rfl); intro vx wx hv bx hg_ hnew; replace hA := At.below hA bx; replace hB := At.below hB bx)
    | (go_at_call 59; obtain ⟨Ax, cx, rfl, hcx, hFx⟩ := hv; have hS := SayL w.heap.size L0 Ax cx [120] _ hA (Kd.F_now hFx) hcx (by intro a ha _; subst ha; obtain ⟨b, hb1, hb2⟩ := hnew; have h3 := At.lt hA; have h4 := ba.size; have h5 := bb.size; simp [Value.ownBlock] at hb1; omega); rw [sx] at hS; refine hS.mono ?_; clear hS; rintro e w1 ⟨v1, rfl, hR1, hA1, hN1⟩; have hB1 := At.keep hB hA hab.symm hN1.1; obtain ⟨A1, c1, rfl, hc1, hC1⟩ := Kd.R_reads hR1)
    )
  have hS := HearL wa.heap.size L0 A1 c1 F w1 hB1 hC1 hc1 fb fl
  rw [hx] at hS
  refine hS.mono ?_
  clear hS
  rintro e w2 ⟨v2, v2', rfl, hR2, hR2', hB2, hN2⟩
  have hA2 := At.keep hA1 hB1 hab hN2.1
  obtain ⟨A2, c2, rfl, hc2, hC2⟩ := Kd.R_reads hR2
  obtain ⟨A2', c2', rfl, hc2', hC2'⟩ := Kd.R_reads hR2'
  dsimp only at *
  go_wp2_with (fail)
  have hS := HearL w.heap.size ⟨1, 0, F, true, 1, false⟩ A2' c2' K w2 hA2 hC2' hc2' kb kl
  rw [ha] at hS
  refine hS.mono ?_
  clear hS
  rintro e w3 ⟨v3, v3', rfl, hR3, hR3', hA3, hN3⟩
  obtain ⟨A3, c3, rfl, hc3, hC3⟩ := Kd.R_reads hR3
  obtain ⟨A3', c3', rfl, hc3', hC3'⟩ := Kd.R_reads hR3'
  obtain ⟨vv, bb', hbk, hvk⟩ := hA2
  have hR2k := Kd.R_keep (Kd.R_types hR2 hbk (by decide)) hN3.1 (fun k hk => hk.2)
  obtain ⟨_, _, hC4⟩ := Kd.R_reads' hR2k
  dsimp only at *
  have hstr : (convert 24 9 (.slice A2 1 c2)).run Try.prog w3 = .ok (.string (strOfNums [120])) w3 := C_string_n Try.underlying24 Try.underlying5 Try.underlying9 hC4 rfl
  have h120 : strOfNums [120] = ⟨#[120]⟩ := by decide
  rw [h120] at hstr
  go_wp2_with (first
    | (go_at_call 62; refine (Busy_calls w.heap.size _ _ hA3).mono ?_; dsimp only; rintro e w' ⟨rfl, rfl⟩)
    | (go_at_call 63; refine (Lost_calls w.heap.size _ _ hA3).mono ?_; dsimp only; rintro e w' ⟨rfl, rfl⟩))
  go_ret
  have s1 := ba.size
  have s2 := bb.size
  have s3 := bx.size
  have s4 := hN1.size
  have s5 := hN2.size
  have b1 := ba.trans (bb.mono s1)
  have b2 := b1.trans (bx.mono (by omega))
  have b3 := b2.trans (hN1.below (B := w.heap.size) (by omega) (by omega))
  have b4 := b3.trans (hN2.below (B := w.heap.size) (by omega) (by omega))
  exact ⟨rfl, b4.trans (hN3.below (B := w.heap.size) (by omega) (by omega))⟩
end Go.Proofs.Ytlaojndlelcdaaa.Links
