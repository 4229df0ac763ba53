/- Two links hear each other, as the laws ask first. -/
import Derived.Test.YtlaojndlelcdaaaLinkC
import Derived.Test.YtlaojndlelcdaaaFrAwake
namespace Go.Proofs.Ytlaojndlelcdaaa.Links
open Go.RowKit Go.Proofs.Ytlaojndlelcdaaa.P Go.Proofs.Ytlaojndlelcdaaa.Pure Go.Proofs.YtlaojndlelcdaaaW.PrintWords Go.Proofs.YtlaojndlelcdaaaW.PrintLast Go.Proofs.YtlaojndlelcdaaaW.PrintMore

/-- A new link. -/
def L0 : L := ⟨0, 0, [], false, 0, false⟩
theorem up0 : up 0 = 1 := by decide
def FX : List Int := putF ⟨false, 1, [120]⟩
def AX : List Int := putF ⟨true, 1, []⟩
theorem sayX : sayL L0 [120] = (⟨1, 0, FX, true, 1, false⟩, FX, 0) := by
  unfold sayL L0 FX
  rw [up0]
  rfl
theorem hearX : hearL L0 FX = (⟨0, 1, [], false, 0, false⟩, [120], true, AX) := by
  unfold hearL FX
  rw [get_putF _ (by decide)]
  simp [L0, up0, AX]
theorem hearA : hearL ⟨1, 0, FX, true, 1, false⟩ AX = (⟨1, 0, FX, false, 0, false⟩, [], false, []) := by
  unfold hearL AX
  rw [get_putF _ (by decide)]
  simp
theorem FX_bytes : Bytes FX := putF_bytes _ (by intro x hx; simp at hx; subst hx; exact ⟨by decide, by decide⟩)
theorem FX_len : FX.length ≤ 1000000 := Nat.le_trans (putF_len _) (by omega)
theorem AX_bytes : Bytes AX := putF_bytes _ (by intro x hx; simp at hx)
theorem AX_len : AX.length ≤ 1000000 := Nat.le_trans (putF_len _) (by omega)

theorem talk : ∃ F A : List Int, sayL L0 [120] = (⟨1, 0, F, true, 1, false⟩, F, 0) ∧ hearL L0 F = (⟨0, 1, [], false, 0, false⟩, [120], true, A) ∧ hearL ⟨1, 0, F, true, 1, false⟩ A = (⟨1, 0, F, false, 0, false⟩, [], false, []) ∧ Bytes F ∧ F.length ≤ 1000000 ∧ Bytes A ∧ A.length ≤ 1000000 :=
  ⟨FX, AX, sayX, hearX, hearA, FX_bytes, FX_len, AX_bytes, AX_len⟩

set_option maxHeartbeats 8000000 in
set_option maxRecDepth 100000 in
theorem awake_calls (w : World) : Calls Try.prog 57 #[] w fun e w' => e = .returned (.bool true) ∧ Below w.heap.size w w' := by
  obtain ⟨F, K, sx, hx, ha, fb, fl, kb, kl⟩ := talk
  go_enter Try.func57, Try.ntmps57
  go_wp2_with (first
    | (go_at_call 58; refine (New_calls w).mono ?_; rintro e wa ⟨rfl, hA, ba⟩)
    | (go_at_call 58; refine (New_calls wa).mono ?_; rintro e wb ⟨rfl, hB, bb⟩; have hab : w.heap.size ≠ wa.heap.size := Nat.ne_of_lt (At.lt hA); replace hA := At.below hA bb)
    | ((with_reducible refine gate_dst (N := 22) rfl ?_); refine V_mlit (xs := [120]) (n := 1) (N := 22) ?hg ?hd (.tmp 21) (t := 24) (e := 5) rfl rfl Try.underlying24 Try.underlying5 rfl rfl (by decide) ?_; (case hd => rfl); (case hg => rfl); intro vx wx hv bx hg_ hnew; replace hA := At.below hA bx; replace hB := At.below hB bx)
    | (go_at_call 59; obtain ⟨Ax, cx, rfl, hcx, hFx⟩ := hv; have hS := SayL w.heap.size L0 Ax cx [120] _ hA (Kd.F_now hFx) hcx (by intro a ha _; subst ha; obtain ⟨b, hb1, hb2⟩ := hnew; have h3 := At.lt hA; have h4 := ba.size; have h5 := bb.size; simp [Value.ownBlock] at hb1; omega); rw [sx] at hS; refine hS.mono ?_; clear hS; rintro e w1 ⟨v1, rfl, hR1, hA1, hN1⟩; have hB1 := At.keep hB hA hab.symm hN1.1; obtain ⟨A1, c1, rfl, hc1, hC1⟩ := Kd.R_reads hR1)
    )
  have hS := HearL wa.heap.size L0 A1 c1 F w1 hB1 hC1 hc1 fb fl
  rw [hx] at hS
  refine hS.mono ?_
  clear hS
  rintro e w2 ⟨v2, v2', rfl, hR2, hR2', hB2, hN2⟩
  have hA2 := At.keep hA1 hB1 hab hN2.1
  obtain ⟨A2, c2, rfl, hc2, hC2⟩ := Kd.R_reads hR2
  obtain ⟨A2', c2', rfl, hc2', hC2'⟩ := Kd.R_reads hR2'
  dsimp only at *
  go_wp2_with (fail)
  have hS := HearL w.heap.size ⟨1, 0, F, true, 1, false⟩ A2' c2' K w2 hA2 hC2' hc2' kb kl
  rw [ha] at hS
  refine hS.mono ?_
  clear hS
  rintro e w3 ⟨v3, v3', rfl, hR3, hR3', hA3, hN3⟩
  obtain ⟨A3, c3, rfl, hc3, hC3⟩ := Kd.R_reads hR3
  obtain ⟨A3', c3', rfl, hc3', hC3'⟩ := Kd.R_reads hR3'
  obtain ⟨vv, bb', hbk, hvk⟩ := hA2
  have hR2k := Kd.R_keep (Kd.R_types hR2 hbk (by decide)) hN3.1 (fun k hk => hk.2)
  obtain ⟨_, _, hC4⟩ := Kd.R_reads' hR2k
  dsimp only at *
  have hstr : (convert 24 9 (.slice A2 1 c2)).run Try.prog w3 = .ok (.string (strOfNums [120])) w3 := C_string_n Try.underlying24 Try.underlying5 Try.underlying9 hC4 rfl
  have h120 : strOfNums [120] = ⟨#[120]⟩ := by decide
  rw [h120] at hstr
  go_wp2_with (first
    | (go_at_call 62; refine (Busy_calls w.heap.size _ _ hA3).mono ?_; dsimp only; rintro e w' ⟨rfl, rfl⟩)
    | (go_at_call 63; refine (Lost_calls w.heap.size _ _ hA3).mono ?_; dsimp only; rintro e w' ⟨rfl, rfl⟩))
  go_ret
  have s1 := ba.size
  have s2 := bb.size
  have s3 := bx.size
  have s4 := hN1.size
  have s5 := hN2.size
  have b1 := ba.trans (bb.mono s1)
  have b2 := b1.trans (bx.mono (by omega))
  have b3 := b2.trans (hN1.below (B := w.heap.size) (by omega) (by omega))
  have b4 := b3.trans (hN2.below (B := w.heap.size) (by omega) (by omega))
  exact ⟨rfl, b4.trans (hN3.below (B := w.heap.size) (by omega) (by omega))⟩
end Go.Proofs.Ytlaojndlelcdaaa.Links
