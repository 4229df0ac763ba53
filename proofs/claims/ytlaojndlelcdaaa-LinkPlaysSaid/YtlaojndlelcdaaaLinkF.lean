/- LinkKnown, walked: what the chapter tells of one link and another is so. -/
import Derived.Test.YtlaojndlelcdaaaPx0
import Derived.Test.YtlaojndlelcdaaaPx15
import Derived.Test.YtlaojndlelcdaaaLinkC
namespace Go.Proofs.Ytlaojndlelcdaaa.Links
open Go.RowKit Go.Proofs.Ytlaojndlelcdaaa.P Go.Proofs.Ytlaojndlelcdaaa.Pure Go.Proofs.YtlaojndlelcdaaaW.PrintWords Go.Proofs.YtlaojndlelcdaaaW.PrintLast Go.Proofs.YtlaojndlelcdaaaW.PrintMore

/-- Bytes that were handed over, and stay. -/
def Rk (W : World) (v : Value) (xs : List Int) : Prop := ∃ base, Kd.R (Kd.int .u8) 5 W base (fun _ => True) v xs
theorem Rk.near {W W' : World} {g : Nat} {s : L} {v : Value} {xs : List Int} (h : Rk W v xs) (hA : At W g s) (hN : Near W W' g) : Rk W' v xs := by
  obtain ⟨base, h⟩ := h
  obtain ⟨_, _, hb, _⟩ := hA
  exact ⟨base, Kd.R_mono (Kd.R_keep (Kd.R_types h hb (by decide)) hN.1 (fun k hk => hk.2)) (fun _ _ => trivial)⟩
theorem Rk.below {W W' : World} {v : Value} {xs : List Int} (h : Rk W v xs) (hb : Below W.heap.size W W') : Rk W' v xs := by
  obtain ⟨base, h⟩ := h
  exact ⟨base, Kd.R_below h hb⟩
theorem Rk.str {W : World} {A : Option Addr} {n c : Nat} {xs : List Int} (h : Rk W (.slice A n c) xs) : (convert 24 9 (.slice A n c)).run Try.prog W = .ok (.string (strOfNums xs)) W := by
  obtain ⟨base, h⟩ := h
  obtain ⟨h1, h2, h3⟩ := Kd.R_reads' h
  exact C_string_n Try.underlying24 Try.underlying5 Try.underlying9 h3 h1

/-- Too much to be said. -/
theorem SayBig (g : Nat) (s : L) (A0 : Option Addr) (n c0 : Nat) (w : World) (h : At w g s) (hl : s.lost = false) (hn : 131072 < n) :
    Calls Try.prog 59 #[.pointer (some ⟨g, 0, none⟩), .slice A0 n c0] w fun e' w' => e' = .returned (.tuple #[.slice none 0 0, .int .i64 9]) ∧ w' = w := by
  obtain ⟨v, base, hb, hR⟩ := h
  obtain ⟨c0_, c1_, c2_, c3_, c4_, c5_, z0_, z1_, z2_, z3_, z4_, z5_⟩ := reads_ hb
  rw [hl] at c5_
  have h9b : decide ((131072 : Int) < (n : Int)) = true := decide_eq_true (by omega)
  go_enter Try.func59, Try.ntmps59
  go_wp2
  go_ret2
  exact ⟨rfl, rfl⟩
theorem PutL (f : Fr) (A c) (w : World) (hr : Kd.C (Kd.int .u8) w A f.b.length f.b) (hc : f.b.length ≤ c) :
    Calls Try.prog 50 #[.agg #[.bool f.ack, .int .u64 f.seq, .slice A f.b.length c]] w fun e w' => ∃ v, e = .returned v ∧ Kd.R (Kd.int .u8) 5 w' w.heap.size (fun _ => True) v (putF f) ∧ Below w.heap.size w w' :=
  frame_Put.calls 20000000 f.ack f.seq A c f.b (putF f) w hr hc (putF_eq f 20000000 (by omega))

def FY : List Int := putF ⟨false, 2, []⟩
def P3 : List Int := putF ⟨false, 3, []⟩
def A2 : List Int := putF ⟨true, 2, []⟩
def PZ : List Int := putF ⟨false, 1, [122]⟩
theorem known : ∃ F G K P Q Z : List Int, putF ⟨false, 3, []⟩ = P ∧ putF ⟨true, 2, []⟩ = Q ∧ putF ⟨false, 1, [122]⟩ = Z ∧ K.length = 6 ∧
    sayL L0 [120] = (⟨1, 0, F, true, 1, false⟩, F, 0) ∧
    hearL L0 F = (⟨0, 1, [], false, 0, false⟩, [120], true, K) ∧
    hearL ⟨0, 1, [], false, 0, false⟩ F = (⟨0, 1, [], false, 0, false⟩, [], false, K) ∧
    hearL ⟨0, 1, [], false, 0, false⟩ P = (⟨0, 1, [], false, 0, false⟩, [], false, []) ∧
    hearL ⟨0, 1, [], false, 0, false⟩ [119, 104, 97, 116] = (⟨0, 1, [], false, 0, false⟩, [], false, []) ∧
    hearL ⟨1, 0, F, true, 2, false⟩ Q = (⟨1, 0, F, true, 2, false⟩, [], false, []) ∧
    hearL ⟨1, 0, F, true, 2, false⟩ K = (⟨1, 0, F, false, 0, false⟩, [], false, []) ∧
    sayL ⟨1, 0, F, false, 0, false⟩ [] = (⟨2, 0, G, true, 1, false⟩, G, 0) ∧
    hearL ⟨2, 0, G, false, 12, true⟩ Z = (⟨2, 1, G, false, 12, true⟩, [122], true, K) ∧
    (Bytes F ∧ Bytes K ∧ Bytes P ∧ Bytes Q ∧ Bytes Z) ∧ (F.length ≤ 131100 ∧ G.length ≤ 131100 ∧ P.length ≤ 131100 ∧ Q.length ≤ 131100 ∧ Z.length ≤ 131100) := by
  refine ⟨FX, FY, AX, P3, A2, PZ, rfl, rfl, rfl, ack1_len, sayX, hearX, ?_, ?_, ?_, ?_, ?_, ?_, ?_, ⟨FX_bytes, AX_bytes, ?_, ?_, ?_⟩, putF_len _, putF_len _, putF_len _, putF_len _, putF_len _⟩
  · unfold hearL FX
    rw [get_putF _ (by decide)]
    simp [show up 1 = 2 by decide, AX]
  · unfold hearL P3
    rw [get_putF _ (by decide)]
    simp [show up 1 = 2 by decide]
  · have h : getF [119, 104, 97, 116] = none := by decide
    unfold hearL
    rw [h]
  · unfold hearL A2
    rw [get_putF _ (by decide)]
    simp
  · unfold hearL AX
    rw [get_putF _ (by decide)]
    simp
  · unfold sayL FY
    simp [show up 1 = 2 by decide]
  · unfold hearL PZ
    rw [get_putF _ (by decide)]
    simp [up0, AX]
  · exact putF_bytes _ (by intro x hx; simp at hx)
  · exact putF_bytes _ (by intro x hx; simp at hx)
  · exact putF_bytes _ (by intro x hx; simp at hx; subst hx; exact ⟨by decide, by decide⟩)
theorem mkBig (w : World) : ∃ C : Array Value, (Instr.makeSlice 24 (.int .i64 131073) (.int .i64 131073)).run Try.prog w = .ok (.slice (some ⟨w.heap.size, 0, none⟩) 131073 131073) (w.alloc (.cells C 5)) :=
  ⟨_, run_make_row' 24 5 (.int .u8 0) 1 Try.underlying24 info5 rfl .i64 .i64 131073 (by omega) (by omega) w⟩
def sg (G : List Int) (i : Nat) : L := ⟨2, 0, G, true, (i : Int) + 1, false⟩
theorem tg (G : List Int) (i : Nat) (h : i < 11) : tickL (sg G i) = (sg G (i + 1), G, 0) := by
  unfold tickL sg
  dsimp only
  rw [if_neg (by simp), if_neg (by omega)]
  congr 2
  unfold wrap64
  omega
theorem Rk.C {W : World} {A : Option Addr} {n c : Nat} {xs : List Int} (h : Rk W (.slice A n c) xs) : Kd.C (Kd.int .u8) W A xs.length xs ∧ xs.length ≤ c := by
  obtain ⟨base, h⟩ := h
  obtain ⟨h1, h2, h3⟩ := Kd.R_reads' h
  exact ⟨h3, by omega⟩

set_option maxHeartbeats 16000000 in
set_option maxRecDepth 100000 in
theorem LinkKnown_calls (w : World) : Calls Try.prog 18 #[] w fun e w' => e = .returned (.bool true) ∧ Below w.heap.size w w' := by
  obtain ⟨F, G, K, P, Q, Z, hP, hQ, hZ, hK6, s1, r1, r2, r3, r4, r5, r6, s2, r7, ⟨bF, bK, bP, bQ, bZ⟩, lF, lG, lP, lQ, lZ⟩ := known
  have hK7 := Aside0.mk hK6
  clear hK6
  go_enter Try.func18, Try.ntmps18
  (try simp only [List.append_eq, List.cons_append, List.nil_append])
  go_wp2_with (first | (go_at_call 57; refine (awake_calls w).mono ?_; rintro e wa ⟨rfl, B⟩; have hga := B.size) | (go_at_call 58; refine (New_calls wa).mono ?_; rintro e w1 ⟨rfl, hA, b1⟩; have hgb := Nat.le_trans hga b1.size; replace B := B.trans (b1.mono hga)) | (go_at_call 58; refine (New_calls w1).mono ?_; rintro e w2 ⟨rfl, hB, b2⟩; have hab : wa.heap.size ≠ w1.heap.size := Nat.ne_of_lt (At.lt hA); have hba := hab.symm; replace hA := At.below hA b2; replace B := B.trans (b2.mono hgb)))
  clear b1 b2
  have hT := TickL wa.heap.size L0 w2 hA (by simp [L0])
  rw [show tickL L0 = (L0, [], 5) from rfl] at hT
  refine hT.mono ?_
  clear hT
  rintro e w3 ⟨v, rfl, hR, h', hN⟩
  obtain ⟨A3, c3, rfl, hc, hC⟩ := Kd.R_reads hR
  replace hB := At.keep hB hA hba hN.1
  replace B := B.trans (hN.below (B := w.heap.size) (by have := B.size; omega) hga)
  replace hA := h'
  clear hN hR hc hC
  try dsimp only
  have hlt := At.lt hA
  go_wp2_with ((with_reducible refine gate_dst (N := 52) rfl ?_); refine V_mlit (xs := [120]) (n := 1) (N := 52) ?hg ?hd (.tmp 51) (t := 24) (e := 5) rfl rfl Try.underlying24 Try.underlying5 rfl rfl (by decide) ?_; (case hd => rfl); (case hg => rfl); intro vx w4 hv hb hg_ hnew; obtain ⟨A4, c4, rfl, hcx, hFx⟩ := hv)
  replace hA := At.below hA hb
  replace hB := At.below hB hb
  replace B := B.trans (hb.mono B.size)
  have hCx := Kd.F_now hFx
  have hne : ∀ a, A4 = some a → 0 < ([120] : List Int).length → a.block ≠ wa.heap.size := by intro a ha _; subst ha; obtain ⟨b, hb1, hb2⟩ := hnew; simp [Value.ownBlock] at hb1; omega
  have hT := SayL wa.heap.size L0 A4 c4 [120] w4 hA hCx hcx hne
  rw [s1] at hT
  refine hT.mono ?_
  clear hT
  rintro e w5 ⟨v, rfl, hR, h', hN⟩
  obtain ⟨A5, c5, rfl, hc, hC⟩ := Kd.R_reads hR
  replace hB := At.keep hB hA hba hN.1
  replace B := B.trans (hN.below (B := w.heap.size) (by have := B.size; omega) hga)
  replace hA := h'
  have h5 : Rk w5 (.slice A5 F.length c5) F := ⟨_, hR⟩
  clear hN hR hc hC
  try dsimp only
  clear hne hnew hlt hg_ hFx hCx hcx hb
  have hlt := At.lt hA
  go_wp2_with ((with_reducible refine gate_dst (N := 59) rfl ?_); refine V_mlit (xs := [121]) (n := 1) (N := 59) ?hg ?hd (.tmp 58) (t := 24) (e := 5) rfl rfl Try.underlying24 Try.underlying5 rfl rfl (by decide) ?_; (case hd => rfl); (case hg => rfl); intro vx w6 hv hb hg_ hnew; obtain ⟨A6, c6, rfl, hcx, hFx⟩ := hv)
  replace hA := At.below hA hb
  replace hB := At.below hB hb
  replace h5 := Rk.below h5 hb
  replace B := B.trans (hb.mono B.size)
  have hCx := Kd.F_now hFx
  have hne : ∀ a, A6 = some a → 0 < ([121] : List Int).length → a.block ≠ wa.heap.size := by intro a ha _; subst ha; obtain ⟨b, hb1, hb2⟩ := hnew; simp [Value.ownBlock] at hb1; omega
  have hT := SayL wa.heap.size ⟨1, 0, F, true, 1, false⟩ A6 c6 [121] w6 hA hCx hcx hne
  rw [show sayL ⟨1, 0, F, true, 1, false⟩ [121] = (⟨1, 0, F, true, 1, false⟩, [], 1) from rfl] at hT
  refine hT.mono ?_
  clear hT
  rintro e w7 ⟨v, rfl, hR, h', hN⟩
  obtain ⟨A7, c7, rfl, hc, hC⟩ := Kd.R_reads hR
  replace hB := At.keep hB hA hba hN.1
  replace h5 := Rk.near h5 hA hN
  replace B := B.trans (hN.below (B := w.heap.size) (by have := B.size; omega) hga)
  replace hA := h'
  clear hN hR hc hC
  try dsimp only
  clear hne hnew hlt hg_ hFx hCx hcx hb
  go_wp2_with (fail)
  have hT := TickL wa.heap.size ⟨1, 0, F, true, 1, false⟩ w7 hA lF
  rw [show tickL ⟨1, 0, F, true, 1, false⟩ = (⟨1, 0, F, true, 2, false⟩, F, 0) from by simp [tickL, wrap64]] at hT
  refine hT.mono ?_
  clear hT
  rintro e w8 ⟨v, rfl, hR, h', hN⟩
  obtain ⟨A8, c8, rfl, hc, hC⟩ := Kd.R_reads hR
  replace hB := At.keep hB hA hba hN.1
  replace h5 := Rk.near h5 hA hN
  replace B := B.trans (hN.below (B := w.heap.size) (by have := B.size; omega) hga)
  replace hA := h'
  have h9 : Rk w8 (.slice A8 F.length c8) F := ⟨_, hR⟩
  clear hN hR hc hC
  try dsimp only
  go_wp2_with (fail)
  have hT := HearL w1.heap.size L0 A5 c5 F w8 hB h5.C.1 h5.C.2 bF (Nat.le_trans lF (by decide))
  rw [r1] at hT
  refine hT.mono ?_
  clear hT
  rintro e w9 ⟨v, v', rfl, hR, hR', h', hN⟩
  obtain ⟨A9, c9, rfl, hc, hC⟩ := Kd.R_reads hR
  obtain ⟨D9, d9, rfl, hc', hC'⟩ := Kd.R_reads hR'
  replace hA := At.keep hA hB hab hN.1
  replace h5 := Rk.near h5 hB hN
  replace h9 := Rk.near h9 hB hN
  replace B := B.trans (hN.below (B := w.heap.size) (by have := B.size; omega) hgb)
  replace hB := h'
  clear hN hR hc hC hR' hc' hC'
  try dsimp only
  go_wp2_with (fail)
  have hT := HearL w1.heap.size ⟨0, 1, [], false, 0, false⟩ A8 c8 F w9 hB h9.C.1 h9.C.2 bF (Nat.le_trans lF (by decide))
  rw [r2] at hT
  refine hT.mono ?_
  clear hT
  rintro e w10 ⟨v, v', rfl, hR, hR', h', hN⟩
  obtain ⟨A10, c10, rfl, hc, hC⟩ := Kd.R_reads hR
  obtain ⟨D10, d10, rfl, hc', hC'⟩ := Kd.R_reads hR'
  replace hA := At.keep hA hB hab hN.1
  replace h5 := Rk.near h5 hB hN
  replace h9 := Rk.near h9 hB hN
  replace B := B.trans (hN.below (B := w.heap.size) (by have := B.size; omega) hgb)
  replace hB := h'
  have h13 : Rk w10 (.slice D10 K.length d10) K := ⟨_, hR'⟩
  clear hN hR hc hC hR' hc' hC'
  try dsimp only
  go_wp2_with (fail)
  refine (PutL ⟨false, 3, []⟩ none 0 w10 (Kd.C_nil _ _) (Nat.le_refl _)).mono ?_
  rintro e w11 ⟨v, rfl, hR, hb⟩
  obtain ⟨A11, c11, rfl, hcx, hCx⟩ := Kd.R_reads hR
  replace hA := At.below hA hb
  replace hB := At.below hB hb
  replace h5 := Rk.below h5 hb
  replace h9 := Rk.below h9 hb
  replace h13 := Rk.below h13 hb
  replace B := B.trans (hb.mono B.size)
  clear hR hb
  try dsimp only
  rw [hP] at hCx hcx ⊢
  go_wp2_with (fail)
  have hT := HearL w1.heap.size ⟨0, 1, [], false, 0, false⟩ A11 c11 P w11 hB hCx hcx bP (Nat.le_trans lP (by decide))
  rw [r3] at hT
  refine hT.mono ?_
  clear hT
  rintro e w12 ⟨v, v', rfl, hR, hR', h', hN⟩
  obtain ⟨A12, c12, rfl, hc, hC⟩ := Kd.R_reads hR
  obtain ⟨D12, d12, rfl, hc', hC'⟩ := Kd.R_reads hR'
  replace hA := At.keep hA hB hab hN.1
  replace h5 := Rk.near h5 hB hN
  replace h9 := Rk.near h9 hB hN
  replace h13 := Rk.near h13 hB hN
  replace B := B.trans (hN.below (B := w.heap.size) (by have := B.size; omega) hgb)
  replace hB := h'
  clear hN hR hc hC hR' hc' hC'
  try dsimp only
  clear hCx hcx
  have hlt := At.lt hA
  go_wp2_with ((with_reducible refine gate_dst (N := 89) rfl ?_); refine V_mlit (xs := [119, 104, 97, 116]) (n := 4) (N := 89) ?hg ?hd (.tmp 88) (t := 24) (e := 5) rfl rfl Try.underlying24 Try.underlying5 rfl rfl (by decide) ?_; (case hd => rfl); (case hg => rfl); intro vx w13 hv hb hg_ hnew; obtain ⟨A13, c13, rfl, hcx, hFx⟩ := hv)
  replace hA := At.below hA hb
  replace hB := At.below hB hb
  replace h5 := Rk.below h5 hb
  replace h9 := Rk.below h9 hb
  replace h13 := Rk.below h13 hb
  replace B := B.trans (hb.mono B.size)
  have hCx := Kd.F_now hFx
  have hne : ∀ a, A13 = some a → 0 < ([119, 104, 97, 116] : List Int).length → a.block ≠ wa.heap.size := by intro a ha _; subst ha; obtain ⟨b, hb1, hb2⟩ := hnew; simp [Value.ownBlock] at hb1; omega
  have hT := HearL w1.heap.size ⟨0, 1, [], false, 0, false⟩ A13 c13 [119, 104, 97, 116] w13 hB hCx hcx (by intro x hx; simp at hx; rcases hx with rfl | rfl | rfl | rfl <;> exact ⟨by decide, by decide⟩) (by decide)
  rw [r4] at hT
  refine hT.mono ?_
  clear hT
  rintro e w14 ⟨v, v', rfl, hR, hR', h', hN⟩
  obtain ⟨A14, c14, rfl, hc, hC⟩ := Kd.R_reads hR
  obtain ⟨D14, d14, rfl, hc', hC'⟩ := Kd.R_reads hR'
  replace hA := At.keep hA hB hab hN.1
  replace h5 := Rk.near h5 hB hN
  replace h9 := Rk.near h9 hB hN
  replace h13 := Rk.near h13 hB hN
  replace B := B.trans (hN.below (B := w.heap.size) (by have := B.size; omega) hgb)
  replace hB := h'
  clear hN hR hc hC hR' hc' hC'
  try dsimp only
  clear hne hnew hlt hg_ hFx hCx hcx hb
  go_wp2_with (fail)
  refine (PutL ⟨true, 2, []⟩ none 0 w14 (Kd.C_nil _ _) (Nat.le_refl _)).mono ?_
  rintro e w15 ⟨v, rfl, hR, hb⟩
  obtain ⟨A15, c15, rfl, hcx, hCx⟩ := Kd.R_reads hR
  replace hA := At.below hA hb
  replace hB := At.below hB hb
  replace h5 := Rk.below h5 hb
  replace h9 := Rk.below h9 hb
  replace h13 := Rk.below h13 hb
  replace B := B.trans (hb.mono B.size)
  clear hR hb
  try dsimp only
  rw [hQ] at hCx hcx ⊢
  go_wp2_with (fail)
  have hT := HearL wa.heap.size ⟨1, 0, F, true, 2, false⟩ A15 c15 Q w15 hA hCx hcx bQ (Nat.le_trans lQ (by decide))
  rw [r5] at hT
  refine hT.mono ?_
  clear hT
  rintro e w16 ⟨v, v', rfl, hR, hR', h', hN⟩
  obtain ⟨A16, c16, rfl, hc, hC⟩ := Kd.R_reads hR
  obtain ⟨D16, d16, rfl, hc', hC'⟩ := Kd.R_reads hR'
  replace hB := At.keep hB hA hba hN.1
  replace h5 := Rk.near h5 hA hN
  replace h9 := Rk.near h9 hA hN
  replace h13 := Rk.near h13 hA hN
  replace B := B.trans (hN.below (B := w.heap.size) (by have := B.size; omega) hga)
  replace hA := h'
  clear hN hR hc hC hR' hc' hC'
  try dsimp only
  clear hCx hcx
  have hBz := Busy_calls wa.heap.size _ _ hA
  have hTr := Tries_calls wa.heap.size _ _ hA
  dsimp only at hBz hTr
  go_wp2_with (first | (go_at_call 62; refine hBz.mono ?_; rintro e w' ⟨rfl, hw⟩; rw [hw]; clear hw w') | (go_at_call 64; refine hTr.mono ?_; rintro e w' ⟨rfl, hw⟩; rw [hw]; clear hw w'))
  clear hBz hTr
  have hT := HearL wa.heap.size ⟨1, 0, F, true, 2, false⟩ D10 d10 K w16 hA h13.C.1 h13.C.2 bK (by rw [hK7.out]; decide)
  rw [r6] at hT
  refine hT.mono ?_
  clear hT
  rintro e w17 ⟨v, v', rfl, hR, hR', h', hN⟩
  obtain ⟨A17, c17, rfl, hc, hC⟩ := Kd.R_reads hR
  obtain ⟨D17, d17, rfl, hc', hC'⟩ := Kd.R_reads hR'
  replace hB := At.keep hB hA hba hN.1
  replace h5 := Rk.near h5 hA hN
  replace h9 := Rk.near h9 hA hN
  replace h13 := Rk.near h13 hA hN
  replace B := B.trans (hN.below (B := w.heap.size) (by have := B.size; omega) hga)
  replace hA := h'
  clear hN hR hc hC hR' hc' hC'
  try dsimp only
  have hBz := Busy_calls wa.heap.size _ _ hA
  have hTr := Tries_calls wa.heap.size _ _ hA
  dsimp only at hBz hTr
  obtain ⟨C, hmk⟩ := mkBig w17
  have hb := below_alloc (Below.refl w17.heap.size w17) (.cells C 5)
  go_wp2_with (first | (go_at_call 62; refine hBz.mono ?_; rintro e w' ⟨rfl, hw⟩; rw [hw]; clear hw w') | (go_at_call 64; refine hTr.mono ?_; rintro e w' ⟨rfl, hw⟩; rw [hw]; clear hw w'))
  clear hBz hTr hmk
  replace hA := At.below hA hb
  replace hB := At.below hB hb
  replace h5 := Rk.below h5 hb
  replace h9 := Rk.below h9 hb
  replace h13 := Rk.below h13 hb
  replace B := B.trans (hb.mono B.size)
  clear hb
  generalize w17.alloc (.cells C 5) = w18 at *
  refine (SayBig wa.heap.size _ _ 131073 131073 _ hA rfl (by decide)).mono ?_
  rintro e w' ⟨rfl, hw⟩
  rw [hw]
  clear hw w'
  try dsimp only
  go_wp2_with (fail)
  have hT := SayL wa.heap.size ⟨1, 0, F, false, 0, false⟩ none 0 [] w18 hA (Kd.C_nil _ _) (Nat.le_refl _) (by intro a ha; cases ha)
  rw [s2] at hT
  refine hT.mono ?_
  clear hT
  rintro e w19 ⟨v, rfl, hR, h', hN⟩
  obtain ⟨A19, c19, rfl, hc, hC⟩ := Kd.R_reads hR
  replace hB := At.keep hB hA hba hN.1
  replace h5 := Rk.near h5 hA hN
  replace h9 := Rk.near h9 hA hN
  replace h13 := Rk.near h13 hA hN
  replace B := B.trans (hN.below (B := w.heap.size) (by have := B.size; omega) hga)
  replace hA := h'
  clear hN hR hc hC
  try dsimp only
  go_wp2_with (fail)
  clear h13
  replace hA : At w19 wa.heap.size (sg G 0) := hA
  go_loopg [28] 11 (fun gg s28 wr => ∃ i : Nat, i ≤ 11 ∧ gg = 11 - i ∧ s28 = .int .i64 i ∧ At wr wa.heap.size (sg G i) ∧ At wr w1.heap.size ⟨0, 1, [], false, 0, false⟩ ∧ Rk wr (.slice A5 F.length c5) F ∧ Rk wr (.slice A8 F.length c8) F ∧ Below w.heap.size w wr)
  case atStart => exact ⟨0, by omega, rfl, rfl, hA, hB, h5, h9, B⟩
  clear hA hB h5 h9 B
  case round =>
    obtain ⟨i, hi, rfl, rfl, hA, hB, h5, h9, B⟩ := hrel
    by_cases hlt : i < 11
    · have hltb : decide ((i : Int) < (11 : Int)) = true := decide_eq_true (by omega)
      go_wp2_with (fail)
      have hT := TickL wa.heap.size (sg G i) wr hA lG
      rw [tg G i hlt] at hT
      refine hT.mono ?_
      clear hT
      rintro e w20 ⟨v, rfl, hR, h', hN⟩
      obtain ⟨A20, c20, rfl, hc, hC⟩ := Kd.R_reads hR
      replace hB := At.keep hB hA hba hN.1
      replace h5 := Rk.near h5 hA hN
      replace h9 := Rk.near h9 hA hN
      replace B := B.trans (hN.below (B := w.heap.size) (by have := B.size; omega) hga)
      replace hA := h'
      clear hN hR hc hC
      try dsimp only
      go_wp2_with (fail)
      go_roundg (11 - (i + 1))
      case measure => omega
      case rel => exact ⟨i + 1, by omega, rfl, by go_num, hA, hB, h5, h9, B⟩
    · have hltb : decide ((i : Int) < (11 : Int)) = false := decide_eq_false (by omega)
      obtain rfl : i = 11 := by omega
      go_wp2_with (fail)
      have hT := TickL wa.heap.size (sg G 11) wr hA lG
      rw [show tickL (sg G 11) = (⟨2, 0, G, false, 12, true⟩, [], 12) from by simp [tickL, sg]] at hT
      refine hT.mono ?_
      clear hT
      rintro e w21 ⟨v, rfl, hR, h', hN⟩
      obtain ⟨A21, c21, rfl, hc, hC⟩ := Kd.R_reads hR
      replace hB := At.keep hB hA hba hN.1
      replace h5 := Rk.near h5 hA hN
      replace h9 := Rk.near h9 hA hN
      replace B := B.trans (hN.below (B := w.heap.size) (by have := B.size; omega) hga)
      replace hA := h'
      clear hN hR hc hC
      try dsimp only
      go_wp2_with (fail)
      have hT := TickL wa.heap.size ⟨2, 0, G, false, 12, true⟩ w21 hA lG
      rw [show tickL ⟨2, 0, G, false, 12, true⟩ = (⟨2, 0, G, false, 12, true⟩, [], 5) from by simp [tickL]] at hT
      refine hT.mono ?_
      clear hT
      rintro e w22 ⟨v, rfl, hR, h', hN⟩
      obtain ⟨A22, c22, rfl, hc, hC⟩ := Kd.R_reads hR
      replace hB := At.keep hB hA hba hN.1
      replace h5 := Rk.near h5 hA hN
      replace h9 := Rk.near h9 hA hN
      replace B := B.trans (hN.below (B := w.heap.size) (by have := B.size; omega) hga)
      replace hA := h'
      clear hN hR hc hC
      try dsimp only
      go_wp2_with (fail)
      have hT := SayL wa.heap.size ⟨2, 0, G, false, 12, true⟩ none 0 [] w22 hA (Kd.C_nil _ _) (Nat.le_refl _) (by intro a ha; cases ha)
      rw [show sayL ⟨2, 0, G, false, 12, true⟩ [] = (⟨2, 0, G, false, 12, true⟩, [], 12) from by simp [sayL]] at hT
      refine hT.mono ?_
      clear hT
      rintro e w23 ⟨v, rfl, hR, h', hN⟩
      obtain ⟨A23, c23, rfl, hc, hC⟩ := Kd.R_reads hR
      replace hB := At.keep hB hA hba hN.1
      replace h5 := Rk.near h5 hA hN
      replace h9 := Rk.near h9 hA hN
      replace B := B.trans (hN.below (B := w.heap.size) (by have := B.size; omega) hga)
      replace hA := h'
      clear hN hR hc hC
      try dsimp only
      have hlt := At.lt hA
      go_wp2_with ((with_reducible refine gate_dst (N := 149) rfl ?_); refine V_mlit (xs := [122]) (n := 1) (N := 149) ?hg ?hd (.tmp 148) (t := 24) (e := 5) rfl rfl Try.underlying24 Try.underlying5 rfl rfl (by decide) ?_; (case hd => rfl); (case hg => rfl); intro vx w24 hv hb hg_ hnew; obtain ⟨A24, c24, rfl, hcx, hFx⟩ := hv)
      replace hA := At.below hA hb
      replace hB := At.below hB hb
      replace h5 := Rk.below h5 hb
      replace h9 := Rk.below h9 hb
      replace B := B.trans (hb.mono B.size)
      have hCx := Kd.F_now hFx
      have hne : ∀ a, A24 = some a → 0 < ([122] : List Int).length → a.block ≠ wa.heap.size := by intro a ha _; subst ha; obtain ⟨b, hb1, hb2⟩ := hnew; simp [Value.ownBlock] at hb1; omega
      clear hne hnew hlt hg_ hFx hb
      refine (PutL ⟨false, 1, [122]⟩ A24 c24 w24 hCx hcx).mono ?_
      clear hCx hcx
      rintro e w25 ⟨v, rfl, hR, hb⟩
      obtain ⟨A25, c25, rfl, hcx, hCx⟩ := Kd.R_reads hR
      replace hA := At.below hA hb
      replace hB := At.below hB hb
      replace h5 := Rk.below h5 hb
      replace h9 := Rk.below h9 hb
      replace B := B.trans (hb.mono B.size)
      clear hR hb
      try dsimp only
      rw [hZ] at hCx hcx ⊢
      go_wp2_with (fail)
      have hT := HearL wa.heap.size ⟨2, 0, G, false, 12, true⟩ A25 c25 Z w25 hA hCx hcx bZ (Nat.le_trans lZ (by decide))
      rw [r7] at hT
      refine hT.mono ?_
      clear hT
      rintro e w26 ⟨v, v', rfl, hR, hR', h', hN⟩
      obtain ⟨A26, c26, rfl, hc, hC⟩ := Kd.R_reads hR
      obtain ⟨D26, d26, rfl, hc', hC'⟩ := Kd.R_reads hR'
      replace hB := At.keep hB hA hba hN.1
      replace h5 := Rk.near h5 hA hN
      replace h9 := Rk.near h9 hA hN
      replace B := B.trans (hN.below (B := w.heap.size) (by have := B.size; omega) hga)
      replace hA := h'
      clear hN hR hc hC hR' hc' hC'
      try dsimp only
      clear hCx hcx
      have hs5 := h5.str
      have hs9 := h9.str
      have hK6 := hK7.out
      have hBz := Busy_calls wa.heap.size _ _ hA
      have hLz := Lost_calls wa.heap.size _ _ hA
      dsimp only at hBz hLz
      go_wp2_with (first | (go_at_call 62; refine hBz.mono ?_; rintro e w' ⟨rfl, hw⟩; rw [hw]; clear hw w') | (go_at_call 63; refine hLz.mono ?_; rintro e w' ⟨rfl, hw⟩; rw [hw]; clear hw w'))
      go_ret
      exact ⟨rfl, B⟩
end Go.Proofs.Ytlaojndlelcdaaa.Links
