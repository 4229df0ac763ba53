/- NetKnown, walked: what the chapter tells of the net is so. -/
import Derived.Test.YtlaojndlelcdaaaNetB
import Derived.Test.YtlaojndlelcdaaaNetW
namespace Go.Proofs.Ytlaojndlelcdaaa.Nets
set_option linter.unusedSimpArgs false
set_option linter.unusedVariables false
open Go.RowKit Go.Proofs.Ytlaojndlelcdaaa.P Go.Proofs.YtlaojndlelcdaaaW.PrintWords Go.Proofs.YtlaojndlelcdaaaW.PrintLast Go.Proofs.YtlaojndlelcdaaaW.PrintMore

theorem xor_known : ([97, 98, 99] : List Int).set 1 (Go.bits .xor .u8 (rd [97, 98, 99] ((1 : Nat) : Int)) 3) = [97, 97, 99] := by decide
set_option maxHeartbeats 16000000 in
set_option maxRecDepth 100000 in
theorem NetKnown_calls (w : World) : Calls Try.prog 11 #[] w fun e w' => e = .returned (.bool true) ∧ Below w.heap.size w w' := by
  go_enter Try.func11, Try.ntmps11
  (try simp only [List.append_eq, List.cons_append, List.nil_append])
  go_wp2_with (first | (go_at_call 38; refine (awake_calls w).mono ?_; rintro e wa ⟨rfl, ba⟩) | (go_at_call 39; refine (New_calls wa).mono ?_; rintro e w0 ⟨rfl, hA, bb⟩))
  have hg0 : w.heap.size ≤ wa.heap.size := ba.size
  have hB : Below w.heap.size w w0 := ba.trans (bb.mono hg0)
  clear ba bb
  generalize wa.heap.size = g at *
  go_wp2_with (fail)
  refine (SendBad _ 2 (by decide) none 0 0 w0).mono ?_
  rintro e w' ⟨rfl, h_⟩
  have h_ := h_.symm
  subst h_
  try dsimp only
  go_wp2_with ((with_reducible refine gate_dst (N := 42) rfl ?_); refine V_mlit (xs := [97, 98, 99]) (n := 3) (N := 42) ?hg ?hd (.tmp 41) (t := 24) (e := 5) rfl rfl Try.underlying24 Try.underlying5 rfl rfl (by decide) ?_; (case hd => rfl); (case hg => rfl); intro vx w1 hv hb hg_ hnew; obtain ⟨Ax, cx, rfl, hcx, hFx⟩ := hv)
  replace hA := At.below hA hb
  replace hB := hB.trans (hb.mono hB.size)
  have hCx := Kd.F_now hFx
  clear hb hg_ hnew hFx
  go_wp2_with (fail)
  refine (Send0 g g [] [] 0 0 Ax cx [97, 98, 99] w1 hA hCx hcx (by decide) (by decide)).mono ?_
  rintro e w2 ⟨u1, rfl, h', hb, hf⟩
  clear hA
  have hA : At w2 g g [(u1, [97, 98, 99])] [] (wrap64 (0 + 1)) 0 := h'
  replace hB := hB.trans (hb.mono hg0)
  clear hCx hcx
  clear h' hb
  try dsimp only
  go_wp2_with ((with_reducible refine gate_dst (N := 46) rfl ?_); refine V_mlit (xs := [100]) (n := 1) (N := 46) ?hg ?hd (.tmp 45) (t := 24) (e := 5) rfl rfl Try.underlying24 Try.underlying5 rfl rfl (by decide) ?_; (case hd => rfl); (case hg => rfl); intro vx w3 hv hb hg_ hnew; obtain ⟨Ax, cx, rfl, hcx, hFx⟩ := hv)
  replace hA := At.below hA hb
  replace hB := hB.trans (hb.mono hB.size)
  have hCx := Kd.F_now hFx
  clear hb hg_ hnew hFx
  go_wp2_with (fail)
  refine (Send0 g g [(u1, [97, 98, 99])] [] (wrap64 (0 + 1)) 0 Ax cx [100] w3 hA hCx hcx (by decide) (by simp)).mono ?_
  rintro e w4 ⟨u2, rfl, h', hb, hf⟩
  clear hA
  have hA : At w4 g g [(u1, [97, 98, 99]), (u2, [100])] [] (wrap64 (wrap64 (0 + 1) + 1)) 0 := h'
  replace hB := hB.trans (hb.mono hg0)
  clear hCx hcx
  rw [show wrap64 (wrap64 (0 + 1) + 1) = 2 from by simp [wrap64]] at hA
  clear h' hb
  try dsimp only
  go_wp2_with (fail)
  refine (DoBad1 _ 0 0 (Or.inl (by decide)) 0 0 0 none 0 0 w4).mono ?_
  rintro e w5 ⟨rfl, hb⟩
  replace hA := At.below hA hb
  replace hB := hB.trans (hb.mono hB.size)
  clear hb
  try dsimp only
  go_wp2_with (fail)
  refine (DoBad0 _ 1 2 (by decide) 0 0 0 none 0 0 w5).mono ?_
  rintro e w6 ⟨rfl, hb⟩
  replace hA := At.below hA hb
  replace hB := hB.trans (hb.mono hB.size)
  clear hb
  try dsimp only
  go_wp2_with (fail)
  refine (DoNone0 g g [(u1, [97, 98, 99]), (u2, [100])] [] 2 0 1 2 0 0 none 0 0 w6 hA (by decide) (by decide) (Or.inr (by simp))).mono ?_
  rintro e w7 ⟨rfl, hb⟩
  replace hA := At.below hA hb
  replace hB := hB.trans (hb.mono hB.size)
  clear hb
  try dsimp only
  go_wp2_with (fail)
  refine (DoNone0 g g [(u1, [97, 98, 99]), (u2, [100])] [] 2 0 1 (-1) 0 0 none 0 0 w7 hA (by decide) (by decide) (Or.inl (by decide))).mono ?_
  rintro e w8 ⟨rfl, hb⟩
  replace hA := At.below hA hb
  replace hB := hB.trans (hb.mono hB.size)
  clear hb
  try dsimp only
  go_wp2_with (fail)
  refine (SpoilNone0 g g [(u1, [97, 98, 99]), (u2, [100])] [] 2 0 0 u1 [97, 98, 99] 3 0 none 0 0 w8 hA rfl (Or.inr (by decide))).mono ?_
  rintro e w9 ⟨rfl, hb⟩
  replace hA := At.below hA hb
  replace hB := hB.trans (hb.mono hB.size)
  clear hb
  try dsimp only
  go_wp2_with (fail)
  refine (Spoil0 g g [(u1, [97, 98, 99]), (u2, [100])] [] 2 0 0 1 u1 [97, 98, 99] 3 none 0 0 w9 hA rfl (by decide)).mono ?_
  rintro e w10 ⟨rfl, h', hb⟩
  clear hA
  have hA : At w10 g g [(u1, [97, 98, 99].set 1 (Go.bits .xor .u8 (rd [97, 98, 99] ((1 : Nat) : Int)) 3)), (u2, [100])] [] 2 0 := h'
  replace hB := hB.trans (hb.mono hg0)
  rw [xor_known] at hA
  clear h' hb
  try dsimp only
  go_wp2_with (fail)
  have hlt := At.lt hA
  refine (See0 g g [(u1, [97, 97, 99]), (u2, [100])] [] 2 0 0 u1 [97, 97, 99] w10 hA rfl (by decide)).mono ?_
  rintro e w11 ⟨vx, rfl, hR, hb⟩
  have hx : Ow w11 g (vx, [97, 97, 99]) := Kd.R_lower hR (Nat.le_of_lt hlt)
  replace hA := At.below hA hb
  replace hB := hB.trans (hb.mono hB.size)
  obtain ⟨Ax_, cx_, ex, _, _⟩ := hx.slice
  dsimp only at ex
  subst ex
  clear hR hb hlt
  try dsimp only
  go_wp2_with (fail)
  refine (Twice0 g g [(u1, [97, 97, 99]), (u2, [100])] [] 2 0 0 u1 [97, 97, 99] 0 0 none 0 0 w11 hA rfl (by decide) (by simp)).mono ?_
  rintro e w12 ⟨u3, rfl, h', hb, hf⟩
  clear hA
  have hA : At w12 g g [(u1, [97, 97, 99]), (u2, [100]), (u3, [97, 97, 99])] [] 2 0 := h'
  replace hB := hB.trans (hb.mono hg0)
  replace hx := Ow.fr hx hf
  clear h' hb
  try dsimp only
  go_wp2_with (fail)
  have hlt := At.lt hA
  refine (See0 g g [(u1, [97, 97, 99]), (u2, [100]), (u3, [97, 97, 99])] [] 2 0 2 u3 [97, 97, 99] w12 hA rfl (by decide)).mono ?_
  rintro e w13 ⟨vy, rfl, hR, hb⟩
  have hy : Ow w13 g (vy, [97, 97, 99]) := Kd.R_lower hR (Nat.le_of_lt hlt)
  replace hA := At.below hA hb
  replace hB := hB.trans (hb.mono hB.size)
  replace hx := Ow.below hx hb
  obtain ⟨Ay, cy, ey, _, _⟩ := hy.slice
  dsimp only at ey
  subst ey
  clear hR hb hlt
  try dsimp only
  go_wp2_with (fail)
  refine (Do0_2 g g [(u1, [97, 97, 99]), (u2, [100]), (u3, [97, 97, 99])] [] 2 0 0 u1 [97, 97, 99] 0 0 none 0 0 w13 hA rfl).mono ?_
  rintro e w14 ⟨rfl, h', hb, _, hf⟩
  clear hA
  have hA : At w14 g g [(u2, [100]), (u3, [97, 97, 99])] [] 2 0 := h'
  replace hB := hB.trans (hb.mono hg0)
  replace hx := Ow.fr hx hf
  replace hy := Ow.fr hy hf
  clear h' hb
  try dsimp only
  go_wp2_with (fail)
  refine (Do0_1 g g [(u2, [100]), (u3, [97, 97, 99])] [] 2 0 1 u3 [97, 97, 99] 0 0 none 0 0 w14 hA rfl).mono ?_
  rintro e w15 ⟨rfl, h', hb, hz, hf⟩
  clear hA
  have hA : At w15 g g [(u2, [100])] [] 2 0 := h'
  replace hB := hB.trans (hb.mono hg0)
  replace hx := Ow.fr hx hf
  replace hy := Ow.fr hy hf
  obtain ⟨Az, cz, ez, _, _⟩ := hz.slice
  dsimp only at ez
  subst ez
  clear h' hb
  try dsimp only
  go_wp2_with ((with_reducible refine gate_dst (N := 115) rfl ?_); refine V_mlit (xs := [113]) (n := 1) (N := 115) ?hg ?hd (.tmp 114) (t := 24) (e := 5) rfl rfl Try.underlying24 Try.underlying5 rfl rfl (by decide) ?_; (case hd => rfl); (case hg => rfl); intro vx w16 hv hb hg_ hnew; obtain ⟨Ax, cx, rfl, hcx, hFx⟩ := hv)
  replace hA := At.below hA hb
  replace hB := hB.trans (hb.mono hB.size)
  replace hx := Ow.below hx hb
  replace hy := Ow.below hy hb
  replace hz := Ow.below hz hb
  have hCx := Kd.F_now hFx
  clear hb hg_ hnew hFx
  go_wp2_with (fail)
  refine (Strange1 g g [(u2, [100])] [] 2 0 0 0 0 Ax cx [113] w16 hA hCx hcx (by decide) (by decide)).mono ?_
  rintro e w17 ⟨u5, rfl, h', hb, hf⟩
  clear hA
  have hA : At w17 g g [(u2, [100])] [(u5, [113])] 2 0 := h'
  replace hB := hB.trans (hb.mono hg0)
  replace hx := Ow.fr hx hf
  replace hy := Ow.fr hy hf
  replace hz := Ow.fr hz hf
  clear hCx hcx
  clear h' hb
  try dsimp only
  go_wp2_with (fail)
  refine (SeeNone1 g g [(u2, [100])] [(u5, [113])] 2 0 1 w17 hA (Or.inr (by simp))).mono ?_
  rintro e w' ⟨rfl, h_⟩
  have h_ := h_.symm
  subst h_
  try dsimp only
  go_wp2_with (fail)
  go_loopg [29] 63 (fun gg s29 wr => ∃ (i : Nat) (qs : Ps), i ≤ 63 ∧ gg = 63 - i ∧ s29 = .int .i64 i ∧ At wr g g [(u2, [100])] ((u5, [113]) :: qs) 2 (i : Int) ∧ qs.length = i ∧ Below w.heap.size w wr ∧ Ow wr g (.slice Ax_ [97, 97, 99].length cx_, [97, 97, 99]) ∧ Ow wr g (.slice Ay [97, 97, 99].length cy, [97, 97, 99]) ∧ Ow wr g (.slice Az [97, 97, 99].length cz, [97, 97, 99]))
  case atStart => exact ⟨0, [], by omega, rfl, rfl, hA, rfl, hB, hx, hy, hz⟩
  case round =>
    clear hA hB hx hy hz
    obtain ⟨i, qs, hi, rfl, rfl, hA, hl, hB, hx, hy, hz⟩ := hrel
    by_cases a : i < 63
    · have a1 : decide ((i : Int) < 63) = true := decide_eq_true (by omega)
      have a2 : i < 63 := a
      have hS := Send1 g g [(u2, [100])] ((u5, [113]) :: qs) 2 (i : Int) none 0 [] _ hA (Kd.C_nil _ _) (Nat.le_refl _) (by decide) (by simp only [List.length_cons]; omega)
      go_wp2_with (fail)
      refine hS.mono ?_
      clear hS
      rintro e wn ⟨un, rfl, h', hb, hf⟩
      rw [show wrap64 ((i : Int) + 1) = ((i + 1 : Nat) : Int) from by unfold wrap64; omega] at h'
      dsimp only
      go_wp2_with (fail)
      go_roundg (63 - (i + 1))
      case measure => omega
      case rel => exact ⟨i + 1, qs ++ [(un, [])], by omega, rfl, by go_num, by rw [List.cons_append] at h'; exact h', by rw [List.length_append, hl]; rfl, hB.trans (hb.mono hg0), hx.fr hf, hy.fr hf, hz.fr hf⟩
    · have a1 : decide ((i : Int) < 63) = false := decide_eq_false (by omega)
      obtain rfl : i = 63 := by omega
      have hl64 : 64 ≤ ((u5, [113]) :: qs : Ps).length := by simp only [List.length_cons]; omega
      have hlen : ((u5, [113]) :: qs : Ps).length = 64 := by simp only [List.length_cons]; omega
      clear hl a
      generalize hq : ((u5, [113]) :: qs : Ps) = q1 at *
      have hq0 : q1[0]? = some (u5, [113]) := by rw [← hq]; rfl
      have hqA := Aside0.mk hq0
      have hlA := Aside0.mk hlen
      clear hq hq0 hlen hi
      go_wp2_with (fail)
      refine (SendFull1 g g [(u2, [100])] q1 2 _ none 0 0 _ hA hl64).mono ?_
      rintro e w' ⟨rfl, h_⟩
      have h_ := h_.symm
      subst h_
      try dsimp only
      go_wp2_with (fail)
      refine (StrangeFull1 g g [(u2, [100])] q1 2 _ 0 0 0 none 0 0 _ hA hl64).mono ?_
      rintro e w101 ⟨rfl, hb⟩
      replace hA := At.below hA hb
      replace hB := hB.trans (hb.mono hB.size)
      replace hx := Ow.below hx hb
      replace hy := Ow.below hy hb
      replace hz := Ow.below hz hb
      clear hb
      try dsimp only
      go_wp2_with (fail)
      refine (TwiceFull1 g g [(u2, [100])] q1 2 _ 0 u5 [113] 0 0 none 0 0 _ hA hqA.out hl64).mono ?_
      rintro e w102 ⟨rfl, hb⟩
      replace hA := At.below hA hb
      replace hB := hB.trans (hb.mono hB.size)
      replace hx := Ow.below hx hb
      replace hy := Ow.below hy hb
      replace hz := Ow.below hz hb
      clear hb
      try dsimp only
      have zx := hx.str
      have zy := hy.str
      have zz := hz.str
      rw [show strOfNums [97, 97, 99] = ⟨#[97, 97, 99]⟩ from by decide] at zx zy zz
      simp only [List.length_cons, List.length_nil, Nat.reduceAdd] at zx zy zz
      have hW0 := Waits0 g g _ _ _ _ _ hA
      have hW1 := Waits1 g g _ _ _ _ _ hA
      rw [show ([(u2, [100])] : Ps).length = 1 from rfl] at hW0
      rw [hlA.out] at hW1
      have hC0 := Count0 g g _ _ _ _ _ hA
      have hC1 := Count1 g g _ _ _ _ _ hA
      have hC5 := CountBad (.pointer (some ⟨g, 0, none⟩)) 5 (by decide) w102
      have hW9 := WaitsBad (.pointer (some ⟨g, 0, none⟩)) (-1) (by decide) w102
      clear hx hy hz
      clear hA
      go_wp2_with (fail)
      refine hW0.mono ?_
      rintro e w' ⟨rfl, rfl⟩
      try dsimp only
      go_wp2_with (fail)
      refine hW1.mono ?_
      rintro e w' ⟨rfl, rfl⟩
      try dsimp only
      go_wp2_with (fail)
      refine hC1.mono ?_
      rintro e w' ⟨rfl, rfl⟩
      try dsimp only
      go_wp2_with (fail)
      refine hC0.mono ?_
      rintro e w' ⟨rfl, rfl⟩
      try dsimp only
      go_wp2_with (fail)
      refine hC5.mono ?_
      rintro e w' ⟨rfl, rfl⟩
      try dsimp only
      go_wp2_with (fail)
      refine hW9.mono ?_
      rintro e w' ⟨rfl, rfl⟩
      try dsimp only
      go_wp2_with (fail)
      go_ret
      exact ⟨by simp, by assumption⟩
end Go.Proofs.Ytlaojndlelcdaaa.Nets
