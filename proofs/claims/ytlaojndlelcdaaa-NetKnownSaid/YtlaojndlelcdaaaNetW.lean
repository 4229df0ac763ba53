/- NetRow, walked: what is sent comes in its order, as it was. Its condition: no byte string of 2^47 bytes and more. -/
import Derived.Test.YtlaojndlelcdaaaNetA
namespace Go.Proofs.Ytlaojndlelcdaaa.Nets
set_option linter.unusedSimpArgs false
set_option linter.unusedVariables false
open Go.RowKit Go.Proofs.Ytlaojndlelcdaaa.P Go.Proofs.YtlaojndlelcdaaaW.PrintWords Go.Proofs.YtlaojndlelcdaaaW.PrintLast Go.Proofs.YtlaojndlelcdaaaW.PrintMore

theorem Take0 (B g : Nat) (ps0 ps1 : Ps) (c0 c1 : Int) (u : Value) (x : List Int) (w : World) (h : At w B g ((u, x) :: ps0) ps1 c0 c1) :
    Calls Try.prog 41 #[.pointer (some ⟨g, 0, none⟩), .agg #[.int .i64 1, .int .i64 0, .int .i64 0, .int .i64 0, .int .u8 0, .slice none 0 0]] w fun e w' => e = .returned (.tuple #[u, .int .i64 0]) ∧ At w' B g ps0 ps1 c0 c1 ∧ Below B w w' ∧ Ow w' B (u, x) ∧ Fr5 w w' :=
  Do0_1 B g ((u, x) :: ps0) ps1 c0 c1 0 u x 0 0 none 0 0 w h rfl
theorem Take1 (B g : Nat) (ps0 ps1 : Ps) (c0 c1 : Int) (u : Value) (x : List Int) (w : World) (h : At w B g ps0 ((u, x) :: ps1) c0 c1) :
    Calls Try.prog 41 #[.pointer (some ⟨g, 0, none⟩), .agg #[.int .i64 1, .int .i64 1, .int .i64 0, .int .i64 0, .int .u8 0, .slice none 0 0]] w fun e w' => e = .returned (.tuple #[u, .int .i64 0]) ∧ At w' B g ps0 ps1 c0 c1 ∧ Below B w w' ∧ Ow w' B (u, x) ∧ Fr5 w w' :=
  Do1_1 B g ps0 ((u, x) :: ps1) c0 c1 0 u x 0 0 none 0 0 w h rfl
theorem Ow.str {W : World} {B : Nat} {u : Value} {x : List Int} (h : Ow W B (u, x)) : (convert 24 9 u).run Try.prog W = .ok (.string (strOfNums x)) W := by
  obtain ⟨A, c, hu, hc, hC⟩ := h.slice
  dsimp only at hu hc hC
  subst hu
  exact C_string_n Try.underlying24 Try.underlying5 Try.underlying9 hC rfl
set_option maxHeartbeats 8000000 in
set_option maxRecDepth 100000 in
theorem awake_calls (w : World) : Calls Try.prog 38 #[] w fun e w' => e = .returned (.bool true) ∧ Below w.heap.size w w' := by
  go_enter Try.func38, Try.ntmps38
  go_wp2_with (first
    | (go_at_call 39; refine (New_calls w).mono ?_; rintro e wa ⟨rfl, hA, ba⟩)
    | ((with_reducible refine gate_dst (N := 10) rfl ?_); refine V_mlit (xs := [97, 98]) (n := 2) (N := 10) ?hg ?hd (.tmp 9) (t := 24) (e := 5) rfl rfl Try.underlying24 Try.underlying5 rfl rfl (by decide) ?_; (case hd => rfl); (case hg => rfl); intro vx wx hv bx hg_ hnew; obtain ⟨Ax, cx, rfl, hcx, hFx⟩ := hv; replace hA := At.below hA bx; have hS := Send1 w.heap.size w.heap.size [] [] 0 0 Ax cx [97, 98] wx hA (Kd.F_now hFx) hcx (by decide) (by decide))
    )
  refine hS.mono ?_
  clear hS
  rintro e w2 ⟨u, rfl, hA2, hb2, _⟩
  dsimp only
  go_wp2_with (fail)
  refine (Take1 w.heap.size w.heap.size [] [] 0 (wrap64 (0 + 1)) u [97, 98] w2 hA2).mono ?_
  rintro e w3 ⟨rfl, hA3, hb3, hO, _⟩
  dsimp only
  have hs := hO.str
  rw [show strOfNums [97, 98] = ⟨#[97, 98]⟩ from by decide] at hs
  have hW := Waits1 w.heap.size w.heap.size _ _ _ _ w3 hA3
  have hCt := Count1 w.heap.size w.heap.size _ _ _ _ w3 hA3
  rw [show wrap64 (0 + 1) = 1 from by simp [wrap64]] at hCt
  have hB : Below w.heap.size w w3 := ((ba.trans (bx.mono ba.size)).trans hb2).trans hb3
  clear hA2 hb2 hA3 hb3 hO hFx hA ba bx hg_ hnew hcx
  go_wp2_with (first
    | (go_at_call 42; refine hW.mono ?_; rintro e w' ⟨rfl, rfl⟩)
    | (go_at_call 47; refine hCt.mono ?_; rintro e w' ⟨rfl, rfl⟩))
  go_ret
  exact ⟨by simp, by assumption⟩
theorem take_more {l : List (List Int)} {qs : Ps} {i : Nat} (h : qs.map Prod.snd = l.take i) (u : Value) (hi : i < l.length) : (qs ++ [(u, l[i])]).map Prod.snd = l.take (i + 1) := by
  rw [List.map_append, h, List.take_succ_eq_append_getElem hi]; rfl
theorem take_same {l : List (List Int)} {qs : Ps} {i : Nat} (h : qs.map Prod.snd = l.take i) (hi : l.length ≤ i) : qs.map Prod.snd = l.take (i + 1) := by
  rw [h, List.take_of_length_le hi, List.take_of_length_le (by omega)]
theorem rd_at {l : List (List Int)} {i : Nat} (hi : i < l.length) : rd_L2 l (i : Int) = l[i] := by simp [rd_L2, hi]
set_option maxHeartbeats 8000000 in
set_option maxRecDepth 100000 in
theorem NetRow_0 (A0 A1 : Option Addr) (c0 c1 : Nat) (l0 l1 : List (List Int)) (w : World) (hC0 : Kd.C (Kd.slice 5 (Kd.int .u8)) w A0 l0.length l0) (hC1 : Kd.C (Kd.slice 5 (Kd.int .u8)) w A1 l1.length l1) (hm0 : ∀ x ∈ l0, x.length < 140737488355328) (hm1 : ∀ x ∈ l1, x.length < 140737488355328) (h0 : l0.length ≤ 60) (h1 : l1.length ≤ 60) :
    Calls Try.prog 9 #[.slice A0 l0.length c0, .slice A1 l1.length c1, .int .i64 0] w fun e w' => e = .returned (.bool true) ∧ Below w.heap.size w w' := by
  have b0 : decide ((60 : Int) < (l0.length : Int)) = false := decide_eq_false (by omega)
  have b1 : decide ((60 : Int) < (l1.length : Int)) = false := decide_eq_false (by omega)
  go_enter Try.func9, Try.ntmps9
  go_wp2_with (first
    | (go_at_call 38; refine (awake_calls w).mono ?_; rintro e wa ⟨rfl, ba⟩)
    | (go_at_call 39; refine (New_calls wa).mono ?_; rintro e wb ⟨rfl, hA, bb⟩))
  have hg0 : w.heap.size ≤ wa.heap.size := ba.size
  have hB : Below w.heap.size w wb := ba.trans (bb.mono hg0)
  clear ba bb
  generalize wa.heap.size = g at *
  clear b0 b1
  go_loopg [8] (max l0.length l1.length) (fun gg s8 wr => ∃ (i : Nat) (qs rs : Ps) (c d : Int), i ≤ max l0.length l1.length ∧ gg = max l0.length l1.length - i ∧ s8 = .int .i64 i ∧ At wr g g qs rs c d ∧ Below w.heap.size w wr ∧ qs.map Prod.snd = l0.take i ∧ rs.map Prod.snd = l1.take i)
  case atStart => exact ⟨0, [], [], 0, 0, Nat.zero_le _, rfl, rfl, hA, hB, rfl, rfl⟩
  case round =>
    clear hA hB
    obtain ⟨i, qs, rs, c, d, hi, rfl, rfl, hAr, hBr, hq, hr⟩ := hrel
    by_cases a : i < l0.length
    · have a1 : decide ((i : Int) < (l0.length : Int)) = true := decide_eq_true (by omega)
      by_cases b : i < l1.length
      · have b1 : decide ((i : Int) < (l1.length : Int)) = true := decide_eq_true (by omega)
        have hq2 := fun u => take_more hq u a
        have hr2 := fun u => take_more hr u b
        obtain ⟨ad0, E0, e0, hA0e, hc0, hle0, hE0⟩ := at_L2 (Kd.C_below hC0 hBr) (i : Int) (by omega) (by omega)
        rw [rd_at a] at hc0 hle0 hE0
        rw [Int.toNat_natCast] at hc0
        have hml0 := hm0 _ (List.getElem_mem a)
        generalize l0[i] = x0 at hc0 hle0 hE0 hml0 hq2
        have hS0 := Send0 g g qs rs c d E0 e0 x0 wr hAr hE0 hle0 hml0 (by have := congrArg List.length hq; rw [List.length_map, List.length_take] at this; omega)
        subst hA0e
        go_wp2_with (fail)
        refine hS0.mono ?_
        clear hS0
        rintro e' w2 ⟨u, rfl, hA2, hb2, _⟩
        dsimp only
        have hB2 := hBr.trans (hb2.mono hg0)
        have hq := hq
        obtain ⟨ad1, E1, e1, hA1e, hc1, hle1, hE1⟩ := at_L2 (Kd.C_below hC1 hB2) (i : Int) (by omega) (by omega)
        rw [rd_at b] at hc1 hle1 hE1
        rw [Int.toNat_natCast] at hc1
        have hml1 := hm1 _ (List.getElem_mem b)
        generalize l1[i] = x1 at hc1 hle1 hE1 hml1 hr2
        have hS1 := Send1 g g (qs ++ [(u, x0)]) rs (wrap64 (c + 1)) d E1 e1 x1 w2 hA2 hE1 hle1 hml1 (by have := congrArg List.length hr; rw [List.length_map, List.length_take] at this; omega)
        subst hA1e
        go_wp2_with (fail)
        refine hS1.mono ?_
        clear hS1
        rintro e' w3 ⟨v, rfl, hA3, hb3, _⟩
        dsimp only
        have hB3 := hB2.trans (hb3.mono hg0)
        go_wp2_with (fail)
        go_roundg (max l0.length l1.length - (i + 1))
        case measure => omega
        case rel => exact ⟨i + 1, qs ++ [(u, x0)], rs ++ [(v, x1)], wrap64 (c + 1), wrap64 (d + 1), by omega, rfl, by go_num, hA3, hB3, hq2 u, hr2 v⟩
      · have b1 : decide ((i : Int) < (l1.length : Int)) = false := decide_eq_false (by omega)
        have hq2 := fun u => take_more hq u a
        have hr2 := take_same hr (by omega)
        obtain ⟨ad0, E0, e0, hA0e, hc0, hle0, hE0⟩ := at_L2 (Kd.C_below hC0 hBr) (i : Int) (by omega) (by omega)
        rw [rd_at a] at hc0 hle0 hE0
        rw [Int.toNat_natCast] at hc0
        have hml0 := hm0 _ (List.getElem_mem a)
        generalize l0[i] = x0 at hc0 hle0 hE0 hml0 hq2
        have hS0 := Send0 g g qs rs c d E0 e0 x0 wr hAr hE0 hle0 hml0 (by have := congrArg List.length hq; rw [List.length_map, List.length_take] at this; omega)
        subst hA0e
        go_wp2_with (fail)
        refine hS0.mono ?_
        clear hS0
        rintro e' w2 ⟨u, rfl, hA2, hb2, _⟩
        dsimp only
        have hB2 := hBr.trans (hb2.mono hg0)
        go_wp2_with (fail)
        go_roundg (max l0.length l1.length - (i + 1))
        case measure => omega
        case rel => exact ⟨i + 1, qs ++ [(u, x0)], rs, wrap64 (c + 1), d, by omega, rfl, by go_num, hA2, hB2, hq2 u, hr2⟩
    · have a1 : decide ((i : Int) < (l0.length : Int)) = false := decide_eq_false (by omega)
      by_cases b : i < l1.length
      · have b1 : decide ((i : Int) < (l1.length : Int)) = true := decide_eq_true (by omega)
        have hq2 := take_same hq (by omega)
        have hr2 := fun u => take_more hr u b
        obtain ⟨ad1, E1, e1, hA1e, hc1, hle1, hE1⟩ := at_L2 (Kd.C_below hC1 hBr) (i : Int) (by omega) (by omega)
        rw [rd_at b] at hc1 hle1 hE1
        rw [Int.toNat_natCast] at hc1
        have hml1 := hm1 _ (List.getElem_mem b)
        generalize l1[i] = x1 at hc1 hle1 hE1 hml1 hr2
        have hS1 := Send1 g g qs rs c d E1 e1 x1 wr hAr hE1 hle1 hml1 (by have := congrArg List.length hr; rw [List.length_map, List.length_take] at this; omega)
        subst hA1e
        go_wp2_with (fail)
        refine hS1.mono ?_
        clear hS1
        rintro e' w3 ⟨v, rfl, hA3, hb3, _⟩
        dsimp only
        have hB3 := hBr.trans (hb3.mono hg0)
        go_wp2_with (fail)
        go_roundg (max l0.length l1.length - (i + 1))
        case measure => omega
        case rel => exact ⟨i + 1, qs, rs ++ [(v, x1)], c, wrap64 (d + 1), by omega, rfl, by go_num, hA3, hB3, hq2, hr2 v⟩
      · have b1 : decide ((i : Int) < (l1.length : Int)) = false := decide_eq_false (by omega)
        have hq' : qs.map Prod.snd = l0.drop 0 := by rw [hq, List.take_of_length_le (by omega), List.drop_zero]
        have hrl : rs.length = l1.length := by have := congrArg List.length hr; rw [List.length_map, List.length_take] at this; omega
        clear hq hr hi
        go_wp2_with (fail)
        clear a b a1 b1
        go_loopg [9] l0.length (fun gg s9 wx => ∃ (j : Nat) (qs : Ps), j ≤ l0.length ∧ gg = l0.length - j ∧ s9 = .int .i64 j ∧ At wx g g qs rs c d ∧ Below w.heap.size w wx ∧ qs.map Prod.snd = l0.drop j)
        case atStart => exact ⟨0, qs, Nat.zero_le _, rfl, rfl, hAr, hBr, hq'⟩
        case round =>
          clear hAr hBr hq'
          obtain ⟨j, qs, hj, rfl, rfl, hAr, hBr, hq⟩ := hrel
          by_cases a : j < l0.length
          · have a2 : decide ((j : Int) < (l0.length : Int)) = true := decide_eq_true (by omega)
            rw [List.drop_eq_getElem_cons a] at hq
            cases qs with
            | nil => (rw [List.map_nil] at hq; cases hq)
            | cons p qs =>
              obtain ⟨u, x⟩ := p
              rw [List.map_cons, List.cons.injEq] at hq
              obtain ⟨hx, hq⟩ := hq
              dsimp only at hx
              have hT := Take0 g g qs rs c d u x _ hAr
              go_wp2_with (fail)
              refine hT.mono ?_
              clear hT
              rintro e' w2 ⟨rfl, hA2, hb2, hO, _⟩
              dsimp only
              have hB2 := hBr.trans (hb2.mono hg0)
              have z1 : ∀ m, (convert 24 9 u).run Try.prog (w2.drewN m) = .ok (.string (strOfNums x)) (w2.drewN m) := fun m => Ow.str (hO.below (pw_below_drewN (Below.refl _ _) m))
              obtain ⟨ad0, E0, e0, hA0e, hc0', hle0, hE0⟩ := at_L2 (Kd.C_below hC0 hB2) (j : Int) (by omega) (by omega)
              rw [rd_at a, ← hx] at hc0' hle0 hE0
              rw [Int.toNat_natCast] at hc0'
              subst hA0e
              have z2 : ∀ m, (convert 24 9 (.slice E0 x.length e0)).run Try.prog (w2.drewN m) = .ok (.string (strOfNums x)) (w2.drewN m) := fun m => C_string_n Try.underlying24 Try.underlying5 Try.underlying9 (Kd.C_below hE0 (pw_below_drewN (Below.refl _ _) m)) rfl
              obtain ⟨Au, cu, hu, _, _⟩ := hO.slice
              dsimp only at hu
              subst hu
              clear hx hO hle0 hE0
              go_wp2_with (fail)
              go_quiet (fail)
              go_wp2_with (fail)
              go_roundg (l0.length - (j + 1))
              case measure => omega
              case rel => exact ⟨j + 1, qs, by omega, rfl, by go_num, hA2.below (pw_below_drewN (Below.refl _ _) _), pw_below_drewN hB2 _, hq⟩
          · have a2 : decide ((j : Int) < (l0.length : Int)) = false := decide_eq_false (by omega)
            have hq0 : qs = [] := by rw [List.drop_eq_nil_of_le (by omega)] at hq; exact List.map_eq_nil_iff.1 hq
            subst hq0
            have hW0 := Waits0 g g _ _ _ _ _ hAr
            have hW1 := Waits1 g g _ _ _ _ _ hAr
            rw [hrl] at hW1
            clear hrl hAr hq
            go_wp2_with (fail)
            refine hW0.mono ?_
            rintro e w' ⟨rfl, rfl⟩
            dsimp only
            go_wp2_with (fail)
            refine hW1.mono ?_
            rintro e w' ⟨rfl, rfl⟩
            dsimp only
            go_wp2_with (fail)
            go_ret
            exact ⟨by simp, by assumption⟩
set_option maxHeartbeats 8000000 in
set_option maxRecDepth 100000 in
theorem NetRow_1 (A0 A1 : Option Addr) (c0 c1 : Nat) (l0 l1 : List (List Int)) (w : World) (hC0 : Kd.C (Kd.slice 5 (Kd.int .u8)) w A0 l0.length l0) (hC1 : Kd.C (Kd.slice 5 (Kd.int .u8)) w A1 l1.length l1) (hm0 : ∀ x ∈ l0, x.length < 140737488355328) (hm1 : ∀ x ∈ l1, x.length < 140737488355328) (h0 : l0.length ≤ 60) (h1 : l1.length ≤ 60) :
    Calls Try.prog 9 #[.slice A0 l0.length c0, .slice A1 l1.length c1, .int .i64 1] w fun e w' => e = .returned (.bool true) ∧ Below w.heap.size w w' := by
  have b0 : decide ((60 : Int) < (l0.length : Int)) = false := decide_eq_false (by omega)
  have b1 : decide ((60 : Int) < (l1.length : Int)) = false := decide_eq_false (by omega)
  go_enter Try.func9, Try.ntmps9
  go_wp2_with (first
    | (go_at_call 38; refine (awake_calls w).mono ?_; rintro e wa ⟨rfl, ba⟩)
    | (go_at_call 39; refine (New_calls wa).mono ?_; rintro e wb ⟨rfl, hA, bb⟩))
  have hg0 : w.heap.size ≤ wa.heap.size := ba.size
  have hB : Below w.heap.size w wb := ba.trans (bb.mono hg0)
  clear ba bb
  generalize wa.heap.size = g at *
  clear b0 b1
  go_loopg [8] (max l0.length l1.length) (fun gg s8 wr => ∃ (i : Nat) (qs rs : Ps) (c d : Int), i ≤ max l0.length l1.length ∧ gg = max l0.length l1.length - i ∧ s8 = .int .i64 i ∧ At wr g g rs qs d c ∧ Below w.heap.size w wr ∧ qs.map Prod.snd = l0.take i ∧ rs.map Prod.snd = l1.take i)
  case atStart => exact ⟨0, [], [], 0, 0, Nat.zero_le _, rfl, rfl, hA, hB, rfl, rfl⟩
  case round =>
    clear hA hB
    obtain ⟨i, qs, rs, c, d, hi, rfl, rfl, hAr, hBr, hq, hr⟩ := hrel
    by_cases a : i < l0.length
    · have a1 : decide ((i : Int) < (l0.length : Int)) = true := decide_eq_true (by omega)
      by_cases b : i < l1.length
      · have b1 : decide ((i : Int) < (l1.length : Int)) = true := decide_eq_true (by omega)
        have hq2 := fun u => take_more hq u a
        have hr2 := fun u => take_more hr u b
        obtain ⟨ad1, E1, e1, hA1e, hc1, hle1, hE1⟩ := at_L2 (Kd.C_below hC0 hBr) (i : Int) (by omega) (by omega)
        rw [rd_at a] at hc1 hle1 hE1
        rw [Int.toNat_natCast] at hc1
        have hml1 := hm0 _ (List.getElem_mem a)
        generalize l0[i] = x1 at hc1 hle1 hE1 hml1 hq2
        have hS1 := Send1 g g rs qs d c E1 e1 x1 wr hAr hE1 hle1 hml1 (by have := congrArg List.length hq; rw [List.length_map, List.length_take] at this; omega)
        subst hA1e
        go_wp2_with (fail)
        refine hS1.mono ?_
        clear hS1
        rintro e' w2 ⟨u, rfl, hA2, hb2, _⟩
        dsimp only
        have hB2 := hBr.trans (hb2.mono hg0)
        have hq := hq
        obtain ⟨ad0, E0, e0, hA0e, hc0, hle0, hE0⟩ := at_L2 (Kd.C_below hC1 hB2) (i : Int) (by omega) (by omega)
        rw [rd_at b] at hc0 hle0 hE0
        rw [Int.toNat_natCast] at hc0
        have hml0 := hm1 _ (List.getElem_mem b)
        generalize l1[i] = x0 at hc0 hle0 hE0 hml0 hr2
        have hS0 := Send0 g g rs (qs ++ [(u, x1)]) d (wrap64 (c + 1)) E0 e0 x0 w2 hA2 hE0 hle0 hml0 (by have := congrArg List.length hr; rw [List.length_map, List.length_take] at this; omega)
        subst hA0e
        go_wp2_with (fail)
        refine hS0.mono ?_
        clear hS0
        rintro e' w3 ⟨v, rfl, hA3, hb3, _⟩
        dsimp only
        have hB3 := hB2.trans (hb3.mono hg0)
        go_wp2_with (fail)
        go_roundg (max l0.length l1.length - (i + 1))
        case measure => omega
        case rel => exact ⟨i + 1, qs ++ [(u, x1)], rs ++ [(v, x0)], wrap64 (c + 1), wrap64 (d + 1), by omega, rfl, by go_num, hA3, hB3, hq2 u, hr2 v⟩
      · have b1 : decide ((i : Int) < (l1.length : Int)) = false := decide_eq_false (by omega)
        have hq2 := fun u => take_more hq u a
        have hr2 := take_same hr (by omega)
        obtain ⟨ad1, E1, e1, hA1e, hc1, hle1, hE1⟩ := at_L2 (Kd.C_below hC0 hBr) (i : Int) (by omega) (by omega)
        rw [rd_at a] at hc1 hle1 hE1
        rw [Int.toNat_natCast] at hc1
        have hml1 := hm0 _ (List.getElem_mem a)
        generalize l0[i] = x1 at hc1 hle1 hE1 hml1 hq2
        have hS1 := Send1 g g rs qs d c E1 e1 x1 wr hAr hE1 hle1 hml1 (by have := congrArg List.length hq; rw [List.length_map, List.length_take] at this; omega)
        subst hA1e
        go_wp2_with (fail)
        refine hS1.mono ?_
        clear hS1
        rintro e' w2 ⟨u, rfl, hA2, hb2, _⟩
        dsimp only
        have hB2 := hBr.trans (hb2.mono hg0)
        go_wp2_with (fail)
        go_roundg (max l0.length l1.length - (i + 1))
        case measure => omega
        case rel => exact ⟨i + 1, qs ++ [(u, x1)], rs, wrap64 (c + 1), d, by omega, rfl, by go_num, hA2, hB2, hq2 u, hr2⟩
    · have a1 : decide ((i : Int) < (l0.length : Int)) = false := decide_eq_false (by omega)
      by_cases b : i < l1.length
      · have b1 : decide ((i : Int) < (l1.length : Int)) = true := decide_eq_true (by omega)
        have hq2 := take_same hq (by omega)
        have hr2 := fun u => take_more hr u b
        obtain ⟨ad0, E0, e0, hA0e, hc0, hle0, hE0⟩ := at_L2 (Kd.C_below hC1 hBr) (i : Int) (by omega) (by omega)
        rw [rd_at b] at hc0 hle0 hE0
        rw [Int.toNat_natCast] at hc0
        have hml0 := hm1 _ (List.getElem_mem b)
        generalize l1[i] = x0 at hc0 hle0 hE0 hml0 hr2
        have hS0 := Send0 g g rs qs d c E0 e0 x0 wr hAr hE0 hle0 hml0 (by have := congrArg List.length hr; rw [List.length_map, List.length_take] at this; omega)
        subst hA0e
        go_wp2_with (fail)
        refine hS0.mono ?_
        clear hS0
        rintro e' w3 ⟨v, rfl, hA3, hb3, _⟩
        dsimp only
        have hB3 := hBr.trans (hb3.mono hg0)
        go_wp2_with (fail)
        go_roundg (max l0.length l1.length - (i + 1))
        case measure => omega
        case rel => exact ⟨i + 1, qs, rs ++ [(v, x0)], c, wrap64 (d + 1), by omega, rfl, by go_num, hA3, hB3, hq2, hr2 v⟩
      · have b1 : decide ((i : Int) < (l1.length : Int)) = false := decide_eq_false (by omega)
        have hq' : qs.map Prod.snd = l0.drop 0 := by rw [hq, List.take_of_length_le (by omega), List.drop_zero]
        have hrl : rs.length = l1.length := by have := congrArg List.length hr; rw [List.length_map, List.length_take] at this; omega
        clear hq hr hi
        go_wp2_with (fail)
        clear a b a1 b1
        go_loopg [9] l0.length (fun gg s9 wx => ∃ (j : Nat) (qs : Ps), j ≤ l0.length ∧ gg = l0.length - j ∧ s9 = .int .i64 j ∧ At wx g g rs qs d c ∧ Below w.heap.size w wx ∧ qs.map Prod.snd = l0.drop j)
        case atStart => exact ⟨0, qs, Nat.zero_le _, rfl, rfl, hAr, hBr, hq'⟩
        case round =>
          clear hAr hBr hq'
          obtain ⟨j, qs, hj, rfl, rfl, hAr, hBr, hq⟩ := hrel
          by_cases a : j < l0.length
          · have a2 : decide ((j : Int) < (l0.length : Int)) = true := decide_eq_true (by omega)
            rw [List.drop_eq_getElem_cons a] at hq
            cases qs with
            | nil => (rw [List.map_nil] at hq; cases hq)
            | cons p qs =>
              obtain ⟨u, x⟩ := p
              rw [List.map_cons, List.cons.injEq] at hq
              obtain ⟨hx, hq⟩ := hq
              dsimp only at hx
              have hT := Take1 g g rs qs d c u x _ hAr
              go_wp2_with (fail)
              refine hT.mono ?_
              clear hT
              rintro e' w2 ⟨rfl, hA2, hb2, hO, _⟩
              dsimp only
              have hB2 := hBr.trans (hb2.mono hg0)
              have z1 : ∀ m, (convert 24 9 u).run Try.prog (w2.drewN m) = .ok (.string (strOfNums x)) (w2.drewN m) := fun m => Ow.str (hO.below (pw_below_drewN (Below.refl _ _) m))
              obtain ⟨ad0, E0, e0, hA0e, hc0', hle0, hE0⟩ := at_L2 (Kd.C_below hC0 hB2) (j : Int) (by omega) (by omega)
              rw [rd_at a, ← hx] at hc0' hle0 hE0
              rw [Int.toNat_natCast] at hc0'
              subst hA0e
              have z2 : ∀ m, (convert 24 9 (.slice E0 x.length e0)).run Try.prog (w2.drewN m) = .ok (.string (strOfNums x)) (w2.drewN m) := fun m => C_string_n Try.underlying24 Try.underlying5 Try.underlying9 (Kd.C_below hE0 (pw_below_drewN (Below.refl _ _) m)) rfl
              obtain ⟨Au, cu, hu, _, _⟩ := hO.slice
              dsimp only at hu
              subst hu
              clear hx hO hle0 hE0
              go_wp2_with (fail)
              go_quiet (fail)
              go_wp2_with (fail)
              go_roundg (l0.length - (j + 1))
              case measure => omega
              case rel => exact ⟨j + 1, qs, by omega, rfl, by go_num, hA2.below (pw_below_drewN (Below.refl _ _) _), pw_below_drewN hB2 _, hq⟩
          · have a2 : decide ((j : Int) < (l0.length : Int)) = false := decide_eq_false (by omega)
            have hq0 : qs = [] := by rw [List.drop_eq_nil_of_le (by omega)] at hq; exact List.map_eq_nil_iff.1 hq
            subst hq0
            have hW0 := Waits0 g g _ _ _ _ _ hAr
            have hW1 := Waits1 g g _ _ _ _ _ hAr
            rw [hrl] at hW0
            clear hrl hAr hq
            go_wp2_with (fail)
            refine hW1.mono ?_
            rintro e w' ⟨rfl, rfl⟩
            dsimp only
            go_wp2_with (fail)
            refine hW0.mono ?_
            rintro e w' ⟨rfl, rfl⟩
            dsimp only
            go_wp2_with (fail)
            go_ret
            exact ⟨by simp, by assumption⟩
theorem NetRow_calls (A0 A1 : Option Addr) (c0 c1 : Nat) (l0 l1 : List (List Int)) (t : Int) (w : World) (hC0 : Kd.C (Kd.slice 5 (Kd.int .u8)) w A0 l0.length l0) (hC1 : Kd.C (Kd.slice 5 (Kd.int .u8)) w A1 l1.length l1) (hm0 : ∀ x ∈ l0, x.length < 140737488355328) (hm1 : ∀ x ∈ l1, x.length < 140737488355328) :
    Calls Try.prog 9 #[.slice A0 l0.length c0, .slice A1 l1.length c1, .int .i64 t] w fun e w' => e = .returned (.bool true) ∧ Below w.heap.size w w' := by
  by_cases h0 : l0.length ≤ 60
  · have b0 : decide ((60 : Int) < (l0.length : Int)) = false := decide_eq_false (by omega)
    by_cases h1 : l1.length ≤ 60
    · have b1 : decide ((60 : Int) < (l1.length : Int)) = false := decide_eq_false (by omega)
      by_cases h2 : t < 0
      · have b2 : decide (t < 0) = true := decide_eq_true h2
        go_enter Try.func9, Try.ntmps9
        go_wp2_with (go_at_call 38; refine (awake_calls w).mono ?_; rintro e wa ⟨rfl, ba⟩)
        go_ret
        exact ⟨rfl, by assumption⟩
      · have b2 : decide (t < 0) = false := decide_eq_false h2
        by_cases h3 : 1 < t
        · have b3 : decide (1 < t) = true := decide_eq_true h3
          go_enter Try.func9, Try.ntmps9
          go_wp2_with (go_at_call 38; refine (awake_calls w).mono ?_; rintro e wa ⟨rfl, ba⟩)
          go_ret
          exact ⟨rfl, by assumption⟩
        · rcases (show t = 0 ∨ t = 1 by omega) with rfl | rfl
          · exact NetRow_0 A0 A1 c0 c1 l0 l1 w hC0 hC1 hm0 hm1 h0 h1
          · exact NetRow_1 A0 A1 c0 c1 l0 l1 w hC0 hC1 hm0 hm1 h0 h1
    · have b1 : decide ((60 : Int) < (l1.length : Int)) = true := decide_eq_true (by omega)
      go_enter Try.func9, Try.ntmps9
      go_wp2_with (go_at_call 38; refine (awake_calls w).mono ?_; rintro e wa ⟨rfl, ba⟩)
      go_ret
      exact ⟨rfl, by assumption⟩
  · have b0 : decide ((60 : Int) < (l0.length : Int)) = true := decide_eq_true (by omega)
    go_enter Try.func9, Try.ntmps9
    go_wp2_with (go_at_call 38; refine (awake_calls w).mono ?_; rintro e wa ⟨rfl, ba⟩)
    go_ret
    exact ⟨rfl, by assumption⟩
end Go.Proofs.Ytlaojndlelcdaaa.Nets
