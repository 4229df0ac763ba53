/- The net of the program, walked: the rest of what befalls. No condition but what it is called with. -/
import Derived.Test.YtlaojndlelcdaaaNetA
namespace Go.Proofs.Ytlaojndlelcdaaa.Nets
set_option linter.unusedSimpArgs false
set_option linter.unusedVariables false
open Go.RowKit Go.Proofs.Ytlaojndlelcdaaa.P Go.Proofs.YtlaojndlelcdaaaW.PrintWords Go.Proofs.YtlaojndlelcdaaaW.PrintLast Go.Proofs.YtlaojndlelcdaaaW.PrintMore
theorem SendBad (p : Value) (t : Int) (ht : (decide (0 ≤ t) && decide (t < 2)) = false) (A : Option Addr) (n c : Nat) (w : World) : Calls Try.prog 40 #[p, .int .i64 t, .slice A n c] w fun e w' => e = .returned (.bool false) ∧ w' = w := by
  have hE := end_calls t w
  rw [ht] at hE
  go_enter Try.func40, Try.ntmps40
  go_wp2_with (go_at_call 71; refine hE.mono ?_; rintro e w' ⟨rfl, rfl⟩)
  go_ret
  exact ⟨rfl, rfl⟩
theorem WaitsBad (p : Value) (t : Int) (ht : (decide (0 ≤ t) && decide (t < 2)) = false) (w : World) : Calls Try.prog 42 #[p, .int .i64 t] w fun e w' => e = .returned (.int .i64 0) ∧ w' = w := by
  have hE := end_calls t w
  rw [ht] at hE
  go_enter Try.func42, Try.ntmps42
  go_wp2_with (go_at_call 71; refine hE.mono ?_; rintro e w' ⟨rfl, rfl⟩)
  go_ret
  exact ⟨rfl, rfl⟩
theorem CountBad (p : Value) (t : Int) (ht : (decide (0 ≤ t) && decide (t < 2)) = false) (w : World) : Calls Try.prog 47 #[p, .int .i64 t] w fun e w' => e = .returned (.int .i64 0) ∧ w' = w := by
  have hE := end_calls t w
  rw [ht] at hE
  go_enter Try.func47, Try.ntmps47
  go_wp2_with (go_at_call 71; refine hE.mono ?_; rintro e w' ⟨rfl, rfl⟩)
  go_ret
  exact ⟨rfl, rfl⟩
theorem DoBad0 (p : Value) (op : Int) (t : Int) (ht : (decide (0 ≤ t) && decide (t < 2)) = false) (i s y : Int) (AB : Option Addr) (nB cB : Nat) (w : World) : Calls Try.prog 41 #[p, .agg #[.int .i64 op, .int .i64 t, .int .i64 i, .int .i64 s, .int .u8 y, .slice AB nB cB]] w fun e w' => e = .returned (.tuple #[.slice none 0 0, .int .i64 1]) ∧ Below w.heap.size w w' := by
  have hE := fun w => end_calls t w
  rw [ht] at hE
  go_enter Try.func41, Try.ntmps41
  go_wp2_with (go_at_call 71; refine (hE _).mono ?_; rintro e w' ⟨rfl, rfl⟩)
  go_ret2
  exact ⟨rfl, below_alloc (Below.refl _ _) _⟩
theorem DoBad1 (p : Value) (op t : Int) (hop : op < 1 ∨ 5 < op) (i s y : Int) (AB : Option Addr) (nB cB : Nat) (w : World) : Calls Try.prog 41 #[p, .agg #[.int .i64 op, .int .i64 t, .int .i64 i, .int .i64 s, .int .u8 y, .slice AB nB cB]] w fun e w' => e = .returned (.tuple #[.slice none 0 0, .int .i64 1]) ∧ Below w.heap.size w w' := by
  have hE := fun w => end_calls t w
  cases hq : (decide (0 ≤ t) && decide (t < 2)) with
  | false => exact DoBad0 p op t hq i s y AB nB cB w
  | true =>
    rw [hq] at hE
    by_cases h1 : op < 1
    · have h1b : decide (op < 1) = true := decide_eq_true h1
      go_enter Try.func41, Try.ntmps41
      go_wp2_with (go_at_call 71; refine (hE _).mono ?_; rintro e w' ⟨rfl, rfl⟩)
      go_ret2
      exact ⟨rfl, below_alloc (Below.refl _ _) _⟩
    · have h1b : decide (op < 1) = false := decide_eq_false h1
      have h5b : decide (5 < op) = true := decide_eq_true (hop.resolve_left h1)
      go_enter Try.func41, Try.ntmps41
      go_wp2_with (go_at_call 71; refine (hE _).mono ?_; rintro e w' ⟨rfl, rfl⟩)
      go_ret2
      exact ⟨rfl, below_alloc (Below.refl _ _) _⟩
theorem SeeNone0 (B g : Nat) (ps0 ps1 : Ps) (c0 c1 : Int) (i : Int) (w : World) (h : At w B g ps0 ps1 c0 c1) (hi : i < 0 ∨ (ps0.length : Int) ≤ i) :
    Calls Try.prog 46 #[.pointer (some ⟨g, 0, none⟩), .int .i64 0, .int .i64 i] w fun e w' => e = .returned (.tuple #[.slice none 0 0, .bool false]) ∧ w' = w := by
  obtain ⟨hB, v0, v1, hb, hr0, hr1, hne, how, hap⟩ := id h
  obtain ⟨A0, d0, rfl⟩ := hr0.slice
  obtain ⟨A1, d1, rfl⟩ := hr1.slice
  obtain ⟨⟨q0, q1, q2, q3⟩, z0, z1, z2, z3⟩ := reads_ hb
  by_cases h1 : i < 0
  · have g1 : decide (i < 0) = true := decide_eq_true h1
    go_enter Try.func46, Try.ntmps46
    go_wp2_with (go_at_call 71; refine (end_calls 0 w).mono ?_; rintro e w' ⟨rfl, rfl⟩)
    go_ret2
    exact ⟨rfl, rfl⟩
  · have g1 : decide (i < 0) = false := decide_eq_false h1
    have g2 : decide ((ps0.length : Int) ≤ i) = true := decide_eq_true (hi.resolve_left h1)
    go_enter Try.func46, Try.ntmps46
    go_wp2_with (go_at_call 71; refine (end_calls 0 w).mono ?_; rintro e w' ⟨rfl, rfl⟩)
    go_ret2
    exact ⟨rfl, rfl⟩
set_option maxHeartbeats 4000000 in
theorem DoNone0 (B g : Nat) (ps0 ps1 : Ps) (c0 c1 : Int) (op i t y : Int) (AB : Option Addr) (nB cB : Nat) (w : World) (h : At w B g ps0 ps1 c0 c1) (ho : 1 ≤ op) (ho4 : op ≤ 4) (hi : i < 0 ∨ (ps0.length : Int) ≤ i) :
    Calls Try.prog 41 #[.pointer (some ⟨g, 0, none⟩), .agg #[.int .i64 op, .int .i64 0, .int .i64 i, .int .i64 t, .int .u8 y, .slice AB nB cB]] w fun e w' => e = .returned (.tuple #[.slice none 0 0, .int .i64 5]) ∧ Below w.heap.size w w' := by
  obtain ⟨hB, v0, v1, hb, hr0, hr1, hne, how, hap⟩ := id h
  obtain ⟨A0, d0, rfl⟩ := hr0.slice
  obtain ⟨A1, d1, rfl⟩ := hr1.slice
  obtain ⟨⟨q0, q1, q2, q3⟩, z0, z1, z2, z3⟩ := reads_ hb
  have o1 : decide (op < 1) = false := decide_eq_false (by omega)
  have o2 : decide (5 < op) = false := decide_eq_false (by omega)
  have o3 : (op == 5) = false := beq_eq_false_iff_ne.2 (by omega)
  have hbx := blk_alloc hb (.cells #[.int .i64 op, .int .i64 0, .int .i64 i, .int .i64 t, .int .u8 y, .slice AB nB cB] 52)
  have hnx := blk_new w (.cells #[.int .i64 op, .int .i64 0, .int .i64 i, .int .i64 t, .int .u8 y, .slice AB nB cB] 52)
  obtain ⟨⟨q0x, q1x, q2x, q3x⟩, z0x, z1x, z2x, z3x⟩ := reads_ hbx
  by_cases h1 : i < 0
  · have g1 : decide (i < 0) = true := decide_eq_true h1
    go_enter Try.func41, Try.ntmps41
    go_wp2_with (go_at_call 71; refine (end_calls 0 _).mono ?_; rintro e w' ⟨rfl, rfl⟩)
    go_quiet (fail)
    go_wp2_with (fail)
    go_ret2
    exact ⟨rfl, pw_below_drewN (below_alloc (Below.refl _ _) _) _⟩
  · have g1 : decide (i < 0) = false := decide_eq_false h1
    have g2 : decide ((ps0.length : Int) ≤ i) = true := decide_eq_true (hi.resolve_left h1)
    go_enter Try.func41, Try.ntmps41
    go_wp2_with (go_at_call 71; refine (end_calls 0 _).mono ?_; rintro e w' ⟨rfl, rfl⟩)
    go_quiet (fail)
    go_wp2_with (fail)
    go_ret2
    exact ⟨rfl, pw_below_drewN (below_alloc (Below.refl _ _) _) _⟩
theorem Strange0 (B g : Nat) (ps0 ps1 : Ps) (c0 c1 : Int) (i t y : Int) (A : Option Addr) (c : Nat) (l0 : List Int) (w : World) (h : At w B g ps0 ps1 c0 c1) (hC : Kd.C (Kd.int .u8) w A l0.length l0) (hc : l0.length ≤ c) (hm : l0.length < 140737488355328) (hf : ps0.length < 64) :
    Calls Try.prog 41 #[.pointer (some ⟨g, 0, none⟩), .agg #[.int .i64 5, .int .i64 0, .int .i64 i, .int .i64 t, .int .u8 y, .slice A l0.length c]] w fun e w' => ∃ u, e = .returned (.tuple #[.slice none 0 0, .int .i64 0]) ∧ At w' B g (ps0 ++ [(u, l0)]) ps1 c0 c1 ∧ Below B w w' ∧ Fr5 w w' := by
  have hD := below_alloc (Below.refl w.heap.size w) (.cells #[.int .i64 5, .int .i64 0, .int .i64 i, .int .i64 t, .int .u8 y, .slice A l0.length c] 52)
  have hP := Put0 B g ps0 ps1 c0 c1 A c l0 _ (h.below hD) (Kd.C_below hC hD) hc hm hf
  have hBg := Nat.le_trans h.1 (Nat.le_of_lt h.lt)
  go_enter Try.func41, Try.ntmps41
  go_wp2_with (first | (go_at_call 71; refine (end_calls 0 _).mono ?_; rintro e w' ⟨rfl, rfl⟩) | (go_at_call 72; refine hP.mono ?_; rintro e w2 ⟨u, rfl, hA2, hb2, hf2⟩))
  go_ret2
  exact ⟨u, rfl, hA2, (hD.mono hBg).trans hb2, (Fr5.below hD).trans hf2⟩
theorem StrangeFull0 (B g : Nat) (ps0 ps1 : Ps) (c0 c1 : Int) (i t y : Int) (A : Option Addr) (n c : Nat) (w : World) (h : At w B g ps0 ps1 c0 c1) (hf : 64 ≤ ps0.length) :
    Calls Try.prog 41 #[.pointer (some ⟨g, 0, none⟩), .agg #[.int .i64 5, .int .i64 0, .int .i64 i, .int .i64 t, .int .u8 y, .slice A n c]] w fun e w' => e = .returned (.tuple #[.slice none 0 0, .int .i64 9]) ∧ Below w.heap.size w w' := by
  have hD := below_alloc (Below.refl w.heap.size w) (.cells #[.int .i64 5, .int .i64 0, .int .i64 i, .int .i64 t, .int .u8 y, .slice A n c] 52)
  have hP := PutFull0 B g ps0 ps1 c0 c1 A n c _ (h.below hD) hf
  go_enter Try.func41, Try.ntmps41
  go_wp2_with (first | (go_at_call 71; refine (end_calls 0 _).mono ?_; rintro e w' ⟨rfl, rfl⟩) | (go_at_call 72; refine hP.mono ?_; rintro e w2 ⟨rfl, rfl⟩))
  go_ret2
  exact ⟨rfl, hD⟩
theorem SeeNone1 (B g : Nat) (ps0 ps1 : Ps) (c0 c1 : Int) (i : Int) (w : World) (h : At w B g ps0 ps1 c0 c1) (hi : i < 0 ∨ (ps1.length : Int) ≤ i) :
    Calls Try.prog 46 #[.pointer (some ⟨g, 0, none⟩), .int .i64 1, .int .i64 i] w fun e w' => e = .returned (.tuple #[.slice none 0 0, .bool false]) ∧ w' = w := by
  obtain ⟨hB, v0, v1, hb, hr0, hr1, hne, how, hap⟩ := id h
  obtain ⟨A0, d0, rfl⟩ := hr0.slice
  obtain ⟨A1, d1, rfl⟩ := hr1.slice
  obtain ⟨⟨q0, q1, q2, q3⟩, z0, z1, z2, z3⟩ := reads_ hb
  by_cases h1 : i < 0
  · have g1 : decide (i < 0) = true := decide_eq_true h1
    go_enter Try.func46, Try.ntmps46
    go_wp2_with (go_at_call 71; refine (end_calls 1 w).mono ?_; rintro e w' ⟨rfl, rfl⟩)
    go_ret2
    exact ⟨rfl, rfl⟩
  · have g1 : decide (i < 0) = false := decide_eq_false h1
    have g2 : decide ((ps1.length : Int) ≤ i) = true := decide_eq_true (hi.resolve_left h1)
    go_enter Try.func46, Try.ntmps46
    go_wp2_with (go_at_call 71; refine (end_calls 1 w).mono ?_; rintro e w' ⟨rfl, rfl⟩)
    go_ret2
    exact ⟨rfl, rfl⟩
set_option maxHeartbeats 4000000 in
theorem DoNone1 (B g : Nat) (ps0 ps1 : Ps) (c0 c1 : Int) (op i t y : Int) (AB : Option Addr) (nB cB : Nat) (w : World) (h : At w B g ps0 ps1 c0 c1) (ho : 1 ≤ op) (ho4 : op ≤ 4) (hi : i < 0 ∨ (ps1.length : Int) ≤ i) :
    Calls Try.prog 41 #[.pointer (some ⟨g, 0, none⟩), .agg #[.int .i64 op, .int .i64 1, .int .i64 i, .int .i64 t, .int .u8 y, .slice AB nB cB]] w fun e w' => e = .returned (.tuple #[.slice none 0 0, .int .i64 5]) ∧ Below w.heap.size w w' := by
  obtain ⟨hB, v0, v1, hb, hr0, hr1, hne, how, hap⟩ := id h
  obtain ⟨A0, d0, rfl⟩ := hr0.slice
  obtain ⟨A1, d1, rfl⟩ := hr1.slice
  obtain ⟨⟨q0, q1, q2, q3⟩, z0, z1, z2, z3⟩ := reads_ hb
  have o1 : decide (op < 1) = false := decide_eq_false (by omega)
  have o2 : decide (5 < op) = false := decide_eq_false (by omega)
  have o3 : (op == 5) = false := beq_eq_false_iff_ne.2 (by omega)
  have hbx := blk_alloc hb (.cells #[.int .i64 op, .int .i64 1, .int .i64 i, .int .i64 t, .int .u8 y, .slice AB nB cB] 52)
  have hnx := blk_new w (.cells #[.int .i64 op, .int .i64 1, .int .i64 i, .int .i64 t, .int .u8 y, .slice AB nB cB] 52)
  obtain ⟨⟨q0x, q1x, q2x, q3x⟩, z0x, z1x, z2x, z3x⟩ := reads_ hbx
  by_cases h1 : i < 0
  · have g1 : decide (i < 0) = true := decide_eq_true h1
    go_enter Try.func41, Try.ntmps41
    go_wp2_with (go_at_call 71; refine (end_calls 1 _).mono ?_; rintro e w' ⟨rfl, rfl⟩)
    go_quiet (fail)
    go_wp2_with (fail)
    go_ret2
    exact ⟨rfl, pw_below_drewN (below_alloc (Below.refl _ _) _) _⟩
  · have g1 : decide (i < 0) = false := decide_eq_false h1
    have g2 : decide ((ps1.length : Int) ≤ i) = true := decide_eq_true (hi.resolve_left h1)
    go_enter Try.func41, Try.ntmps41
    go_wp2_with (go_at_call 71; refine (end_calls 1 _).mono ?_; rintro e w' ⟨rfl, rfl⟩)
    go_quiet (fail)
    go_wp2_with (fail)
    go_ret2
    exact ⟨rfl, pw_below_drewN (below_alloc (Below.refl _ _) _) _⟩
theorem Strange1 (B g : Nat) (ps0 ps1 : Ps) (c0 c1 : Int) (i t y : Int) (A : Option Addr) (c : Nat) (l0 : List Int) (w : World) (h : At w B g ps0 ps1 c0 c1) (hC : Kd.C (Kd.int .u8) w A l0.length l0) (hc : l0.length ≤ c) (hm : l0.length < 140737488355328) (hf : ps1.length < 64) :
    Calls Try.prog 41 #[.pointer (some ⟨g, 0, none⟩), .agg #[.int .i64 5, .int .i64 1, .int .i64 i, .int .i64 t, .int .u8 y, .slice A l0.length c]] w fun e w' => ∃ u, e = .returned (.tuple #[.slice none 0 0, .int .i64 0]) ∧ At w' B g ps0 (ps1 ++ [(u, l0)]) c0 c1 ∧ Below B w w' ∧ Fr5 w w' := by
  have hD := below_alloc (Below.refl w.heap.size w) (.cells #[.int .i64 5, .int .i64 1, .int .i64 i, .int .i64 t, .int .u8 y, .slice A l0.length c] 52)
  have hP := Put1 B g ps0 ps1 c0 c1 A c l0 _ (h.below hD) (Kd.C_below hC hD) hc hm hf
  have hBg := Nat.le_trans h.1 (Nat.le_of_lt h.lt)
  go_enter Try.func41, Try.ntmps41
  go_wp2_with (first | (go_at_call 71; refine (end_calls 1 _).mono ?_; rintro e w' ⟨rfl, rfl⟩) | (go_at_call 72; refine hP.mono ?_; rintro e w2 ⟨u, rfl, hA2, hb2, hf2⟩))
  go_ret2
  exact ⟨u, rfl, hA2, (hD.mono hBg).trans hb2, (Fr5.below hD).trans hf2⟩
theorem StrangeFull1 (B g : Nat) (ps0 ps1 : Ps) (c0 c1 : Int) (i t y : Int) (A : Option Addr) (n c : Nat) (w : World) (h : At w B g ps0 ps1 c0 c1) (hf : 64 ≤ ps1.length) :
    Calls Try.prog 41 #[.pointer (some ⟨g, 0, none⟩), .agg #[.int .i64 5, .int .i64 1, .int .i64 i, .int .i64 t, .int .u8 y, .slice A n c]] w fun e w' => e = .returned (.tuple #[.slice none 0 0, .int .i64 9]) ∧ Below w.heap.size w w' := by
  have hD := below_alloc (Below.refl w.heap.size w) (.cells #[.int .i64 5, .int .i64 1, .int .i64 i, .int .i64 t, .int .u8 y, .slice A n c] 52)
  have hP := PutFull1 B g ps0 ps1 c0 c1 A n c _ (h.below hD) hf
  go_enter Try.func41, Try.ntmps41
  go_wp2_with (first | (go_at_call 71; refine (end_calls 1 _).mono ?_; rintro e w' ⟨rfl, rfl⟩) | (go_at_call 72; refine hP.mono ?_; rintro e w2 ⟨rfl, rfl⟩))
  go_ret2
  exact ⟨rfl, hD⟩
theorem set_all {l : Ps} {i : Nat} {u : Value} {x x' : List Int} (hap : l.Pairwise Ap) (hp : l[i]? = some (u, x)) :
    (l.set i (u, x')).Pairwise Ap ∧ ∀ p ∈ l.set i (u, x'), p = (u, x') ∨ (p ∈ l ∧ ∀ b, u.ownBlock = some b → p.1.ownBlock ≠ some b) := by
  have hi := (List.getElem?_eq_some_iff.1 hp).1
  have hpi := (List.getElem?_eq_some_iff.1 hp).2
  constructor
  · rw [List.pairwise_iff_getElem] at hap ⊢
    intro a b ha hb hab
    have h := hap a b (by simpa using ha) (by simpa using hb) hab
    rw [List.getElem_set, List.getElem_set]
    intro c h1 h2
    refine h c ?_ ?_
    · split at h1
      · rename_i e; subst e; rw [hpi]; exact h1
      · exact h1
    · split at h2
      · rename_i e; subst e; rw [hpi]; exact h2
      · exact h2
  · intro p hm
    obtain ⟨j, hj⟩ := List.mem_iff_getElem?.1 hm
    rw [List.getElem?_set] at hj
    split at hj
    · exact .inl (Option.some.inj hj).symm
    · rename_i hne
      refine .inr ⟨List.mem_of_getElem? hj, fun b h1 h2 => ?_⟩
      obtain ⟨hjl, hjp⟩ := List.getElem?_eq_some_iff.1 hj
      rw [List.pairwise_iff_getElem] at hap
      rcases Nat.lt_or_gt_of_ne hne with hlt | hlt
      · exact hap i j hi hjl hlt b (by rw [hpi]; exact h1) (by rw [hjp]; exact h2)
      · exact hap j i hjl hi hlt b (by rw [hjp]; exact h2) (by rw [hpi]; exact h1)
theorem map_set_same {ps : Ps} {i : Nat} {u : Value} {x x' : List Int} (hp : ps[i]? = some (u, x)) : ((ps.set i (u, x')).map fun p : Value × List Int => [p.1]) = ps.map fun p : Value × List Int => [p.1] := by
  apply List.ext_getElem?
  intro j
  rw [List.getElem?_map, List.getElem?_map, List.getElem?_set]
  split
  · rename_i e
    subst e
    rw [hp, if_pos (List.getElem?_eq_some_iff.1 hp).1]
    rfl
  · rfl
theorem Rr.far {W : World} {B b s : Nat} {v : Value} {ps : Ps} {cs : Array Value} (h : Rr W B v ps) (hb : W.heap[b]? = some (.cells cs 5 (0, 0))) (z : Value) : Rr (W.setCell ⟨b, s, none⟩ z) B v ps :=
  Kd.R_mono (Kd.R_far (ok := fun k => k ≠ b) (Kd.R_reok rfl h (fun k hk he => by
    subst he
    obtain ⟨_, _, c, hc⟩ := h.typed hk
    exact cells_ne hc hb (by decide) rfl)) (fun k hk => hk) z) (fun _ _ => trivial)
theorem Ow.far {W : World} {B b s : Nat} {p : Value × List Int} (h : Ow W B p) (hne : p.1.ownBlock ≠ some b) (z : Value) : Ow (W.setCell ⟨b, s, none⟩ z) B p :=
  Kd.R_mono (Kd.R_far (ok := fun k => k ≠ b) (Kd.R_reok rfl h (fun k hk he => hne (by rw [hk, he]))) (fun k hk => hk) z) (fun _ _ => trivial)
set_option maxHeartbeats 4000000 in
theorem Twice0 (B g : Nat) (ps0 ps1 : Ps) (c0 c1 : Int) (i : Nat) (u : Value) (x : List Int) (t y : Int) (AB : Option Addr) (nB cB : Nat) (w : World) (h : At w B g ps0 ps1 c0 c1) (hp : ps0[i]? = some (u, x)) (hm : x.length < 140737488355328) (hf : ps0.length < 64) :
    Calls Try.prog 41 #[.pointer (some ⟨g, 0, none⟩), .agg #[.int .i64 3, .int .i64 0, .int .i64 i, .int .i64 t, .int .u8 y, .slice AB nB cB]] w fun e w' => ∃ v, e = .returned (.tuple #[.slice none 0 0, .int .i64 0]) ∧ At w' B g (ps0 ++ [(v, x)]) ps1 c0 c1 ∧ Below B w w' ∧ Fr5 w w' := by
  obtain ⟨hB, v0, v1, hb, hr0, hr1, hne, how, hap⟩ := id h
  obtain ⟨A0, d0, rfl⟩ := hr0.slice
  obtain ⟨A1, d1, rfl⟩ := hr1.slice
  obtain ⟨⟨q0, q1, q2, q3⟩, z0, z1, z2, z3⟩ := reads_ hb
  obtain ⟨b, rfl, hcell⟩ := hr0.get hp
  have hi := (List.getElem?_eq_some_iff.1 hp).1
  have hmem : (u, x) ∈ ps0 ++ ps1 := by have := List.mem_of_getElem? hp; simp [this]
  have hux := how (u, x) hmem
  obtain ⟨Ap_, cp, hpv, hpc, hpC⟩ := hux.slice
  dsimp only at hpv hpc hpC hcell
  subst hpv
  have g1 : decide ((i : Int) < 0) = false := decide_eq_false (by omega)
  have g2 : decide ((ps0.length : Int) ≤ (i : Int)) = false := decide_eq_false (by omega)
  have g3 : ¬ ps0.length ≤ i := by omega
  have hpA := Aside0.mk hp
  clear hp
  have hD := below_alloc (Below.refl w.heap.size w) (.cells #[.int .i64 3, .int .i64 0, .int .i64 i, .int .i64 t, .int .u8 y, .slice AB nB cB] 52)
  have hcx := Below.cell hD (cell_lt hcell)
  rw [hcell] at hcx
  have hbx := blk_alloc hb (.cells #[.int .i64 3, .int .i64 0, .int .i64 i, .int .i64 t, .int .u8 y, .slice AB nB cB] 52)
  have hnx := blk_new w (.cells #[.int .i64 3, .int .i64 0, .int .i64 i, .int .i64 t, .int .u8 y, .slice AB nB cB] 52)
  obtain ⟨⟨q0x, q1x, q2x, q3x⟩, z0x, z1x, z2x, z3x⟩ := reads_ hbx
  have hP := fun m => Put0 B g ps0 ps1 c0 c1 Ap_ cp x _ (h.below (pw_below_drewN hD m)) (Kd.C_below hpC (pw_below_drewN hD m)) hpc hm hf
  have hBg := Nat.le_trans h.1 (Nat.le_of_lt h.lt)
  go_enter Try.func41, Try.ntmps41
  go_wp2_with (go_at_call 71; refine (end_calls 0 _).mono ?_; rintro e w' ⟨rfl, rfl⟩)
  go_quiet (fail)
  go_wp2_with (go_at_call 72; refine (hP _).mono ?_; rintro e w2 ⟨v, rfl, hA2, hb2, hf2⟩)
  go_ret2
  exact ⟨v, rfl, hA2, ((pw_below_drewN hD _).mono hBg).trans hb2, (Fr5.below (pw_below_drewN hD _)).trans hf2⟩
set_option maxHeartbeats 4000000 in
theorem TwiceFull0 (B g : Nat) (ps0 ps1 : Ps) (c0 c1 : Int) (i : Nat) (u : Value) (x : List Int) (t y : Int) (AB : Option Addr) (nB cB : Nat) (w : World) (h : At w B g ps0 ps1 c0 c1) (hp : ps0[i]? = some (u, x)) (hf : 64 ≤ ps0.length) :
    Calls Try.prog 41 #[.pointer (some ⟨g, 0, none⟩), .agg #[.int .i64 3, .int .i64 0, .int .i64 i, .int .i64 t, .int .u8 y, .slice AB nB cB]] w fun e w' => e = .returned (.tuple #[.slice none 0 0, .int .i64 9]) ∧ Below w.heap.size w w' := by
  obtain ⟨hB, v0, v1, hb, hr0, hr1, hne, how, hap⟩ := id h
  obtain ⟨A0, d0, rfl⟩ := hr0.slice
  obtain ⟨A1, d1, rfl⟩ := hr1.slice
  obtain ⟨⟨q0, q1, q2, q3⟩, z0, z1, z2, z3⟩ := reads_ hb
  obtain ⟨b, rfl, hcell⟩ := hr0.get hp
  have hi := (List.getElem?_eq_some_iff.1 hp).1
  have hmem : (u, x) ∈ ps0 ++ ps1 := by have := List.mem_of_getElem? hp; simp [this]
  have hux := how (u, x) hmem
  obtain ⟨Ap_, cp, hpv, hpc, hpC⟩ := hux.slice
  dsimp only at hpv hpc hpC hcell
  subst hpv
  have g1 : decide ((i : Int) < 0) = false := decide_eq_false (by omega)
  have g2 : decide ((ps0.length : Int) ≤ (i : Int)) = false := decide_eq_false (by omega)
  have g3 : ¬ ps0.length ≤ i := by omega
  have hpA := Aside0.mk hp
  clear hp
  have hD := below_alloc (Below.refl w.heap.size w) (.cells #[.int .i64 3, .int .i64 0, .int .i64 i, .int .i64 t, .int .u8 y, .slice AB nB cB] 52)
  have hcx := Below.cell hD (cell_lt hcell)
  rw [hcell] at hcx
  have hbx := blk_alloc hb (.cells #[.int .i64 3, .int .i64 0, .int .i64 i, .int .i64 t, .int .u8 y, .slice AB nB cB] 52)
  have hnx := blk_new w (.cells #[.int .i64 3, .int .i64 0, .int .i64 i, .int .i64 t, .int .u8 y, .slice AB nB cB] 52)
  obtain ⟨⟨q0x, q1x, q2x, q3x⟩, z0x, z1x, z2x, z3x⟩ := reads_ hbx
  have hP := fun m => PutFull0 B g ps0 ps1 c0 c1 Ap_ x.length cp _ (h.below (pw_below_drewN hD m)) hf
  go_enter Try.func41, Try.ntmps41
  go_wp2_with (go_at_call 71; refine (end_calls 0 _).mono ?_; rintro e w' ⟨rfl, rfl⟩)
  go_quiet (fail)
  go_wp2_with (go_at_call 72; refine (hP _).mono ?_; rintro e w2 ⟨rfl, rfl⟩)
  go_ret2
  exact ⟨rfl, pw_below_drewN hD _⟩
set_option maxHeartbeats 4000000 in
theorem SpoilNone0 (B g : Nat) (ps0 ps1 : Ps) (c0 c1 : Int) (i : Nat) (u : Value) (x : List Int) (t y : Int) (AB : Option Addr) (nB cB : Nat) (w : World) (h : At w B g ps0 ps1 c0 c1) (hp : ps0[i]? = some (u, x)) (hs : t < 0 ∨ (x.length : Int) ≤ t) :
    Calls Try.prog 41 #[.pointer (some ⟨g, 0, none⟩), .agg #[.int .i64 4, .int .i64 0, .int .i64 i, .int .i64 t, .int .u8 y, .slice AB nB cB]] w fun e w' => e = .returned (.tuple #[.slice none 0 0, .int .i64 5]) ∧ Below w.heap.size w w' := by
  obtain ⟨hB, v0, v1, hb, hr0, hr1, hne, how, hap⟩ := id h
  obtain ⟨A0, d0, rfl⟩ := hr0.slice
  obtain ⟨A1, d1, rfl⟩ := hr1.slice
  obtain ⟨⟨q0, q1, q2, q3⟩, z0, z1, z2, z3⟩ := reads_ hb
  obtain ⟨b, rfl, hcell⟩ := hr0.get hp
  have hi := (List.getElem?_eq_some_iff.1 hp).1
  have hmem : (u, x) ∈ ps0 ++ ps1 := by have := List.mem_of_getElem? hp; simp [this]
  have hux := how (u, x) hmem
  obtain ⟨Ap_, cp, hpv, hpc, hpC⟩ := hux.slice
  dsimp only at hpv hpc hpC hcell
  subst hpv
  have g1 : decide ((i : Int) < 0) = false := decide_eq_false (by omega)
  have g2 : decide ((ps0.length : Int) ≤ (i : Int)) = false := decide_eq_false (by omega)
  have g3 : ¬ ps0.length ≤ i := by omega
  have hpA := Aside0.mk hp
  clear hp
  have hD := below_alloc (Below.refl w.heap.size w) (.cells #[.int .i64 4, .int .i64 0, .int .i64 i, .int .i64 t, .int .u8 y, .slice AB nB cB] 52)
  have hcx := Below.cell hD (cell_lt hcell)
  rw [hcell] at hcx
  have hbx := blk_alloc hb (.cells #[.int .i64 4, .int .i64 0, .int .i64 i, .int .i64 t, .int .u8 y, .slice AB nB cB] 52)
  have hnx := blk_new w (.cells #[.int .i64 4, .int .i64 0, .int .i64 i, .int .i64 t, .int .u8 y, .slice AB nB cB] 52)
  obtain ⟨⟨q0x, q1x, q2x, q3x⟩, z0x, z1x, z2x, z3x⟩ := reads_ hbx
  by_cases h1 : t < 0
  · have s1 : decide (t < 0) = true := decide_eq_true h1
    go_enter Try.func41, Try.ntmps41
    go_wp2_with (go_at_call 71; refine (end_calls 0 _).mono ?_; rintro e w' ⟨rfl, rfl⟩)
    go_quiet (fail)
    go_wp2_with (fail)
    go_ret2
    exact ⟨rfl, pw_below_drewN hD _⟩
  · have s1 : decide (t < 0) = false := decide_eq_false h1
    have s2 : decide ((x.length : Int) ≤ t) = true := decide_eq_true (hs.resolve_left h1)
    go_enter Try.func41, Try.ntmps41
    go_wp2_with (go_at_call 71; refine (end_calls 0 _).mono ?_; rintro e w' ⟨rfl, rfl⟩)
    go_quiet (fail)
    go_wp2_with (fail)
    go_ret2
    exact ⟨rfl, pw_below_drewN hD _⟩
set_option maxHeartbeats 4000000 in
set_option maxRecDepth 100000 in
theorem Spoil0 (B g : Nat) (ps0 ps1 : Ps) (c0 c1 : Int) (i s : Nat) (u : Value) (x : List Int) (y : Int) (AB : Option Addr) (nB cB : Nat) (w : World) (h : At w B g ps0 ps1 c0 c1) (hp : ps0[i]? = some (u, x)) (hs : s < x.length) :
    Calls Try.prog 41 #[.pointer (some ⟨g, 0, none⟩), .agg #[.int .i64 4, .int .i64 0, .int .i64 i, .int .i64 s, .int .u8 y, .slice AB nB cB]] w fun e w' => e = .returned (.tuple #[.slice none 0 0, .int .i64 0]) ∧ At w' B g (ps0.set i (u, x.set s (Go.bits .xor .u8 (rd x (s : Int)) y))) ps1 c0 c1 ∧ Below B w w' ∧ Fr6 w w' := by
  obtain ⟨hB, v0, v1, hb, hr0, hr1, hne, how, hap⟩ := id h
  obtain ⟨A0, d0, rfl⟩ := hr0.slice
  obtain ⟨A1, d1, rfl⟩ := hr1.slice
  obtain ⟨⟨q0, q1, q2, q3⟩, z0, z1, z2, z3⟩ := reads_ hb
  obtain ⟨b, rfl, hcell⟩ := hr0.get hp
  have hi := (List.getElem?_eq_some_iff.1 hp).1
  have hmem : (u, x) ∈ ps0 ++ ps1 := by have := List.mem_of_getElem? hp; simp [this]
  have hux := how (u, x) hmem
  obtain ⟨Ap_, cp, hpv, hpc, hpC⟩ := hux.slice
  dsimp only at hpv hpc hpC hcell
  subst hpv
  have g1 : decide ((i : Int) < 0) = false := decide_eq_false (by omega)
  have g2 : decide ((ps0.length : Int) ≤ (i : Int)) = false := decide_eq_false (by omega)
  have g3 : ¬ ps0.length ≤ i := by omega
  have hpA := Aside0.mk hp
  clear hp
  have hD := below_alloc (Below.refl w.heap.size w) (.cells #[.int .i64 4, .int .i64 0, .int .i64 i, .int .i64 s, .int .u8 y, .slice AB nB cB] 52)
  have hcx := Below.cell hD (cell_lt hcell)
  rw [hcell] at hcx
  have hbx := blk_alloc hb (.cells #[.int .i64 4, .int .i64 0, .int .i64 i, .int .i64 s, .int .u8 y, .slice AB nB cB] 52)
  have hnx := blk_new w (.cells #[.int .i64 4, .int .i64 0, .int .i64 i, .int .i64 s, .int .u8 y, .slice AB nB cB] 52)
  obtain ⟨⟨q0x, q1x, q2x, q3x⟩, z0x, z1x, z2x, z3x⟩ := reads_ hbx
  have s1 : decide ((s : Int) < 0) = false := decide_eq_false (by omega)
  have s2 : decide ((x.length : Int) ≤ (s : Int)) = false := decide_eq_false (by omega)
  have s3 : ¬ x.length ≤ s := by omega
  obtain ⟨bp, rfl⟩ : ∃ bp, Ap_ = some ⟨bp, 0, none⟩ := by
    obtain ⟨ad, e, _⟩ := hpC.2.2 (by omega)
    subst e
    obtain ⟨bp, rfl⟩ := Kd.R_head hux
    exact ⟨bp, rfl⟩
  have hcs : w.cell? ⟨bp, s, none⟩ = some (.int .u8 (rd x (s : Int))) := by
    have := Kd.foot_int hpC (s : Int) (by omega) (by omega)
    rw [Int.toNat_natCast, add_at, Nat.zero_add] at this
    exact this
  have hfs : w.frozen? ⟨bp, s, none⟩ = false := by
    obtain ⟨_, _, cs, hcs⟩ := hux.typed (b := bp) rfl
    simp [World.frozen?, hcs]
  generalize hxs : rd x (s : Int) = xs at hcs
  go_enter Try.func41, Try.ntmps41
  go_wp2_with (go_at_call 71; refine (end_calls 0 _).mono ?_; rintro e w' ⟨rfl, rfl⟩)
  go_quiet (fail)
  go_wp2_with (fail)
  generalize hq : World.drewN (w.alloc (.cells #[.int .i64 4, .int .i64 0, .int .i64 i, .int .i64 s, .int .u8 y, .slice AB nB cB] 52)) _ = wq
  have hDq : Below w.heap.size w wq := hq ▸ pw_below_drewN (below_alloc (Below.refl _ _) _) _
  have hxq : wq.heap[w.heap.size]? = some (.cells #[.int .i64 4, .int .i64 0, .int .i64 i, .int .i64 s, .int .u8 y, .slice AB nB cB] 52) := hq ▸ hnx
  clear hq hcx hbx hnx q0x q1x q2x q3x z0x z1x z2x z3x
  have hglt := blk_lt hb
  have hDd : Below w.heap.size w wq.drew := below_drew hDq
  have hbd := (hDd.block g hglt).trans hb
  have hxd : wq.drew.heap[w.heap.size]? = some (.cells #[.int .i64 4, .int .i64 0, .int .i64 i, .int .i64 s, .int .u8 y, .slice AB nB cB] 52) := hxq
  have hr0d := hr0.below hDd
  have hr1d := hr1.below hDd
  have howd := fun p hp => (how p hp).below hDd
  have hcd := (Below.cell hDd (cell_lt hcs)).trans hcs
  have hfd := (Below.frozen hDd (cell_lt hcs)).trans hfs
  have hBd : B ≤ wq.drew.heap.size := Nat.le_trans (Nat.le_trans hB (Nat.le_of_lt hglt)) hDd.size
  have hF5 := Fr5.below hDd
  have hglt' : g < w.heap.size := hglt
  have hblt : bp < w.heap.size := cell_lt hcs
  generalize w.heap.size = gx at *
  refine start_ (n := 10) (S := fun w' => w'.cell? ⟨gx, 3, none⟩ = some (.int .i64 (s : Int)) ∧ w'.cell? ⟨gx, 4, none⟩ = some (.int .u8 y) ∧ w'.cell? ⟨bp, s, none⟩ = some (.int .u8 xs)) (ds := [9]) #[false, false, false, false, false, false, false, false, false, false] (by kernel_rfl) rfl rfl ⟨(blk_cell hxd 3), (blk_cell hxd 4), hcd⟩ (fun hHeld => ?_)
  generalize wq.drew = wd at hbd hxd hr0d hr1d howd hBd hDd hF5 hcd hfd hHeld ⊢
  refine pure_ (i := 0) (N := some 66) (v := ?_) (a' := ?_) #[true, false, false, false, false, false, false, false, false, false] rfl rfl (by kernel_rfl) (fun _ _ _ h => h) (Or.inl ⟨by rfl, ?_⟩) ?_ ?_
  rotate_left
  · intro w'
    go_simp
    with_reducible rfl
  rotate_left
  · simp only [Act.put, List.setIfInBounds_toArray, List.set_cons_zero, List.set_cons_succ, i64_w, i32_w]
    rfl
  refine pure_ (i := 1) (N := some 67) (v := ?_) (a' := ?_) #[true, true, false, false, false, false, false, false, false, false] rfl rfl (by kernel_rfl) (fun _ _ _ h => h) (Or.inl ⟨by rfl, ?_⟩) ?_ ?_
  rotate_left
  · intro w'
    go_simp
    with_reducible rfl
  rotate_left
  · simp only [Act.put, List.setIfInBounds_toArray, List.set_cons_zero, List.set_cons_succ, i64_w, i32_w]
    rfl
  refine pure_ (i := 5) (N := some 71) (v := ?_) (a' := ?_) #[true, true, false, false, false, true, false, false, false, false] rfl rfl (by kernel_rfl) (fun _ _ _ h => h) (Or.inl ⟨by rfl, ?_⟩) ?_ ?_
  rotate_left
  · intro w'
    go_simp
    with_reducible rfl
  rotate_left
  · simp only [Act.put, List.setIfInBounds_toArray, List.set_cons_zero, List.set_cons_succ, i64_w, i32_w]
    rfl
  refine take_ (i := 2) (N := some 68) (v := ?_) (a' := ?_) #[true, true, true, false, false, true, false, false, false, false] rfl rfl (by kernel_rfl) (fun _ _ _ h => h) (Or.inl ⟨by rfl, ?_⟩) hHeld ?_ ?_
  rotate_left
  · rintro w' ⟨s0, s1, s2⟩
    go_simp
    with_reducible rfl
  rotate_left
  · simp only [Act.put, List.setIfInBounds_toArray, List.set_cons_zero, List.set_cons_succ, i64_w, i32_w]
    rfl
  refine pure_ (i := 3) (N := some 69) (v := ?_) (a' := ?_) #[true, true, true, true, false, true, false, false, false, false] rfl rfl (by kernel_rfl) (fun _ _ _ h => h) (Or.inl ⟨by rfl, ?_⟩) ?_ ?_
  rotate_left
  · intro w'
    go_simp
    with_reducible rfl
  rotate_left
  · simp only [Act.put, List.setIfInBounds_toArray, List.set_cons_zero, List.set_cons_succ, i64_w, i32_w]
    rfl
  refine take_ (i := 4) (N := some 70) (v := ?_) (a' := ?_) #[true, true, true, true, true, true, false, false, false, false] rfl rfl (by kernel_rfl) (fun _ _ _ h => h) (Or.inl ⟨by rfl, ?_⟩) hHeld ?_ ?_
  rotate_left
  · rintro w' ⟨s0, s1, s2⟩
    go_simp
    with_reducible rfl
  rotate_left
  · simp only [Act.put, List.setIfInBounds_toArray, List.set_cons_zero, List.set_cons_succ, i64_w, i32_w]
    rfl
  refine take_ (i := 6) (N := some 72) (v := ?_) (a' := ?_) #[true, true, true, true, true, true, true, false, false, false] rfl rfl (by kernel_rfl) (fun _ _ _ h => h) (Or.inl ⟨by rfl, ?_⟩) hHeld ?_ ?_
  rotate_left
  · rintro w' ⟨s0, s1, s2⟩
    go_simp
    with_reducible rfl
  rotate_left
  · simp only [Act.put, List.setIfInBounds_toArray, List.set_cons_zero, List.set_cons_succ, i64_w, i32_w]
    rfl
  refine pure_ (i := 7) (N := some 73) (v := ?_) (a' := ?_) #[true, true, true, true, true, true, true, true, false, false] rfl rfl (by kernel_rfl) (fun _ _ _ h => h) (Or.inl ⟨by rfl, ?_⟩) ?_ ?_
  rotate_left
  · intro w'
    go_simp
    with_reducible rfl
  rotate_left
  · simp only [Act.put, List.setIfInBounds_toArray, List.set_cons_zero, List.set_cons_succ, i64_w, i32_w]
    rfl
  refine pure_ (i := 8) (N := some 74) (v := ?_) (a' := ?_) #[true, true, true, true, true, true, true, true, true, false] rfl rfl (by kernel_rfl) (fun _ _ _ h => h) (Or.inl ⟨by rfl, ?_⟩) ?_ ?_
  rotate_left
  · intro w'
    go_simp
    with_reducible rfl
  rotate_left
  · simp only [Act.put, List.setIfInBounds_toArray, List.set_cons_zero, List.set_cons_succ, i64_w, i32_w]
    rfl
  refine last_ (i := 9) (N := none) #[true, true, true, true, true, true, true, true, true, true] rfl rfl (by kernel_rfl) (by decide) (fun K hK => ?_)
  refine skip_ (w1 := ?_) (by rfl) rfl ?_ ?_
  rotate_left
  · go_simp
    rfl
  refine hK.out _ _ ?_
  clear hK K
  refine done_ (by kernel_rfl) ?_

  go_wp2_with (fail)
  go_ret2
  subst hxs
  obtain ⟨_, _, cs, hcs5⟩ := (howd _ hmem).typed (b := bp) rfl
  have hgb : g ≠ bp := cells_ne hbd hcs5 (by decide)
  have hb4 := (Below.heap_setCell wd ⟨bp, s, none⟩ (.int .u8 (Go.bits .xor .u8 (rd x (s : Int)) y)) g hgb).trans hbd
  have hu4 : Ow (wd.setCell ⟨bp, s, none⟩ (.int .u8 (Go.bits .xor .u8 (rd x (s : Int)) y))) B (.slice (some ⟨bp, 0, none⟩) x.length cp, x.set s (Go.bits .xor .u8 (rd x (s : Int)) y)) := (Kd.R_put (howd _ hmem) (s : Int) (Go.bits .xor .u8 (rd x (s : Int)) y)).1
  have hle : (ps0 ++ ps1)[i]? = some (.slice (some ⟨bp, 0, none⟩) x.length cp, x) := by rw [List.getElem?_append_left hi]; exact hpA.out
  obtain ⟨sa1, sa2⟩ := set_all (x' := x.set s (Go.bits .xor .u8 (rd x (s : Int)) y)) hap hle
  have hset : (ps0 ++ ps1).set i (Value.slice (some ⟨bp, 0, none⟩) x.length cp, x.set s (Go.bits .xor .u8 (rd x (s : Int)) y)) = ps0.set i (Value.slice (some ⟨bp, 0, none⟩) x.length cp, x.set s (Go.bits .xor .u8 (rd x (s : Int)) y)) ++ ps1 := List.set_append_left _ _ hi
  rw [hset] at sa1 sa2
  have hBp := ((howd _ hmem).typed (b := bp) rfl).2.1
  refine ⟨rfl, ⟨hB, _, _, hb4, by unfold Rr; rw [map_set_same hpA.out]; exact hr0d.far hcs5 _, hr1d.far hcs5 _, hne, fun p hp => ?_, sa1⟩, ((hDd.mono (Nat.le_trans hB (Nat.le_of_lt hglt'))).setCell hBp _), hF5.six.trans (Fr6.set hcs5 _)⟩
  rcases sa2 p hp with rfl | ⟨hm, hnp⟩
  · exact hu4
  · exact (howd p hm).far (hnp bp rfl) _
set_option maxHeartbeats 4000000 in
theorem Twice1 (B g : Nat) (ps0 ps1 : Ps) (c0 c1 : Int) (i : Nat) (u : Value) (x : List Int) (t y : Int) (AB : Option Addr) (nB cB : Nat) (w : World) (h : At w B g ps0 ps1 c0 c1) (hp : ps1[i]? = some (u, x)) (hm : x.length < 140737488355328) (hf : ps1.length < 64) :
    Calls Try.prog 41 #[.pointer (some ⟨g, 0, none⟩), .agg #[.int .i64 3, .int .i64 1, .int .i64 i, .int .i64 t, .int .u8 y, .slice AB nB cB]] w fun e w' => ∃ v, e = .returned (.tuple #[.slice none 0 0, .int .i64 0]) ∧ At w' B g ps0 (ps1 ++ [(v, x)]) c0 c1 ∧ Below B w w' ∧ Fr5 w w' := by
  obtain ⟨hB, v0, v1, hb, hr0, hr1, hne, how, hap⟩ := id h
  obtain ⟨A0, d0, rfl⟩ := hr0.slice
  obtain ⟨A1, d1, rfl⟩ := hr1.slice
  obtain ⟨⟨q0, q1, q2, q3⟩, z0, z1, z2, z3⟩ := reads_ hb
  obtain ⟨b, rfl, hcell⟩ := hr1.get hp
  have hi := (List.getElem?_eq_some_iff.1 hp).1
  have hmem : (u, x) ∈ ps0 ++ ps1 := by have := List.mem_of_getElem? hp; simp [this]
  have hux := how (u, x) hmem
  obtain ⟨Ap_, cp, hpv, hpc, hpC⟩ := hux.slice
  dsimp only at hpv hpc hpC hcell
  subst hpv
  have g1 : decide ((i : Int) < 0) = false := decide_eq_false (by omega)
  have g2 : decide ((ps1.length : Int) ≤ (i : Int)) = false := decide_eq_false (by omega)
  have g3 : ¬ ps1.length ≤ i := by omega
  have hpA := Aside0.mk hp
  clear hp
  have hD := below_alloc (Below.refl w.heap.size w) (.cells #[.int .i64 3, .int .i64 1, .int .i64 i, .int .i64 t, .int .u8 y, .slice AB nB cB] 52)
  have hcx := Below.cell hD (cell_lt hcell)
  rw [hcell] at hcx
  have hbx := blk_alloc hb (.cells #[.int .i64 3, .int .i64 1, .int .i64 i, .int .i64 t, .int .u8 y, .slice AB nB cB] 52)
  have hnx := blk_new w (.cells #[.int .i64 3, .int .i64 1, .int .i64 i, .int .i64 t, .int .u8 y, .slice AB nB cB] 52)
  obtain ⟨⟨q0x, q1x, q2x, q3x⟩, z0x, z1x, z2x, z3x⟩ := reads_ hbx
  have hP := fun m => Put1 B g ps0 ps1 c0 c1 Ap_ cp x _ (h.below (pw_below_drewN hD m)) (Kd.C_below hpC (pw_below_drewN hD m)) hpc hm hf
  have hBg := Nat.le_trans h.1 (Nat.le_of_lt h.lt)
  go_enter Try.func41, Try.ntmps41
  go_wp2_with (go_at_call 71; refine (end_calls 1 _).mono ?_; rintro e w' ⟨rfl, rfl⟩)
  go_quiet (fail)
  go_wp2_with (go_at_call 72; refine (hP _).mono ?_; rintro e w2 ⟨v, rfl, hA2, hb2, hf2⟩)
  go_ret2
  exact ⟨v, rfl, hA2, ((pw_below_drewN hD _).mono hBg).trans hb2, (Fr5.below (pw_below_drewN hD _)).trans hf2⟩
set_option maxHeartbeats 4000000 in
theorem TwiceFull1 (B g : Nat) (ps0 ps1 : Ps) (c0 c1 : Int) (i : Nat) (u : Value) (x : List Int) (t y : Int) (AB : Option Addr) (nB cB : Nat) (w : World) (h : At w B g ps0 ps1 c0 c1) (hp : ps1[i]? = some (u, x)) (hf : 64 ≤ ps1.length) :
    Calls Try.prog 41 #[.pointer (some ⟨g, 0, none⟩), .agg #[.int .i64 3, .int .i64 1, .int .i64 i, .int .i64 t, .int .u8 y, .slice AB nB cB]] w fun e w' => e = .returned (.tuple #[.slice none 0 0, .int .i64 9]) ∧ Below w.heap.size w w' := by
  obtain ⟨hB, v0, v1, hb, hr0, hr1, hne, how, hap⟩ := id h
  obtain ⟨A0, d0, rfl⟩ := hr0.slice
  obtain ⟨A1, d1, rfl⟩ := hr1.slice
  obtain ⟨⟨q0, q1, q2, q3⟩, z0, z1, z2, z3⟩ := reads_ hb
  obtain ⟨b, rfl, hcell⟩ := hr1.get hp
  have hi := (List.getElem?_eq_some_iff.1 hp).1
  have hmem : (u, x) ∈ ps0 ++ ps1 := by have := List.mem_of_getElem? hp; simp [this]
  have hux := how (u, x) hmem
  obtain ⟨Ap_, cp, hpv, hpc, hpC⟩ := hux.slice
  dsimp only at hpv hpc hpC hcell
  subst hpv
  have g1 : decide ((i : Int) < 0) = false := decide_eq_false (by omega)
  have g2 : decide ((ps1.length : Int) ≤ (i : Int)) = false := decide_eq_false (by omega)
  have g3 : ¬ ps1.length ≤ i := by omega
  have hpA := Aside0.mk hp
  clear hp
  have hD := below_alloc (Below.refl w.heap.size w) (.cells #[.int .i64 3, .int .i64 1, .int .i64 i, .int .i64 t, .int .u8 y, .slice AB nB cB] 52)
  have hcx := Below.cell hD (cell_lt hcell)
  rw [hcell] at hcx
  have hbx := blk_alloc hb (.cells #[.int .i64 3, .int .i64 1, .int .i64 i, .int .i64 t, .int .u8 y, .slice AB nB cB] 52)
  have hnx := blk_new w (.cells #[.int .i64 3, .int .i64 1, .int .i64 i, .int .i64 t, .int .u8 y, .slice AB nB cB] 52)
  obtain ⟨⟨q0x, q1x, q2x, q3x⟩, z0x, z1x, z2x, z3x⟩ := reads_ hbx
  have hP := fun m => PutFull1 B g ps0 ps1 c0 c1 Ap_ x.length cp _ (h.below (pw_below_drewN hD m)) hf
  go_enter Try.func41, Try.ntmps41
  go_wp2_with (go_at_call 71; refine (end_calls 1 _).mono ?_; rintro e w' ⟨rfl, rfl⟩)
  go_quiet (fail)
  go_wp2_with (go_at_call 72; refine (hP _).mono ?_; rintro e w2 ⟨rfl, rfl⟩)
  go_ret2
  exact ⟨rfl, pw_below_drewN hD _⟩
set_option maxHeartbeats 4000000 in
theorem SpoilNone1 (B g : Nat) (ps0 ps1 : Ps) (c0 c1 : Int) (i : Nat) (u : Value) (x : List Int) (t y : Int) (AB : Option Addr) (nB cB : Nat) (w : World) (h : At w B g ps0 ps1 c0 c1) (hp : ps1[i]? = some (u, x)) (hs : t < 0 ∨ (x.length : Int) ≤ t) :
    Calls Try.prog 41 #[.pointer (some ⟨g, 0, none⟩), .agg #[.int .i64 4, .int .i64 1, .int .i64 i, .int .i64 t, .int .u8 y, .slice AB nB cB]] w fun e w' => e = .returned (.tuple #[.slice none 0 0, .int .i64 5]) ∧ Below w.heap.size w w' := by
  obtain ⟨hB, v0, v1, hb, hr0, hr1, hne, how, hap⟩ := id h
  obtain ⟨A0, d0, rfl⟩ := hr0.slice
  obtain ⟨A1, d1, rfl⟩ := hr1.slice
  obtain ⟨⟨q0, q1, q2, q3⟩, z0, z1, z2, z3⟩ := reads_ hb
  obtain ⟨b, rfl, hcell⟩ := hr1.get hp
  have hi := (List.getElem?_eq_some_iff.1 hp).1
  have hmem : (u, x) ∈ ps0 ++ ps1 := by have := List.mem_of_getElem? hp; simp [this]
  have hux := how (u, x) hmem
  obtain ⟨Ap_, cp, hpv, hpc, hpC⟩ := hux.slice
  dsimp only at hpv hpc hpC hcell
  subst hpv
  have g1 : decide ((i : Int) < 0) = false := decide_eq_false (by omega)
  have g2 : decide ((ps1.length : Int) ≤ (i : Int)) = false := decide_eq_false (by omega)
  have g3 : ¬ ps1.length ≤ i := by omega
  have hpA := Aside0.mk hp
  clear hp
  have hD := below_alloc (Below.refl w.heap.size w) (.cells #[.int .i64 4, .int .i64 1, .int .i64 i, .int .i64 t, .int .u8 y, .slice AB nB cB] 52)
  have hcx := Below.cell hD (cell_lt hcell)
  rw [hcell] at hcx
  have hbx := blk_alloc hb (.cells #[.int .i64 4, .int .i64 1, .int .i64 i, .int .i64 t, .int .u8 y, .slice AB nB cB] 52)
  have hnx := blk_new w (.cells #[.int .i64 4, .int .i64 1, .int .i64 i, .int .i64 t, .int .u8 y, .slice AB nB cB] 52)
  obtain ⟨⟨q0x, q1x, q2x, q3x⟩, z0x, z1x, z2x, z3x⟩ := reads_ hbx
  by_cases h1 : t < 0
  · have s1 : decide (t < 0) = true := decide_eq_true h1
    go_enter Try.func41, Try.ntmps41
    go_wp2_with (go_at_call 71; refine (end_calls 1 _).mono ?_; rintro e w' ⟨rfl, rfl⟩)
    go_quiet (fail)
    go_wp2_with (fail)
    go_ret2
    exact ⟨rfl, pw_below_drewN hD _⟩
  · have s1 : decide (t < 0) = false := decide_eq_false h1
    have s2 : decide ((x.length : Int) ≤ t) = true := decide_eq_true (hs.resolve_left h1)
    go_enter Try.func41, Try.ntmps41
    go_wp2_with (go_at_call 71; refine (end_calls 1 _).mono ?_; rintro e w' ⟨rfl, rfl⟩)
    go_quiet (fail)
    go_wp2_with (fail)
    go_ret2
    exact ⟨rfl, pw_below_drewN hD _⟩
set_option maxHeartbeats 4000000 in
set_option maxRecDepth 100000 in
theorem Spoil1 (B g : Nat) (ps0 ps1 : Ps) (c0 c1 : Int) (i s : Nat) (u : Value) (x : List Int) (y : Int) (AB : Option Addr) (nB cB : Nat) (w : World) (h : At w B g ps0 ps1 c0 c1) (hp : ps1[i]? = some (u, x)) (hs : s < x.length) :
    Calls Try.prog 41 #[.pointer (some ⟨g, 0, none⟩), .agg #[.int .i64 4, .int .i64 1, .int .i64 i, .int .i64 s, .int .u8 y, .slice AB nB cB]] w fun e w' => e = .returned (.tuple #[.slice none 0 0, .int .i64 0]) ∧ At w' B g ps0 (ps1.set i (u, x.set s (Go.bits .xor .u8 (rd x (s : Int)) y))) c0 c1 ∧ Below B w w' ∧ Fr6 w w' := by
  obtain ⟨hB, v0, v1, hb, hr0, hr1, hne, how, hap⟩ := id h
  obtain ⟨A0, d0, rfl⟩ := hr0.slice
  obtain ⟨A1, d1, rfl⟩ := hr1.slice
  obtain ⟨⟨q0, q1, q2, q3⟩, z0, z1, z2, z3⟩ := reads_ hb
  obtain ⟨b, rfl, hcell⟩ := hr1.get hp
  have hi := (List.getElem?_eq_some_iff.1 hp).1
  have hmem : (u, x) ∈ ps0 ++ ps1 := by have := List.mem_of_getElem? hp; simp [this]
  have hux := how (u, x) hmem
  obtain ⟨Ap_, cp, hpv, hpc, hpC⟩ := hux.slice
  dsimp only at hpv hpc hpC hcell
  subst hpv
  have g1 : decide ((i : Int) < 0) = false := decide_eq_false (by omega)
  have g2 : decide ((ps1.length : Int) ≤ (i : Int)) = false := decide_eq_false (by omega)
  have g3 : ¬ ps1.length ≤ i := by omega
  have hpA := Aside0.mk hp
  clear hp
  have hD := below_alloc (Below.refl w.heap.size w) (.cells #[.int .i64 4, .int .i64 1, .int .i64 i, .int .i64 s, .int .u8 y, .slice AB nB cB] 52)
  have hcx := Below.cell hD (cell_lt hcell)
  rw [hcell] at hcx
  have hbx := blk_alloc hb (.cells #[.int .i64 4, .int .i64 1, .int .i64 i, .int .i64 s, .int .u8 y, .slice AB nB cB] 52)
  have hnx := blk_new w (.cells #[.int .i64 4, .int .i64 1, .int .i64 i, .int .i64 s, .int .u8 y, .slice AB nB cB] 52)
  obtain ⟨⟨q0x, q1x, q2x, q3x⟩, z0x, z1x, z2x, z3x⟩ := reads_ hbx
  have s1 : decide ((s : Int) < 0) = false := decide_eq_false (by omega)
  have s2 : decide ((x.length : Int) ≤ (s : Int)) = false := decide_eq_false (by omega)
  have s3 : ¬ x.length ≤ s := by omega
  obtain ⟨bp, rfl⟩ : ∃ bp, Ap_ = some ⟨bp, 0, none⟩ := by
    obtain ⟨ad, e, _⟩ := hpC.2.2 (by omega)
    subst e
    obtain ⟨bp, rfl⟩ := Kd.R_head hux
    exact ⟨bp, rfl⟩
  have hcs : w.cell? ⟨bp, s, none⟩ = some (.int .u8 (rd x (s : Int))) := by
    have := Kd.foot_int hpC (s : Int) (by omega) (by omega)
    rw [Int.toNat_natCast, add_at, Nat.zero_add] at this
    exact this
  have hfs : w.frozen? ⟨bp, s, none⟩ = false := by
    obtain ⟨_, _, cs, hcs⟩ := hux.typed (b := bp) rfl
    simp [World.frozen?, hcs]
  generalize hxs : rd x (s : Int) = xs at hcs
  go_enter Try.func41, Try.ntmps41
  go_wp2_with (go_at_call 71; refine (end_calls 1 _).mono ?_; rintro e w' ⟨rfl, rfl⟩)
  go_quiet (fail)
  go_wp2_with (fail)
  generalize hq : World.drewN (w.alloc (.cells #[.int .i64 4, .int .i64 1, .int .i64 i, .int .i64 s, .int .u8 y, .slice AB nB cB] 52)) _ = wq
  have hDq : Below w.heap.size w wq := hq ▸ pw_below_drewN (below_alloc (Below.refl _ _) _) _
  have hxq : wq.heap[w.heap.size]? = some (.cells #[.int .i64 4, .int .i64 1, .int .i64 i, .int .i64 s, .int .u8 y, .slice AB nB cB] 52) := hq ▸ hnx
  clear hq hcx hbx hnx q0x q1x q2x q3x z0x z1x z2x z3x
  have hglt := blk_lt hb
  have hDd : Below w.heap.size w wq.drew := below_drew hDq
  have hbd := (hDd.block g hglt).trans hb
  have hxd : wq.drew.heap[w.heap.size]? = some (.cells #[.int .i64 4, .int .i64 1, .int .i64 i, .int .i64 s, .int .u8 y, .slice AB nB cB] 52) := hxq
  have hr0d := hr0.below hDd
  have hr1d := hr1.below hDd
  have howd := fun p hp => (how p hp).below hDd
  have hcd := (Below.cell hDd (cell_lt hcs)).trans hcs
  have hfd := (Below.frozen hDd (cell_lt hcs)).trans hfs
  have hBd : B ≤ wq.drew.heap.size := Nat.le_trans (Nat.le_trans hB (Nat.le_of_lt hglt)) hDd.size
  have hF5 := Fr5.below hDd
  have hglt' : g < w.heap.size := hglt
  have hblt : bp < w.heap.size := cell_lt hcs
  generalize w.heap.size = gx at *
  refine start_ (n := 10) (S := fun w' => w'.cell? ⟨gx, 3, none⟩ = some (.int .i64 (s : Int)) ∧ w'.cell? ⟨gx, 4, none⟩ = some (.int .u8 y) ∧ w'.cell? ⟨bp, s, none⟩ = some (.int .u8 xs)) (ds := [9]) #[false, false, false, false, false, false, false, false, false, false] (by kernel_rfl) rfl rfl ⟨(blk_cell hxd 3), (blk_cell hxd 4), hcd⟩ (fun hHeld => ?_)
  generalize wq.drew = wd at hbd hxd hr0d hr1d howd hBd hDd hF5 hcd hfd hHeld ⊢
  refine pure_ (i := 0) (N := some 66) (v := ?_) (a' := ?_) #[true, false, false, false, false, false, false, false, false, false] rfl rfl (by kernel_rfl) (fun _ _ _ h => h) (Or.inl ⟨by rfl, ?_⟩) ?_ ?_
  rotate_left
  · intro w'
    go_simp
    with_reducible rfl
  rotate_left
  · simp only [Act.put, List.setIfInBounds_toArray, List.set_cons_zero, List.set_cons_succ, i64_w, i32_w]
    rfl
  refine pure_ (i := 1) (N := some 67) (v := ?_) (a' := ?_) #[true, true, false, false, false, false, false, false, false, false] rfl rfl (by kernel_rfl) (fun _ _ _ h => h) (Or.inl ⟨by rfl, ?_⟩) ?_ ?_
  rotate_left
  · intro w'
    go_simp
    with_reducible rfl
  rotate_left
  · simp only [Act.put, List.setIfInBounds_toArray, List.set_cons_zero, List.set_cons_succ, i64_w, i32_w]
    rfl
  refine pure_ (i := 5) (N := some 71) (v := ?_) (a' := ?_) #[true, true, false, false, false, true, false, false, false, false] rfl rfl (by kernel_rfl) (fun _ _ _ h => h) (Or.inl ⟨by rfl, ?_⟩) ?_ ?_
  rotate_left
  · intro w'
    go_simp
    with_reducible rfl
  rotate_left
  · simp only [Act.put, List.setIfInBounds_toArray, List.set_cons_zero, List.set_cons_succ, i64_w, i32_w]
    rfl
  refine take_ (i := 2) (N := some 68) (v := ?_) (a' := ?_) #[true, true, true, false, false, true, false, false, false, false] rfl rfl (by kernel_rfl) (fun _ _ _ h => h) (Or.inl ⟨by rfl, ?_⟩) hHeld ?_ ?_
  rotate_left
  · rintro w' ⟨s0, s1, s2⟩
    go_simp
    with_reducible rfl
  rotate_left
  · simp only [Act.put, List.setIfInBounds_toArray, List.set_cons_zero, List.set_cons_succ, i64_w, i32_w]
    rfl
  refine pure_ (i := 3) (N := some 69) (v := ?_) (a' := ?_) #[true, true, true, true, false, true, false, false, false, false] rfl rfl (by kernel_rfl) (fun _ _ _ h => h) (Or.inl ⟨by rfl, ?_⟩) ?_ ?_
  rotate_left
  · intro w'
    go_simp
    with_reducible rfl
  rotate_left
  · simp only [Act.put, List.setIfInBounds_toArray, List.set_cons_zero, List.set_cons_succ, i64_w, i32_w]
    rfl
  refine take_ (i := 4) (N := some 70) (v := ?_) (a' := ?_) #[true, true, true, true, true, true, false, false, false, false] rfl rfl (by kernel_rfl) (fun _ _ _ h => h) (Or.inl ⟨by rfl, ?_⟩) hHeld ?_ ?_
  rotate_left
  · rintro w' ⟨s0, s1, s2⟩
    go_simp
    with_reducible rfl
  rotate_left
  · simp only [Act.put, List.setIfInBounds_toArray, List.set_cons_zero, List.set_cons_succ, i64_w, i32_w]
    rfl
  refine take_ (i := 6) (N := some 72) (v := ?_) (a' := ?_) #[true, true, true, true, true, true, true, false, false, false] rfl rfl (by kernel_rfl) (fun _ _ _ h => h) (Or.inl ⟨by rfl, ?_⟩) hHeld ?_ ?_
  rotate_left
  · rintro w' ⟨s0, s1, s2⟩
    go_simp
    with_reducible rfl
  rotate_left
  · simp only [Act.put, List.setIfInBounds_toArray, List.set_cons_zero, List.set_cons_succ, i64_w, i32_w]
    rfl
  refine pure_ (i := 7) (N := some 73) (v := ?_) (a' := ?_) #[true, true, true, true, true, true, true, true, false, false] rfl rfl (by kernel_rfl) (fun _ _ _ h => h) (Or.inl ⟨by rfl, ?_⟩) ?_ ?_
  rotate_left
  · intro w'
    go_simp
    with_reducible rfl
  rotate_left
  · simp only [Act.put, List.setIfInBounds_toArray, List.set_cons_zero, List.set_cons_succ, i64_w, i32_w]
    rfl
  refine pure_ (i := 8) (N := some 74) (v := ?_) (a' := ?_) #[true, true, true, true, true, true, true, true, true, false] rfl rfl (by kernel_rfl) (fun _ _ _ h => h) (Or.inl ⟨by rfl, ?_⟩) ?_ ?_
  rotate_left
  · intro w'
    go_simp
    with_reducible rfl
  rotate_left
  · simp only [Act.put, List.setIfInBounds_toArray, List.set_cons_zero, List.set_cons_succ, i64_w, i32_w]
    rfl
  refine last_ (i := 9) (N := none) #[true, true, true, true, true, true, true, true, true, true] rfl rfl (by kernel_rfl) (by decide) (fun K hK => ?_)
  refine skip_ (w1 := ?_) (by rfl) rfl ?_ ?_
  rotate_left
  · go_simp
    rfl
  refine hK.out _ _ ?_
  clear hK K
  refine done_ (by kernel_rfl) ?_

  go_wp2_with (fail)
  go_ret2
  subst hxs
  obtain ⟨_, _, cs, hcs5⟩ := (howd _ hmem).typed (b := bp) rfl
  have hgb : g ≠ bp := cells_ne hbd hcs5 (by decide)
  have hb4 := (Below.heap_setCell wd ⟨bp, s, none⟩ (.int .u8 (Go.bits .xor .u8 (rd x (s : Int)) y)) g hgb).trans hbd
  have hu4 : Ow (wd.setCell ⟨bp, s, none⟩ (.int .u8 (Go.bits .xor .u8 (rd x (s : Int)) y))) B (.slice (some ⟨bp, 0, none⟩) x.length cp, x.set s (Go.bits .xor .u8 (rd x (s : Int)) y)) := (Kd.R_put (howd _ hmem) (s : Int) (Go.bits .xor .u8 (rd x (s : Int)) y)).1
  have hle : (ps0 ++ ps1)[ps0.length + i]? = some (.slice (some ⟨bp, 0, none⟩) x.length cp, x) := by rw [List.getElem?_append_right (by omega), Nat.add_sub_cancel_left]; exact hpA.out
  obtain ⟨sa1, sa2⟩ := set_all (x' := x.set s (Go.bits .xor .u8 (rd x (s : Int)) y)) hap hle
  have hset : (ps0 ++ ps1).set (ps0.length + i) (Value.slice (some ⟨bp, 0, none⟩) x.length cp, x.set s (Go.bits .xor .u8 (rd x (s : Int)) y)) = ps0 ++ ps1.set i (Value.slice (some ⟨bp, 0, none⟩) x.length cp, x.set s (Go.bits .xor .u8 (rd x (s : Int)) y)) := by rw [List.set_append_right _ _ (by omega), Nat.add_sub_cancel_left]
  rw [hset] at sa1 sa2
  have hBp := ((howd _ hmem).typed (b := bp) rfl).2.1
  refine ⟨rfl, ⟨hB, _, _, hb4, hr0d.far hcs5 _, by unfold Rr; rw [map_set_same hpA.out]; exact hr1d.far hcs5 _, hne, fun p hp => ?_, sa1⟩, ((hDd.mono (Nat.le_trans hB (Nat.le_of_lt hglt'))).setCell hBp _), hF5.six.trans (Fr6.set hcs5 _)⟩
  rcases sa2 p hp with rfl | ⟨hm, hnp⟩
  · exact hu4
  · exact (howd p hm).far (hnp bp rfl) _
end Go.Proofs.Ytlaojndlelcdaaa.Nets
