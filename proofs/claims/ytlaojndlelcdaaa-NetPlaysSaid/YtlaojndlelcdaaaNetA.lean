/- The net of the program, walked: what each of its methods hands back, and how it leaves the net. No condition but what it is called with. -/
import Derived.Test.YtlaojndlelcdaaaPx0
import Derived.Test.YtlaojndlelcdaaaPx1
import Derived.Lib.SliceRun
namespace Go.Proofs.Ytlaojndlelcdaaa.Nets
set_option linter.unusedSimpArgs false
set_option linter.unusedVariables false
open Go.RowKit Go.Proofs.Ytlaojndlelcdaaa.P Go.Proofs.YtlaojndlelcdaaaW.PrintWords Go.Proofs.YtlaojndlelcdaaaW.PrintLast Go.Proofs.YtlaojndlelcdaaaW.PrintMore

/-- What waits: a value, and the bytes that it holds. -/
abbrev Ps := List (Value × List Int)
def Ap (p q : Value × List Int) : Prop := ∀ b, p.1.ownBlock = some b → q.1.ownBlock ≠ some b
def Ow (W : World) (B : Nat) (p : Value × List Int) : Prop := Kd.R (Kd.int .u8) 5 W B (fun _ => True) p.1 p.2
def Rr (W : World) (B : Nat) (v : Value) (ps : Ps) : Prop := (Kd.raw 1).R 24 W B (fun _ => True) v (ps.map fun p => [p.1])
/-- Block g holds a net: what waits for either end, and how many were sent. -/
def At (W : World) (B g : Nat) (ps0 ps1 : Ps) (c0 c1 : Int) : Prop :=
  B ≤ g ∧ ∃ v0 v1, W.heap[g]? = some (.cells #[v0, v1, .int .i64 c0, .int .i64 c1] 107 (0, 0)) ∧ Rr W B v0 ps0 ∧ Rr W B v1 ps1 ∧ (∀ b, v0.ownBlock = some b → v1.ownBlock ≠ some b) ∧ (∀ p ∈ ps0 ++ ps1, Ow W B p) ∧ (ps0 ++ ps1).Pairwise Ap
theorem At.lt {W : World} {B g : Nat} {ps0 ps1 : Ps} {c0 c1 : Int} (h : At W B g ps0 ps1 c0 c1) : g < W.heap.size := by
  obtain ⟨_, v0, v1, hb, _⟩ := h; exact blk_lt hb
theorem Ow.below {W W1 : World} {B : Nat} {p : Value × List Int} (h : Ow W B p) (hb : Below W.heap.size W W1) : Ow W1 B p := Kd.R_below h hb
theorem Rr.below {W W1 : World} {B : Nat} {v : Value} {ps : Ps} (h : Rr W B v ps) (hb : Below W.heap.size W W1) : Rr W1 B v ps := Kd.R_below h hb
theorem At.below {W W1 : World} {B g : Nat} {ps0 ps1 : Ps} {c0 c1 : Int} (h : At W B g ps0 ps1 c0 c1) (hb : Below W.heap.size W W1) : At W1 B g ps0 ps1 c0 c1 := by
  obtain ⟨hB, v0, v1, h1, h2, h3, h4, h5, h6⟩ := h
  exact ⟨hB, v0, v1, (hb.block g (blk_lt h1)).trans h1, h2.below hb, h3.below hb, h4, fun p hp => (h5 p hp).below hb, h6⟩
theorem New_calls (w : World) : Calls Try.prog 39 #[] w fun e w' => e = .returned (.pointer (some ⟨w.heap.size, 0, none⟩)) ∧ At w' w.heap.size w.heap.size [] [] 0 0 ∧ Below w.heap.size w w' := by
  go_enter Try.func39, Try.ntmps39
  go_wp2
  go_ret
  refine ⟨rfl, ⟨Nat.le_refl _, .slice none 0 0, .slice none 0 0, ?_, Kd.R_nil _ _ _ _ _, Kd.R_nil _ _ _ _ _, ?_, ?_, ?_⟩, ?_⟩
  · exact blk_new _ _
  · intro b hb; simp [Value.ownBlock] at hb
  · intro p hp; simp at hp
  · exact List.Pairwise.nil
  · exact below_alloc (Below.refl _ _) _
theorem end_calls (t : Int) (w : World) : Calls Try.prog 71 #[.int .i64 t] w fun e w' => e = .returned (.bool (decide (0 ≤ t) && decide (t < 2))) ∧ w' = w := by
  by_cases h0 : 0 ≤ t
  · have h0b : decide (0 ≤ t) = true := decide_eq_true h0
    by_cases h1 : t < 2
    · have h1b : decide (t < 2) = true := decide_eq_true h1
      go_enter Try.func71, Try.ntmps71
      go_wp2
      go_ret
      exact ⟨by simp [*], rfl⟩
    · have h1b : decide (t < 2) = false := decide_eq_false h1
      go_enter Try.func71, Try.ntmps71
      go_wp2
      go_ret
      exact ⟨by simp [*], rfl⟩
  · have h0b : decide (0 ≤ t) = false := decide_eq_false h0
    go_enter Try.func71, Try.ntmps71
    go_wp2
    go_ret
    exact ⟨by simp [*], rfl⟩
theorem Rr.len {W : World} {B n c : Nat} {A : Option Addr} {ps : Ps} (h : Rr W B (.slice A n c) ps) : n = ps.length := by
  have := (Kd.R_reads' h).1
  rwa [List.length_map] at this
theorem Rr.slice {W : World} {B : Nat} {v : Value} {ps : Ps} (h : Rr W B v ps) : ∃ A c, v = .slice A ps.length c := by
  obtain ⟨A, c, e, _, _⟩ := Kd.R_reads h
  rw [List.length_map] at e
  exact ⟨A, c, e⟩
theorem ap_insert {ps0 ps1 : Ps} {n : Value × List Int} (h : (ps0 ++ ps1).Pairwise Ap) (hn : ∀ p ∈ ps0 ++ ps1, Ap p n ∧ Ap n p) : ((ps0 ++ [n]) ++ ps1).Pairwise Ap ∧ (ps0 ++ (ps1 ++ [n])).Pairwise Ap := by
  rw [List.pairwise_append] at h
  obtain ⟨h0, h1, h2⟩ := h
  constructor
  · rw [List.pairwise_append, List.pairwise_append]
    refine ⟨⟨h0, List.pairwise_singleton _ _, fun a ha b hb => ?_⟩, h1, fun a ha b hb => ?_⟩
    · rw [List.mem_singleton.1 hb]
      exact (hn a (List.mem_append_left _ ha)).1
    · rcases List.mem_append.1 ha with ha | ha
      · exact h2 a ha b hb
      · rw [List.mem_singleton.1 ha]
        exact (hn b (List.mem_append_right _ hb)).2
  · rw [List.pairwise_append, List.pairwise_append]
    refine ⟨h0, ⟨h1, List.pairwise_singleton _ _, fun a ha b hb => ?_⟩, fun a ha b hb => ?_⟩
    · rw [List.mem_singleton.1 hb]
      exact (hn a (List.mem_append_right _ ha)).1
    · rcases List.mem_append.1 hb with hb | hb
      · exact h2 a ha b hb
      · rw [List.mem_singleton.1 hb]
        exact (hn a (List.mem_append_left _ ha)).1
theorem Rr.typed {W : World} {B : Nat} {v : Value} {ps : Ps} (h : Rr W B v ps) {b : Nat} (hb : v.ownBlock = some b) : b < W.heap.size ∧ B ≤ b ∧ ∃ cells, W.heap[b]? = some (.cells cells 24 (0, 0)) := by
  obtain ⟨h0, _⟩ := Kd.R_bound h
  obtain ⟨_, h1, h2, q, hq, hc⟩ := h0 b hb
  have : q = 24 := by simpa [Kd.raw] using hq
  subst this
  exact ⟨h2, h1, hc⟩
theorem Ow.typed {W : World} {B : Nat} {p : Value × List Int} (h : Ow W B p) {b : Nat} (hb : p.1.ownBlock = some b) : b < W.heap.size ∧ B ≤ b ∧ ∃ cells, W.heap[b]? = some (.cells cells 5 (0, 0)) := by
  obtain ⟨h0, _⟩ := Kd.R_bound h
  obtain ⟨_, h1, h2, q, hq, hc⟩ := h0 b hb
  have : q = 5 := by simpa [Kd.int, Kd.scalar] using hq
  subst this
  exact ⟨h2, h1, hc⟩
theorem cells_ne {W : World} {b b' t t' : Nat} {c c' : Array Value} (h : W.heap[b]? = some (.cells c t (0, 0))) (h' : W.heap[b']? = some (.cells c' t' (0, 0))) (ht : t ≠ t') : b ≠ b' := by
  rintro rfl
  rw [h] at h'
  injection h' with h'
  injection h' with _ h' _
  exact ht h'
theorem Ow.grown {W W1 : World} {B : Nat} {v : Value} {ps : Ps} {p : Value × List Int} (h : Ow W B p) (hr : Rr W B v ps) (hg : W.grownBy W1 v.ownBlock) : Ow W1 B p :=
  Kd.R_grown2 h rfl hg (fun b hb he => by
    obtain ⟨_, _, c, h1⟩ := hr.typed hb
    obtain ⟨_, _, c', h2⟩ := h.typed he.symm
    exact cells_ne h1 h2 (by decide) rfl)
theorem Rr.grown {W W1 : World} {B : Nat} {v v' : Value} {ps : Ps} (h : Rr W B v ps) (hg : W.grownBy W1 v'.ownBlock) (hne : ∀ b, v'.ownBlock = some b → v.ownBlock ≠ some b) : Rr W1 B v ps :=
  Kd.R_grown2 h rfl hg (fun b hb he => hne b hb he.symm)
theorem Rr.keep {W W1 : World} {B g : Nat} {v : Value} {ps : Ps} {cs : Array Value} (h : Rr W B v ps) (hb : W.heap[g]? = some (.cells cs 107 (0, 0))) (hk : KeepBut W W1 g none) : Rr W1 B v ps :=
  Kd.R_mono (Kd.R_keep (ok := fun k => True ∧ k ≠ g) (Kd.R_types h hb (by intro q hq; have : q = 24 := by simpa [Kd.raw] using hq
                                                                          subst this; decide)) hk (fun k hk => hk.2)) (fun _ _ => trivial)
theorem Ow.keep {W W1 : World} {B g : Nat} {p : Value × List Int} {cs : Array Value} (h : Ow W B p) (hb : W.heap[g]? = some (.cells cs 107 (0, 0))) (hk : KeepBut W W1 g none) : Ow W1 B p :=
  Kd.R_mono (Kd.R_keep (ok := fun k => True ∧ k ≠ g) (Kd.R_types h hb (by decide)) hk (fun k hk => hk.2)) (fun _ _ => trivial)
theorem reads_ {W : World} {g : Nat} {a0 a1 a2 a3 : Value} (hb : W.heap[g]? = some (.cells #[a0, a1, a2, a3] 107 (0, 0))) :
    (W.cell? ⟨g, 0, none⟩ = some a0 ∧ W.cell? ⟨g, 1, none⟩ = some a1 ∧ W.cell? ⟨g, 2, none⟩ = some a2 ∧ W.cell? ⟨g, 3, none⟩ = some a3) ∧
    (W.frozen? ⟨g, 0, none⟩ = false ∧ W.frozen? ⟨g, 1, none⟩ = false ∧ W.frozen? ⟨g, 2, none⟩ = false ∧ W.frozen? ⟨g, 3, none⟩ = false) := by
  refine ⟨⟨blk_cell hb 0, blk_cell hb 1, blk_cell hb 2, blk_cell hb 3⟩, ?_, ?_, ?_, ?_⟩ <;> simp [World.frozen?, hb]
/-- Nothing that was there has changed but rows of byte strings and nets. -/
def Fr5 (w w' : World) : Prop := ∀ (b : Nat) (cs : Array Value) (t : Nat), w.heap[b]? = some (.cells cs t (0, 0)) → t ≠ 24 → t ≠ 107 → w'.heap[b]? = w.heap[b]?
/-- .. nor bytes. -/
def Fr6 (w w' : World) : Prop := ∀ (b : Nat) (cs : Array Value) (t : Nat), w.heap[b]? = some (.cells cs t (0, 0)) → t ≠ 5 → t ≠ 24 → t ≠ 107 → w'.heap[b]? = w.heap[b]?
theorem Fr5.six {w w' : World} (h : Fr5 w w') : Fr6 w w' := fun b cs t hb _ h1 h2 => h b cs t hb h1 h2
theorem Fr5.below {w w' : World} (h : Below w.heap.size w w') : Fr5 w w' := fun b _ _ hb _ _ => h.block b (blk_lt hb)
theorem Fr5.trans {a b c : World} (h : Fr5 a b) (k : Fr5 b c) : Fr5 a c := fun j cs t hj h1 h2 => (k j cs t ((h j cs t hj h1 h2).trans hj) h1 h2).trans (h j cs t hj h1 h2)
theorem Fr6.trans {a b c : World} (h : Fr6 a b) (k : Fr6 b c) : Fr6 a c := fun j cs t hj h0 h1 h2 => (k j cs t ((h j cs t hj h0 h1 h2).trans hj) h0 h1 h2).trans (h j cs t hj h0 h1 h2)
theorem Fr5.grown {W W1 : World} {B : Nat} {v : Value} {ps : Ps} (hr : Rr W B v ps) (hg : W.grownBy W1 v.ownBlock) : Fr5 W W1 := fun b cs t hb h1 _ => hg.block b (blk_lt hb) (fun he => by
  obtain ⟨_, _, c, hc⟩ := hr.typed he.symm
  exact cells_ne hc hb (fun h => h1 h.symm) rfl)
theorem Fr5.set {W : World} {g j : Nat} {cs : Array Value} (hb : W.heap[g]? = some (.cells cs 107 (0, 0))) (u : Value) : Fr5 W (W.setCell ⟨g, j, none⟩ u) := fun b c t hc _ h2 => Below.heap_setCell W ⟨g, j, none⟩ u b (fun he => cells_ne hb hc (fun h => h2 h.symm) he.symm)
theorem Fr6.set {W : World} {g j : Nat} {cs : Array Value} (hb : W.heap[g]? = some (.cells cs 5 (0, 0))) (u : Value) : Fr6 W (W.setCell ⟨g, j, none⟩ u) := fun b c t hc h0 _ _ => Below.heap_setCell W ⟨g, j, none⟩ u b (fun he => cells_ne hb hc (fun h => h0 h.symm) he.symm)
theorem Ow.fr {W W1 : World} {B : Nat} {p : Value × List Int} (h : Ow W B p) (hf : Fr5 W W1) : Ow W1 B p :=
  Kd.R_mono (Kd.R_move (Kd.R_bound h) (fun k hk => by
    obtain ⟨_, _, _, q, hq, cells, hc⟩ := hk
    have : q = 5 := by simpa [Kd.int, Kd.scalar] using hq
    subst this
    exact hf k cells 5 hc (by decide) (by decide))) (fun _ _ => trivial)

theorem Waits0 (B g : Nat) (ps0 ps1 : Ps) (c0 c1 : Int) (w : World) (h : At w B g ps0 ps1 c0 c1) : Calls Try.prog 42 #[.pointer (some ⟨g, 0, none⟩), .int .i64 0] w fun e w' => e = .returned (.int .i64 ps0.length) ∧ w' = w := by
  obtain ⟨hB, v0, v1, hb, hr0, hr1, hne, how, hap⟩ := id h
  obtain ⟨A0, d0, rfl⟩ := hr0.slice
  obtain ⟨A1, d1, rfl⟩ := hr1.slice
  obtain ⟨⟨q0, q1, q2, q3⟩, z0, z1, z2, z3⟩ := reads_ hb
  go_enter Try.func42, Try.ntmps42
  go_wp2_with (go_at_call 71; refine (end_calls 0 w).mono ?_; rintro e w' ⟨rfl, rfl⟩)
  go_ret
  exact ⟨rfl, rfl⟩
theorem Count0 (B g : Nat) (ps0 ps1 : Ps) (c0 c1 : Int) (w : World) (h : At w B g ps0 ps1 c0 c1) : Calls Try.prog 47 #[.pointer (some ⟨g, 0, none⟩), .int .i64 0] w fun e w' => e = .returned (.int .i64 c0) ∧ w' = w := by
  obtain ⟨hB, v0, v1, hb, hr0, hr1, hne, how, hap⟩ := id h
  obtain ⟨A0, d0, rfl⟩ := hr0.slice
  obtain ⟨A1, d1, rfl⟩ := hr1.slice
  obtain ⟨⟨q0, q1, q2, q3⟩, z0, z1, z2, z3⟩ := reads_ hb
  go_enter Try.func47, Try.ntmps47
  go_wp2_with (go_at_call 71; refine (end_calls 0 w).mono ?_; rintro e w' ⟨rfl, rfl⟩)
  go_ret
  exact ⟨rfl, rfl⟩
theorem PutFull0 (B g : Nat) (ps0 ps1 : Ps) (c0 c1 : Int) (A : Option Addr) (n c : Nat) (w : World) (h : At w B g ps0 ps1 c0 c1) (hf : 64 ≤ ps0.length) : Calls Try.prog 72 #[.pointer (some ⟨g, 0, none⟩), .int .i64 0, .slice A n c] w fun e w' => e = .returned (.bool false) ∧ w' = w := by
  obtain ⟨hB, v0, v1, hb, hr0, hr1, hne, how, hap⟩ := id h
  obtain ⟨A0, d0, rfl⟩ := hr0.slice
  obtain ⟨A1, d1, rfl⟩ := hr1.slice
  obtain ⟨⟨q0, q1, q2, q3⟩, z0, z1, z2, z3⟩ := reads_ hb
  have h64 : decide ((64 : Int) ≤ (ps0.length : Int)) = true := decide_eq_true (by omega)
  go_enter Try.func72, Try.ntmps72
  go_wp2
  go_ret
  exact ⟨rfl, rfl⟩
set_option maxHeartbeats 4000000 in
set_option maxRecDepth 100000 in
theorem Put0 (B g : Nat) (ps0 ps1 : Ps) (c0 c1 : Int) (A : Option Addr) (c : Nat) (l0 : List Int) (w : World) (h : At w B g ps0 ps1 c0 c1) (hC : Kd.C (Kd.int .u8) w A l0.length l0) (hc : l0.length ≤ c) (hm : l0.length < 140737488355328) (hf : ps0.length < 64) :
    Calls Try.prog 72 #[.pointer (some ⟨g, 0, none⟩), .int .i64 0, .slice A l0.length c] w fun e w' => ∃ u, e = .returned (.bool true) ∧ At w' B g (ps0 ++ [(u, l0)]) ps1 c0 c1 ∧ Below B w w' ∧ Fr5 w w' := by
  obtain ⟨hB, v0, v1, hb, hr0, hr1, hne, how, hap⟩ := id h
  obtain ⟨A0, d0, rfl⟩ := hr0.slice
  obtain ⟨A1, d1, rfl⟩ := hr1.slice
  obtain ⟨⟨q0, q1, q2, q3⟩, z0, z1, z2, z3⟩ := reads_ hb
  have h64 : decide ((64 : Int) ≤ (ps0.length : Int)) = false := decide_eq_false (by omega)
  have hglt := blk_lt hb
  go_enter Try.func72, Try.ntmps72
  go_wp2_with (fail)
  have hbd := blk_drew hb
  have hDd : Below w.heap.size w w.drew := below_drew (Below.refl _ _)
  have hCd := Kd.C_below hC hDd
  have hr0d := hr0.below hDd
  have hr1d := hr1.below hDd
  have howd := fun p hp => (how p hp).below hDd
  have hBd : B ≤ w.drew.heap.size := Nat.le_trans (Nat.le_trans hB (Nat.le_of_lt hglt)) hDd.size
  refine start_ (n := 16) (S := fun w' => w'.cell? ⟨g, 0, none⟩ = some (.slice A0 ps0.length d0)) (ds := [15]) #[false, false, false, false, false, false, false, false, false, false, false, false, false, false, false, false] (by kernel_rfl) rfl rfl ((blk_cell hbd 0)) (fun hHeld => ?_)
  generalize w.drew = wd at hbd hCd hr0d hr1d howd hBd hHeld hDd ⊢
  refine pure_ (i := 0) (N := some 15) (v := ?_) (a' := ?_) #[true, false, false, false, false, false, false, false, false, false, false, false, false, false, false, false] rfl rfl (by kernel_rfl) (fun _ _ _ h => h) (Or.inl ⟨by rfl, ?_⟩) ?_ ?_
  rotate_left
  · intro w'
    go_simp
    with_reducible rfl
  rotate_left
  · simp only [Act.put, List.setIfInBounds_toArray, List.set_cons_zero, List.set_cons_succ, i64_w, i32_w]
    rfl
  refine pure_ (i := 1) (N := some 16) (v := ?_) (a' := ?_) #[true, true, false, false, false, false, false, false, false, false, false, false, false, false, false, false] rfl rfl (by kernel_rfl) (fun _ _ _ h => h) (Or.inl ⟨by rfl, ?_⟩) ?_ ?_
  rotate_left
  · intro w'
    go_simp
    with_reducible rfl
  rotate_left
  · simp only [Act.put, List.setIfInBounds_toArray, List.set_cons_zero, List.set_cons_succ, i64_w, i32_w]
    rfl
  refine pure_ (i := 2) (N := some 17) (v := ?_) (a' := ?_) #[true, true, true, false, false, false, false, false, false, false, false, false, false, false, false, false] rfl rfl (by kernel_rfl) (fun _ _ _ h => h) (Or.inl ⟨by rfl, ?_⟩) ?_ ?_
  rotate_left
  · intro w'
    go_simp
    with_reducible rfl
  rotate_left
  · simp only [Act.put, List.setIfInBounds_toArray, List.set_cons_zero, List.set_cons_succ, i64_w, i32_w]
    rfl
  refine pure_ (i := 3) (N := some 18) (v := ?_) (a' := ?_) #[true, true, true, true, false, false, false, false, false, false, false, false, false, false, false, false] rfl rfl (by kernel_rfl) (fun _ _ _ h => h) (Or.inl ⟨by rfl, ?_⟩) ?_ ?_
  rotate_left
  · intro w'
    go_simp
    with_reducible rfl
  rotate_left
  · simp only [Act.put, List.setIfInBounds_toArray, List.set_cons_zero, List.set_cons_succ, i64_w, i32_w]
    rfl
  refine pure_ (i := 4) (N := some 19) (v := ?_) (a' := ?_) #[true, true, true, true, true, false, false, false, false, false, false, false, false, false, false, false] rfl rfl (by kernel_rfl) (fun _ _ _ h => h) (Or.inl ⟨by rfl, ?_⟩) ?_ ?_
  rotate_left
  · intro w'
    go_simp
    with_reducible rfl
  rotate_left
  · simp only [Act.put, List.setIfInBounds_toArray, List.set_cons_zero, List.set_cons_succ, i64_w, i32_w]
    rfl
  refine pure_ (i := 5) (N := some 20) (v := ?_) (a' := ?_) #[true, true, true, true, true, true, false, false, false, false, false, false, false, false, false, false] rfl rfl (by kernel_rfl) (fun _ _ _ h => h) (Or.inl ⟨by rfl, ?_⟩) ?_ ?_
  rotate_left
  · intro w'
    go_simp
    with_reducible rfl
  rotate_left
  · simp only [Act.put, List.setIfInBounds_toArray, List.set_cons_zero, List.set_cons_succ, i64_w, i32_w]
    rfl
  refine pure_ (i := 6) (N := some 21) (v := ?_) (a' := ?_) #[true, true, true, true, true, true, true, false, false, false, false, false, false, false, false, false] rfl rfl (by kernel_rfl) (fun _ _ _ h => h) (Or.inl ⟨by rfl, ?_⟩) ?_ ?_
  rotate_left
  · intro w'
    go_simp
    with_reducible rfl
  rotate_left
  · simp only [Act.put, List.setIfInBounds_toArray, List.set_cons_zero, List.set_cons_succ, i64_w, i32_w]
    rfl
  refine pure_ (i := 8) (N := some 23) (v := ?_) (a' := ?_) #[true, true, true, true, true, true, true, false, true, false, false, false, false, false, false, false] rfl rfl (by kernel_rfl) (fun _ _ _ h => h) (Or.inl ⟨by rfl, ?_⟩) ?_ ?_
  rotate_left
  · intro w'
    go_simp
    with_reducible rfl
  rotate_left
  · simp only [Act.put, List.setIfInBounds_toArray, List.set_cons_zero, List.set_cons_succ, i64_w, i32_w]
    rfl
  refine pure_ (i := 12) (N := some 27) (v := ?_) (a' := ?_) #[true, true, true, true, true, true, true, false, true, false, false, false, true, false, false, false] rfl rfl (by kernel_rfl) (fun _ _ _ h => h) (Or.inl ⟨by rfl, ?_⟩) ?_ ?_
  rotate_left
  · intro w'
    go_simp
    with_reducible rfl
  rotate_left
  · simp only [Act.put, List.setIfInBounds_toArray, List.set_cons_zero, List.set_cons_succ, i64_w, i32_w]
    rfl
  refine pure_ (i := 13) (N := some 28) (v := ?_) (a' := ?_) #[true, true, true, true, true, true, true, false, true, false, false, false, true, true, false, false] rfl rfl (by kernel_rfl) (fun _ _ _ h => h) (Or.inl ⟨by rfl, ?_⟩) ?_ ?_
  rotate_left
  · intro w'
    go_simp
    with_reducible rfl
  rotate_left
  · simp only [Act.put, List.setIfInBounds_toArray, List.set_cons_zero, List.set_cons_succ, i64_w, i32_w]
    rfl
  refine take_ (i := 7) (N := some 22) (v := ?_) (a' := ?_) #[true, true, true, true, true, true, true, true, true, false, false, false, true, true, false, false] rfl rfl (by kernel_rfl) (fun _ _ _ h => h) (Or.inl ⟨by rfl, ?_⟩) hHeld ?_ ?_
  rotate_left
  · intro w' s0
    go_simp
    with_reducible rfl
  rotate_left
  · simp only [Act.put, List.setIfInBounds_toArray, List.set_cons_zero, List.set_cons_succ, i64_w, i32_w]
    rfl
  refine one_ (i := 9) (N := some 24) #[true, true, true, true, true, true, true, true, true, true, false, false, true, true, false, false] rfl rfl (by kernel_rfl) (by decide) (fun K hK => ?_)
  refine goes_ Try.func68 (by kernel_rfl) rfl #[.slice A l0.length c] (by rfl) rfl rfl (by simp only [List.map_toArray, List.map_cons, List.map_nil]; rfl) ?_
  with_reducible refine (bytes_Clone.calls A c l0 l0 wd hCd hc (by simp [bytes_Clone.f, hm])).mono ?_
  rintro e w3 ⟨v3, rfl, ho, hb3⟩
  obtain ⟨A3, c3, rfl, hc3, hC3⟩ := Kd.R_reads ho
  refine ⟨_, rfl, ?_⟩
  refine hK.out _ _ ((blk_cell (blk_below hbd hb3) 0)) (fun hHeld => ?_)
  clear hK K
  refine norm_ (a' := ?_) ?_ ?_
  rotate_left
  · show Act.put _ (some 24) _ = _
    simp only [Act.put, List.setIfInBounds_toArray, List.set_cons_zero, List.set_cons_succ, i64_w, i32_w]
    rfl
  refine one_ (i := 10) (N := some 25) #[true, true, true, true, true, true, true, true, true, true, true, false, true, true, false, false] rfl rfl (by kernel_rfl) (by decide) (fun K hK => ?_)
  refine value_ (w1 := ?_) (v := ?_) (by rfl) rfl ?_ ?_
  rotate_left 2
  · go_simp
    constructor
    · rfl
    · rfl
  refine hK.out _ _ ((blk_cell (blk_alloc (blk_below hbd hb3) _) 0)) (fun hHeld => ?_)
  clear hK K
  refine norm_ (a' := ?_) ?_ ?_
  rotate_left
  · show Act.put _ (some 25) _ = _
    simp only [Act.put, List.setIfInBounds_toArray, List.set_cons_zero, List.set_cons_succ, i64_w, i32_w]
    rfl
  refine one_ (i := 11) (N := some 26) #[true, true, true, true, true, true, true, true, true, true, true, true, true, true, false, false] rfl rfl (by kernel_rfl) (by decide) (fun K hK => ?_)
  have HB3 : Below B wd w3 := hb3.mono hBd
  refine Kd.R_append_step (Kd.raw 1) (w0 := wd) B (by rfl) (.tmp 22) (.tmp 25) 35 24 (.slice none 0 0) 24 rfl Try.underlying35 info24 rfl (by decide) (by omega) (.slice A0 ps0.length d0) (ps0.map fun p : Value × List Int => [p.1]) [.slice A3 l0.length c3] [.slice A3 l0.length c3] (fun _ => True) (fun _ => False) rfl rfl ⟨rfl, rfl, fun u hu => by rw [List.mem_singleton.1 hu]; rfl⟩ (fun _ hk => hk.elim) (fun _ _ => trivial) (Rr.below hr0d hb3) HB3 (Nat.le_trans hBd hb3.size) (by rw [List.length_map]; omega) ?_
  intro v4 w4 hr4 hb4 hg4 hat4
  obtain ⟨A4, n4, c4, rfl⟩ : ∃ A n c, v4 = .slice A n c := by obtain ⟨A, c, e, _, _⟩ := Kd.R_reads hr4; exact ⟨_, _, _, e⟩
  have hbg3 := blk_below hbd hb3
  have hgne : some g ≠ (Value.slice A0 ps0.length d0).ownBlock := fun he => by obtain ⟨_, _, cs, hcs⟩ := (Rr.below hr0d hb3).typed he.symm; exact cells_ne hcs hbg3 (by decide) rfl
  have hbg4 := (hg4.block g (blk_lt hbg3) hgne).trans hbg3
  obtain ⟨⟨y0, y1, y2, y3⟩, x0, x1, x2, x3⟩ := reads_ hbg4
  refine hK.out _ _ (y0) (fun hHeld => ?_)
  clear hK K
  refine norm_ (a' := ?_) ?_ ?_
  rotate_left
  · show Act.put _ (some 26) _ = _
    simp only [Act.put, List.setIfInBounds_toArray, List.set_cons_zero, List.set_cons_succ, i64_w, i32_w]
    rfl
  refine pure_ (i := 14) (N := some 29) (v := ?_) (a' := ?_) #[true, true, true, true, true, true, true, true, true, true, true, true, true, true, true, false] rfl rfl (by kernel_rfl) (fun _ _ _ h => h) (Or.inl ⟨by rfl, ?_⟩) ?_ ?_
  rotate_left
  · intro w'
    go_simp
    with_reducible rfl
  rotate_left
  · simp only [Act.put, List.setIfInBounds_toArray, List.set_cons_zero, List.set_cons_succ, i64_w, i32_w]
    rfl
  refine last_ (i := 15) (N := none) #[true, true, true, true, true, true, true, true, true, true, true, true, true, true, true, true] rfl rfl (by kernel_rfl) (by decide) (fun K hK => ?_)
  refine skip_ (w1 := ?_) (by rfl) rfl ?_ ?_
  rotate_left
  · go_simp
    rfl
  refine hK.out _ _ ?_
  clear hK K
  refine done_ (by kernel_rfl) ?_

  go_wp2_with (fail)
  go_ret
  have hK : KeepBut w4 (w4.setCell ⟨g, 0, none⟩ (.slice A4 n4 c4)) g none := (KeepBut.refl _ _ _).set_ 0 (.slice A4 n4 c4)
  have hD : Below B w w4 := (hDd.mono (Nat.le_trans hB (Nat.le_of_lt hglt))).trans hb4
  have how4 : ∀ p ∈ ps0 ++ ps1, Ow w4 B p := fun p hp => ((howd p hp).below hb3).grown (Rr.below hr0d hb3) hg4
  have hu : Ow w3 B (.slice A3 l0.length c3, l0) := Kd.R_lower ho hBd
  have hu4 : Ow w4 B (.slice A3 l0.length c3, l0) := hu.grown (Rr.below hr0d hb3) hg4
  have hap' : ∀ p ∈ ps0 ++ ps1, Ap p (.slice A3 l0.length c3, l0) ∧ Ap (.slice A3 l0.length c3, l0) p := fun p hp => by
    have hold := fun b hb => ((howd p hp).typed (b := b) hb).1
    have hnew : ∀ b, (Value.slice A3 l0.length c3).ownBlock = some b → wd.heap.size ≤ b := fun b hb => ((Kd.R_bound ho).1 b hb).2.1
    exact ⟨fun b h1 h2 => by have := hold b h1; have := hnew b h2; omega, fun b h1 h2 => by have := hold b h2; have := hnew b h1; omega⟩
  have hro4 : Rr w4 B (.slice A1 ps1.length d1) ps1 := (Rr.below hr1d hb3).grown hg4 (hne)
  have hrk4 : Rr w4 B (.slice A4 n4 c4) (ps0 ++ [(.slice A3 l0.length c3, l0)]) := by unfold Rr; rw [List.map_append]; exact hr4
  have hn4 : ∀ b, (Value.slice A4 n4 c4).ownBlock = some b → (Value.slice A1 ps1.length d1).ownBlock ≠ some b := fun b h1 h2 => by
    rcases hat4 with h3 | ⟨b', h3, h4⟩
    · rw [h1] at h3
      exact hne b h3.symm h2
    · rw [h1] at h3
      injection h3 with h3
      have := (hr1d.typed h2).1
      have := hb3.size
      omega
  refine ⟨_, rfl, ⟨hB, (.slice A4 n4 c4), .slice A1 ps1.length d1, blk_put hbg4 0 (.slice A4 n4 c4) rfl, hrk4.keep hbg4 hK, hro4.keep hbg4 hK, hn4, fun p hp => Ow.keep (?_ : Ow w4 B p) hbg4 hK, (ap_insert hap hap').1⟩, hD.setCell hB _, (((Fr5.below hDd).trans (Fr5.below hb3)).trans (Fr5.grown (Rr.below hr0d hb3) hg4)).trans (Fr5.set hbg4 _)⟩
  have hp' : p ∈ ps0 ++ ps1 ∨ p = (.slice A3 l0.length c3, l0) := by simp only [List.mem_append, List.mem_singleton, List.mem_cons, List.not_mem_nil, or_false] at hp ⊢; rcases hp with hp | hp <;> simp_all <;> (first | (rcases hp with hp | hp <;> simp_all) | skip)
  rcases hp' with hp' | rfl
  · exact how4 p hp'
  · exact hu4
theorem Waits1 (B g : Nat) (ps0 ps1 : Ps) (c0 c1 : Int) (w : World) (h : At w B g ps0 ps1 c0 c1) : Calls Try.prog 42 #[.pointer (some ⟨g, 0, none⟩), .int .i64 1] w fun e w' => e = .returned (.int .i64 ps1.length) ∧ w' = w := by
  obtain ⟨hB, v0, v1, hb, hr0, hr1, hne, how, hap⟩ := id h
  obtain ⟨A0, d0, rfl⟩ := hr0.slice
  obtain ⟨A1, d1, rfl⟩ := hr1.slice
  obtain ⟨⟨q0, q1, q2, q3⟩, z0, z1, z2, z3⟩ := reads_ hb
  go_enter Try.func42, Try.ntmps42
  go_wp2_with (go_at_call 71; refine (end_calls 1 w).mono ?_; rintro e w' ⟨rfl, rfl⟩)
  go_ret
  exact ⟨rfl, rfl⟩
theorem Count1 (B g : Nat) (ps0 ps1 : Ps) (c0 c1 : Int) (w : World) (h : At w B g ps0 ps1 c0 c1) : Calls Try.prog 47 #[.pointer (some ⟨g, 0, none⟩), .int .i64 1] w fun e w' => e = .returned (.int .i64 c1) ∧ w' = w := by
  obtain ⟨hB, v0, v1, hb, hr0, hr1, hne, how, hap⟩ := id h
  obtain ⟨A0, d0, rfl⟩ := hr0.slice
  obtain ⟨A1, d1, rfl⟩ := hr1.slice
  obtain ⟨⟨q0, q1, q2, q3⟩, z0, z1, z2, z3⟩ := reads_ hb
  go_enter Try.func47, Try.ntmps47
  go_wp2_with (go_at_call 71; refine (end_calls 1 w).mono ?_; rintro e w' ⟨rfl, rfl⟩)
  go_ret
  exact ⟨rfl, rfl⟩
theorem PutFull1 (B g : Nat) (ps0 ps1 : Ps) (c0 c1 : Int) (A : Option Addr) (n c : Nat) (w : World) (h : At w B g ps0 ps1 c0 c1) (hf : 64 ≤ ps1.length) : Calls Try.prog 72 #[.pointer (some ⟨g, 0, none⟩), .int .i64 1, .slice A n c] w fun e w' => e = .returned (.bool false) ∧ w' = w := by
  obtain ⟨hB, v0, v1, hb, hr0, hr1, hne, how, hap⟩ := id h
  obtain ⟨A0, d0, rfl⟩ := hr0.slice
  obtain ⟨A1, d1, rfl⟩ := hr1.slice
  obtain ⟨⟨q0, q1, q2, q3⟩, z0, z1, z2, z3⟩ := reads_ hb
  have h64 : decide ((64 : Int) ≤ (ps1.length : Int)) = true := decide_eq_true (by omega)
  go_enter Try.func72, Try.ntmps72
  go_wp2
  go_ret
  exact ⟨rfl, rfl⟩
set_option maxHeartbeats 4000000 in
set_option maxRecDepth 100000 in
theorem Put1 (B g : Nat) (ps0 ps1 : Ps) (c0 c1 : Int) (A : Option Addr) (c : Nat) (l0 : List Int) (w : World) (h : At w B g ps0 ps1 c0 c1) (hC : Kd.C (Kd.int .u8) w A l0.length l0) (hc : l0.length ≤ c) (hm : l0.length < 140737488355328) (hf : ps1.length < 64) :
    Calls Try.prog 72 #[.pointer (some ⟨g, 0, none⟩), .int .i64 1, .slice A l0.length c] w fun e w' => ∃ u, e = .returned (.bool true) ∧ At w' B g ps0 (ps1 ++ [(u, l0)]) c0 c1 ∧ Below B w w' ∧ Fr5 w w' := by
  obtain ⟨hB, v0, v1, hb, hr0, hr1, hne, how, hap⟩ := id h
  obtain ⟨A0, d0, rfl⟩ := hr0.slice
  obtain ⟨A1, d1, rfl⟩ := hr1.slice
  obtain ⟨⟨q0, q1, q2, q3⟩, z0, z1, z2, z3⟩ := reads_ hb
  have h64 : decide ((64 : Int) ≤ (ps1.length : Int)) = false := decide_eq_false (by omega)
  have hglt := blk_lt hb
  go_enter Try.func72, Try.ntmps72
  go_wp2_with (fail)
  have hbd := blk_drew hb
  have hDd : Below w.heap.size w w.drew := below_drew (Below.refl _ _)
  have hCd := Kd.C_below hC hDd
  have hr0d := hr0.below hDd
  have hr1d := hr1.below hDd
  have howd := fun p hp => (how p hp).below hDd
  have hBd : B ≤ w.drew.heap.size := Nat.le_trans (Nat.le_trans hB (Nat.le_of_lt hglt)) hDd.size
  refine start_ (n := 16) (S := fun w' => w'.cell? ⟨g, 1, none⟩ = some (.slice A1 ps1.length d1)) (ds := [15]) #[false, false, false, false, false, false, false, false, false, false, false, false, false, false, false, false] (by kernel_rfl) rfl rfl ((blk_cell hbd 1)) (fun hHeld => ?_)
  generalize w.drew = wd at hbd hCd hr0d hr1d howd hBd hHeld hDd ⊢
  refine pure_ (i := 0) (N := some 15) (v := ?_) (a' := ?_) #[true, false, false, false, false, false, false, false, false, false, false, false, false, false, false, false] rfl rfl (by kernel_rfl) (fun _ _ _ h => h) (Or.inl ⟨by rfl, ?_⟩) ?_ ?_
  rotate_left
  · intro w'
    go_simp
    with_reducible rfl
  rotate_left
  · simp only [Act.put, List.setIfInBounds_toArray, List.set_cons_zero, List.set_cons_succ, i64_w, i32_w]
    rfl
  refine pure_ (i := 1) (N := some 16) (v := ?_) (a' := ?_) #[true, true, false, false, false, false, false, false, false, false, false, false, false, false, false, false] rfl rfl (by kernel_rfl) (fun _ _ _ h => h) (Or.inl ⟨by rfl, ?_⟩) ?_ ?_
  rotate_left
  · intro w'
    go_simp
    with_reducible rfl
  rotate_left
  · simp only [Act.put, List.setIfInBounds_toArray, List.set_cons_zero, List.set_cons_succ, i64_w, i32_w]
    rfl
  refine pure_ (i := 2) (N := some 17) (v := ?_) (a' := ?_) #[true, true, true, false, false, false, false, false, false, false, false, false, false, false, false, false] rfl rfl (by kernel_rfl) (fun _ _ _ h => h) (Or.inl ⟨by rfl, ?_⟩) ?_ ?_
  rotate_left
  · intro w'
    go_simp
    with_reducible rfl
  rotate_left
  · simp only [Act.put, List.setIfInBounds_toArray, List.set_cons_zero, List.set_cons_succ, i64_w, i32_w]
    rfl
  refine pure_ (i := 3) (N := some 18) (v := ?_) (a' := ?_) #[true, true, true, true, false, false, false, false, false, false, false, false, false, false, false, false] rfl rfl (by kernel_rfl) (fun _ _ _ h => h) (Or.inl ⟨by rfl, ?_⟩) ?_ ?_
  rotate_left
  · intro w'
    go_simp
    with_reducible rfl
  rotate_left
  · simp only [Act.put, List.setIfInBounds_toArray, List.set_cons_zero, List.set_cons_succ, i64_w, i32_w]
    rfl
  refine pure_ (i := 4) (N := some 19) (v := ?_) (a' := ?_) #[true, true, true, true, true, false, false, false, false, false, false, false, false, false, false, false] rfl rfl (by kernel_rfl) (fun _ _ _ h => h) (Or.inl ⟨by rfl, ?_⟩) ?_ ?_
  rotate_left
  · intro w'
    go_simp
    with_reducible rfl
  rotate_left
  · simp only [Act.put, List.setIfInBounds_toArray, List.set_cons_zero, List.set_cons_succ, i64_w, i32_w]
    rfl
  refine pure_ (i := 5) (N := some 20) (v := ?_) (a' := ?_) #[true, true, true, true, true, true, false, false, false, false, false, false, false, false, false, false] rfl rfl (by kernel_rfl) (fun _ _ _ h => h) (Or.inl ⟨by rfl, ?_⟩) ?_ ?_
  rotate_left
  · intro w'
    go_simp
    with_reducible rfl
  rotate_left
  · simp only [Act.put, List.setIfInBounds_toArray, List.set_cons_zero, List.set_cons_succ, i64_w, i32_w]
    rfl
  refine pure_ (i := 6) (N := some 21) (v := ?_) (a' := ?_) #[true, true, true, true, true, true, true, false, false, false, false, false, false, false, false, false] rfl rfl (by kernel_rfl) (fun _ _ _ h => h) (Or.inl ⟨by rfl, ?_⟩) ?_ ?_
  rotate_left
  · intro w'
    go_simp
    with_reducible rfl
  rotate_left
  · simp only [Act.put, List.setIfInBounds_toArray, List.set_cons_zero, List.set_cons_succ, i64_w, i32_w]
    rfl
  refine pure_ (i := 8) (N := some 23) (v := ?_) (a' := ?_) #[true, true, true, true, true, true, true, false, true, false, false, false, false, false, false, false] rfl rfl (by kernel_rfl) (fun _ _ _ h => h) (Or.inl ⟨by rfl, ?_⟩) ?_ ?_
  rotate_left
  · intro w'
    go_simp
    with_reducible rfl
  rotate_left
  · simp only [Act.put, List.setIfInBounds_toArray, List.set_cons_zero, List.set_cons_succ, i64_w, i32_w]
    rfl
  refine pure_ (i := 12) (N := some 27) (v := ?_) (a' := ?_) #[true, true, true, true, true, true, true, false, true, false, false, false, true, false, false, false] rfl rfl (by kernel_rfl) (fun _ _ _ h => h) (Or.inl ⟨by rfl, ?_⟩) ?_ ?_
  rotate_left
  · intro w'
    go_simp
    with_reducible rfl
  rotate_left
  · simp only [Act.put, List.setIfInBounds_toArray, List.set_cons_zero, List.set_cons_succ, i64_w, i32_w]
    rfl
  refine pure_ (i := 13) (N := some 28) (v := ?_) (a' := ?_) #[true, true, true, true, true, true, true, false, true, false, false, false, true, true, false, false] rfl rfl (by kernel_rfl) (fun _ _ _ h => h) (Or.inl ⟨by rfl, ?_⟩) ?_ ?_
  rotate_left
  · intro w'
    go_simp
    with_reducible rfl
  rotate_left
  · simp only [Act.put, List.setIfInBounds_toArray, List.set_cons_zero, List.set_cons_succ, i64_w, i32_w]
    rfl
  refine take_ (i := 7) (N := some 22) (v := ?_) (a' := ?_) #[true, true, true, true, true, true, true, true, true, false, false, false, true, true, false, false] rfl rfl (by kernel_rfl) (fun _ _ _ h => h) (Or.inl ⟨by rfl, ?_⟩) hHeld ?_ ?_
  rotate_left
  · intro w' s0
    go_simp
    with_reducible rfl
  rotate_left
  · simp only [Act.put, List.setIfInBounds_toArray, List.set_cons_zero, List.set_cons_succ, i64_w, i32_w]
    rfl
  refine one_ (i := 9) (N := some 24) #[true, true, true, true, true, true, true, true, true, true, false, false, true, true, false, false] rfl rfl (by kernel_rfl) (by decide) (fun K hK => ?_)
  refine goes_ Try.func68 (by kernel_rfl) rfl #[.slice A l0.length c] (by rfl) rfl rfl (by simp only [List.map_toArray, List.map_cons, List.map_nil]; rfl) ?_
  with_reducible refine (bytes_Clone.calls A c l0 l0 wd hCd hc (by simp [bytes_Clone.f, hm])).mono ?_
  rintro e w3 ⟨v3, rfl, ho, hb3⟩
  obtain ⟨A3, c3, rfl, hc3, hC3⟩ := Kd.R_reads ho
  refine ⟨_, rfl, ?_⟩
  refine hK.out _ _ ((blk_cell (blk_below hbd hb3) 1)) (fun hHeld => ?_)
  clear hK K
  refine norm_ (a' := ?_) ?_ ?_
  rotate_left
  · show Act.put _ (some 24) _ = _
    simp only [Act.put, List.setIfInBounds_toArray, List.set_cons_zero, List.set_cons_succ, i64_w, i32_w]
    rfl
  refine one_ (i := 10) (N := some 25) #[true, true, true, true, true, true, true, true, true, true, true, false, true, true, false, false] rfl rfl (by kernel_rfl) (by decide) (fun K hK => ?_)
  refine value_ (w1 := ?_) (v := ?_) (by rfl) rfl ?_ ?_
  rotate_left 2
  · go_simp
    constructor
    · rfl
    · rfl
  refine hK.out _ _ ((blk_cell (blk_alloc (blk_below hbd hb3) _) 1)) (fun hHeld => ?_)
  clear hK K
  refine norm_ (a' := ?_) ?_ ?_
  rotate_left
  · show Act.put _ (some 25) _ = _
    simp only [Act.put, List.setIfInBounds_toArray, List.set_cons_zero, List.set_cons_succ, i64_w, i32_w]
    rfl
  refine one_ (i := 11) (N := some 26) #[true, true, true, true, true, true, true, true, true, true, true, true, true, true, false, false] rfl rfl (by kernel_rfl) (by decide) (fun K hK => ?_)
  have HB3 : Below B wd w3 := hb3.mono hBd
  refine Kd.R_append_step (Kd.raw 1) (w0 := wd) B (by rfl) (.tmp 22) (.tmp 25) 35 24 (.slice none 0 0) 24 rfl Try.underlying35 info24 rfl (by decide) (by omega) (.slice A1 ps1.length d1) (ps1.map fun p : Value × List Int => [p.1]) [.slice A3 l0.length c3] [.slice A3 l0.length c3] (fun _ => True) (fun _ => False) rfl rfl ⟨rfl, rfl, fun u hu => by rw [List.mem_singleton.1 hu]; rfl⟩ (fun _ hk => hk.elim) (fun _ _ => trivial) (Rr.below hr1d hb3) HB3 (Nat.le_trans hBd hb3.size) (by rw [List.length_map]; omega) ?_
  intro v4 w4 hr4 hb4 hg4 hat4
  obtain ⟨A4, n4, c4, rfl⟩ : ∃ A n c, v4 = .slice A n c := by obtain ⟨A, c, e, _, _⟩ := Kd.R_reads hr4; exact ⟨_, _, _, e⟩
  have hbg3 := blk_below hbd hb3
  have hgne : some g ≠ (Value.slice A1 ps1.length d1).ownBlock := fun he => by obtain ⟨_, _, cs, hcs⟩ := (Rr.below hr1d hb3).typed he.symm; exact cells_ne hcs hbg3 (by decide) rfl
  have hbg4 := (hg4.block g (blk_lt hbg3) hgne).trans hbg3
  obtain ⟨⟨y0, y1, y2, y3⟩, x0, x1, x2, x3⟩ := reads_ hbg4
  refine hK.out _ _ (y1) (fun hHeld => ?_)
  clear hK K
  refine norm_ (a' := ?_) ?_ ?_
  rotate_left
  · show Act.put _ (some 26) _ = _
    simp only [Act.put, List.setIfInBounds_toArray, List.set_cons_zero, List.set_cons_succ, i64_w, i32_w]
    rfl
  refine pure_ (i := 14) (N := some 29) (v := ?_) (a' := ?_) #[true, true, true, true, true, true, true, true, true, true, true, true, true, true, true, false] rfl rfl (by kernel_rfl) (fun _ _ _ h => h) (Or.inl ⟨by rfl, ?_⟩) ?_ ?_
  rotate_left
  · intro w'
    go_simp
    with_reducible rfl
  rotate_left
  · simp only [Act.put, List.setIfInBounds_toArray, List.set_cons_zero, List.set_cons_succ, i64_w, i32_w]
    rfl
  refine last_ (i := 15) (N := none) #[true, true, true, true, true, true, true, true, true, true, true, true, true, true, true, true] rfl rfl (by kernel_rfl) (by decide) (fun K hK => ?_)
  refine skip_ (w1 := ?_) (by rfl) rfl ?_ ?_
  rotate_left
  · go_simp
    rfl
  refine hK.out _ _ ?_
  clear hK K
  refine done_ (by kernel_rfl) ?_

  go_wp2_with (fail)
  go_ret
  have hK : KeepBut w4 (w4.setCell ⟨g, 1, none⟩ (.slice A4 n4 c4)) g none := (KeepBut.refl _ _ _).set_ 1 (.slice A4 n4 c4)
  have hD : Below B w w4 := (hDd.mono (Nat.le_trans hB (Nat.le_of_lt hglt))).trans hb4
  have how4 : ∀ p ∈ ps0 ++ ps1, Ow w4 B p := fun p hp => ((howd p hp).below hb3).grown (Rr.below hr1d hb3) hg4
  have hu : Ow w3 B (.slice A3 l0.length c3, l0) := Kd.R_lower ho hBd
  have hu4 : Ow w4 B (.slice A3 l0.length c3, l0) := hu.grown (Rr.below hr1d hb3) hg4
  have hap' : ∀ p ∈ ps0 ++ ps1, Ap p (.slice A3 l0.length c3, l0) ∧ Ap (.slice A3 l0.length c3, l0) p := fun p hp => by
    have hold := fun b hb => ((howd p hp).typed (b := b) hb).1
    have hnew : ∀ b, (Value.slice A3 l0.length c3).ownBlock = some b → wd.heap.size ≤ b := fun b hb => ((Kd.R_bound ho).1 b hb).2.1
    exact ⟨fun b h1 h2 => by have := hold b h1; have := hnew b h2; omega, fun b h1 h2 => by have := hold b h2; have := hnew b h1; omega⟩
  have hro4 : Rr w4 B (.slice A0 ps0.length d0) ps0 := (Rr.below hr0d hb3).grown hg4 (fun b h1 h2 => hne b h2 h1)
  have hrk4 : Rr w4 B (.slice A4 n4 c4) (ps1 ++ [(.slice A3 l0.length c3, l0)]) := by unfold Rr; rw [List.map_append]; exact hr4
  have hn4 : ∀ b, (Value.slice A4 n4 c4).ownBlock = some b → (Value.slice A0 ps0.length d0).ownBlock ≠ some b := fun b h1 h2 => by
    rcases hat4 with h3 | ⟨b', h3, h4⟩
    · rw [h1] at h3
      exact hne b h2 h3.symm
    · rw [h1] at h3
      injection h3 with h3
      have := (hr0d.typed h2).1
      have := hb3.size
      omega
  refine ⟨_, rfl, ⟨hB, .slice A0 ps0.length d0, (.slice A4 n4 c4), blk_put hbg4 1 (.slice A4 n4 c4) rfl, hro4.keep hbg4 hK, hrk4.keep hbg4 hK, fun b h1 h2 => hn4 b h2 h1, fun p hp => Ow.keep (?_ : Ow w4 B p) hbg4 hK, (ap_insert hap hap').2⟩, hD.setCell hB _, (((Fr5.below hDd).trans (Fr5.below hb3)).trans (Fr5.grown (Rr.below hr1d hb3) hg4)).trans (Fr5.set hbg4 _)⟩
  have hp' : p ∈ ps0 ++ ps1 ∨ p = (.slice A3 l0.length c3, l0) := by simp only [List.mem_append, List.mem_singleton, List.mem_cons, List.not_mem_nil, or_false] at hp ⊢; rcases hp with hp | hp <;> simp_all <;> (first | (rcases hp with hp | hp <;> simp_all) | skip)
  rcases hp' with hp' | rfl
  · exact how4 p hp'
  · exact hu4
theorem zero24 (w : World) : (zeroValue 24).run Try.prog w = .ok (.slice none 0 0) w := by
  have h := info24
  cases hh : Try.prog.info? 24 with
  | none => rw [hh] at h; cases h
  | some v =>
    rw [hh] at h
    simp only [Option.map_some, Option.some.injEq, Prod.mk.injEq] at h
    simp [zeroValue, typeInfo, hh, h.1]
theorem R_tail {W : World} {B g n c o : Nat} {rows : List (List Value)} (h : (Kd.raw 1).R 24 W B (fun _ => True) (.slice (some ⟨g, 0, none⟩) n c) rows) (ho : n ≤ o) (u : Value) : (Kd.raw 1).R 24 (W.setCell ⟨g, o, none⟩ u) B (fun _ => True) (.slice (some ⟨g, 0, none⟩) n c) rows := by
  have hn := (Kd.R_reads' h).1
  obtain ⟨h0, inner, ⟨hl, hv⟩, hr⟩ := h
  refine ⟨h0, inner, ⟨hl, .inr ?_⟩, hr⟩
  rcases hv with ⟨hv, _⟩ | ⟨g', cap, cur, hv, hB, hb, h1, h2, h3, h4⟩
  · cases hv
  · injection hv with hg _ hc
    injection hg with hg
    injection hg with hg
    subst hg
    subst hc
    refine ⟨g, c, cur.setIfInBounds o u, by rw [← hn], hB, blk_put hb o u rfl, h1, h2, by rw [Array.size_setIfInBounds]; exact h3, ?_⟩
    rw [← h4, Array.toList_setIfInBounds, List.take_set_of_le (by rw [show (Kd.raw 1).sz = 1 from rfl, Nat.mul_one]; omega)]
theorem R_room {W : World} {B g n c : Nat} {rows : List (List Value)} (h : (Kd.raw 1).R 24 W B (fun _ => True) (.slice (some ⟨g, 0, none⟩) n c) rows) : ∃ cur, W.heap[g]? = some (.cells cur 24 (0, 0)) ∧ cur.size = c := by
  obtain ⟨h0, inner, ⟨hl, hv⟩, hr⟩ := h
  rcases hv with ⟨hv, _⟩ | ⟨g', cap, cur, hv, hB, hb, h1, h2, h3, h4⟩
  · cases hv
  · injection hv with hg _ hc
    injection hg with hg
    injection hg with hg
    subst hg
    subst hc
    exact ⟨cur, hb, by rw [h3, show (Kd.raw 1).sz = 1 from rfl, Nat.mul_one]⟩
set_option maxHeartbeats 4000000 in
set_option maxRecDepth 100000 in
theorem Del (B b n c i : Nat) (rows : List (List Value)) (w : World) (h : (Kd.raw 1).R 24 w B (fun _ => True) (.slice (some ⟨b, 0, none⟩) n c) rows) (hi : i < n) (hBw : B ≤ w.heap.size) :
    Calls Try.prog 73 #[.slice (some ⟨b, 0, none⟩) n c, .int .i64 i, .int .i64 ((i : Int) + 1)] w fun e w' => e = .returned (.slice (some ⟨b, 0, none⟩) (n - 1) c) ∧ (Kd.raw 1).R 24 w' B (fun _ => True) (.slice (some ⟨b, 0, none⟩) (n - 1) c) (rows.eraseIdx i) ∧ w.grownBy w' (some b) := by
  have hnc := (Kd.R_reads' h).2.1
  have hmax : c ≤ maxLen := by
    obtain ⟨_, inner, ⟨_, hv⟩, _⟩ := id h
    rcases hv with ⟨hv, _⟩ | ⟨g', cap, cur, hv, _, _, _, h2, _⟩
    · cases hv
    · injection hv with _ _ hc
      subst hc
      exact h2
  simp only [maxLen] at hmax
  have g0 : (0 : Int) ≤ (i : Int) := by omega
  have g1 : ((i : Int) == (i : Int) + 1) = false := beq_eq_false_iff_ne.2 (by omega)
  have g2 : (i : Int) ≤ (i : Int) + 1 := by omega
  have g3 : (i : Int) + 1 ≤ (n : Int) := by omega
  have g4 : n ≤ c := hnc
  have g5 : i ≤ c := by omega
  have g6 : (0 : Int) ≤ (i : Int) + 1 := by omega
  have hcn : ¬ c = n - 1 := by omega
  obtain ⟨A', hA'⟩ : ∃ A' : Option Addr, (if c = i + 1 then (some ⟨b, 0, none⟩ : Option Addr) else some ⟨b, i + 1, none⟩) = A' := ⟨_, rfl⟩
  have hA2 : A' = if c = i + 1 then some ⟨b, 0, none⟩ else (some (⟨b, 0, none⟩ : Addr)).map (·.add ((i + 1) * (Kd.raw 1).sz)) := by
    rw [← hA', show (Kd.raw 1).sz = 1 from rfl, Nat.mul_one]
    split
    · rfl
    · rw [Option.map_some, Addr.add_lit, Nat.zero_add]
  go_enter Try.func73, Try.ntmps73
  go_wp2_with (fail)
  have hDd : Below w.heap.size w w.drew := below_drew (Below.refl _ _)
  have hrd := Kd.R_below h hDd
  have hBd : B ≤ w.drew.heap.size := hBw
  refine start_ (n := 8) (S := fun w' => True) (ds := []) #[false, false, false, false, false, false, false, false] (by kernel_rfl) rfl rfl trivial (fun hHeld => ?_)
  generalize w.drew = wd at hrd hBd hHeld hDd ⊢
  refine pure_ (i := 0) (N := some 20) (v := ?_) (a' := ?_) #[true, false, false, false, false, false, false, false] rfl rfl (by kernel_rfl) (fun _ _ _ h => h) (Or.inl ⟨by rfl, ?_⟩) ?_ ?_
  rotate_left
  · intro w'
    go_simp
    with_reducible rfl
  rotate_left
  · simp only [Act.put, List.setIfInBounds_toArray, List.set_cons_zero, List.set_cons_succ, i64_w, i32_w]
    rfl
  refine pure_ (i := 1) (N := some 21) (v := ?_) (a' := ?_) #[true, true, false, false, false, false, false, false] rfl rfl (by kernel_rfl) (fun _ _ _ h => h) (Or.inl ⟨by rfl, ?_⟩) ?_ ?_
  rotate_left
  · intro w'
    go_simp
    with_reducible rfl
  rotate_left
  · simp only [Act.put, List.setIfInBounds_toArray, List.set_cons_zero, List.set_cons_succ, i64_w, i32_w]
    rfl
  refine pure_ (i := 2) (N := some 22) (v := ?_) (a' := ?_) #[true, true, true, false, false, false, false, false] rfl rfl (by kernel_rfl) (fun _ _ _ h => h) (Or.inl ⟨by rfl, ?_⟩) ?_ ?_
  rotate_left
  · intro w'
    go_simp
    with_reducible rfl
  rotate_left
  · simp only [Act.put, List.setIfInBounds_toArray, List.set_cons_zero, List.set_cons_succ, i64_w, i32_w]
    rfl
  refine pure_ (i := 3) (N := some 23) (v := ?_) (a' := ?_) #[true, true, true, true, false, false, false, false] rfl rfl (by kernel_rfl) (fun _ _ _ h => h) (Or.inl ⟨by rfl, ?_⟩) ?_ ?_
  rotate_left
  · intro w'
    go_simp
    with_reducible rfl
  rotate_left
  · simp only [Act.put, List.setIfInBounds_toArray, List.set_cons_zero, List.set_cons_succ, i64_w, i32_w]
    rfl
  refine pure_ (i := 4) (N := some 24) (v := ?_) (a' := ?_) #[true, true, true, true, true, false, false, false] rfl rfl (by kernel_rfl) (fun _ _ _ h => h) (Or.inl ⟨by rfl, ?_⟩) ?_ ?_
  rotate_left
  · intro w'
    go_simp
    with_reducible rfl
  rotate_left
  · simp only [Act.put, List.setIfInBounds_toArray, List.set_cons_zero, List.set_cons_succ, i64_w, i32_w]
    rfl
  refine pure_ (i := 5) (N := some 25) (v := ?_) (a' := ?_) #[true, true, true, true, true, true, false, false] rfl rfl (by kernel_rfl) (fun _ _ _ h => h) (Or.inl ⟨by rfl, ?_⟩) ?_ ?_
  rotate_left
  · intro w'
    go_simp
    with_reducible rfl
  rotate_left
  · simp only [Act.put, List.setIfInBounds_toArray, List.set_cons_zero, List.set_cons_succ, i64_w, i32_w]
    rfl
  refine one_ (i := 6) (N := some 26) #[true, true, true, true, true, true, true, false] rfl rfl (by kernel_rfl) (by decide) (fun K hK => ?_)
  refine Kd.R_delete_step (Kd.raw 1) (w0 := wd) B (by rfl) (.tmp 22) (.tmp 25) 35 24 rfl Try.underlying35 (by rw [show (Try.prog.info? 24).map (·.size) = some 1 from by have h := info24; cases hh : Try.prog.info? 24 with | none => rw [hh] at h; cases h | some v => rw [hh] at h; simp only [Option.map_some, Option.some.injEq, Prod.mk.injEq] at h ⊢; exact h.2.1]; rfl) rfl rfl (by first | exact hA2 | (simp only [Option.map_some, Addr.add_lit, Nat.zero_add]; done) | (simp [Addr.add]; done)) rfl hrd hi (Below.refl _ _) hBd ?_
  intro w2 hr2 hb2 hg2
  refine hK.out _ _ trivial (fun hHeld => ?_)
  clear hK K
  refine norm_ (a' := ?_) ?_ ?_
  rotate_left
  · show Act.put _ (some 26) _ = _
    simp only [Act.put, List.setIfInBounds_toArray, List.set_cons_zero, List.set_cons_succ, i64_w, i32_w]
    rfl
  refine pure_ (i := 7) (N := some 0) (v := ?_) (a' := ?_) #[true, true, true, true, true, true, true, true] rfl rfl (by kernel_rfl) (fun _ _ _ h => h) (Or.inl ⟨by rfl, ?_⟩) ?_ ?_
  rotate_left
  · intro w'
    go_simp
    with_reducible rfl
  rotate_left
  · simp only [Act.put, List.setIfInBounds_toArray, List.set_cons_zero, List.set_cons_succ, i64_w, i32_w]
    rfl
  refine done_ (by kernel_rfl) ?_

  generalize (if c = i + 1 then (some ⟨b, 0, none⟩ : Option Addr) else some ⟨b, (i + 1) * (Kd.raw 1).sz, none⟩) = X
  obtain ⟨cur, hcur, hcs⟩ := R_room hr2
  have hcl : ∀ ty, (Builtin.clear_ #[35] ty #[.slice (some ⟨b, n - 1, none⟩) (n - (n - 1)) (c - (n - 1))]).run Try.prog w2 = .ok (.tuple #[]) (w2.setCell ⟨b, n - 1, none⟩ (.slice none 0 0)) := fun ty => by
    have h1 := Go.Lib.run_clear_slice (P := Try.prog) w2 35 24 ty (.slice none 0 0) Try.underlying35 zero24 rfl rfl b (n - 1) (n - (n - 1)) (c - (n - 1)) (by omega) (fun j hj => by
      rw [show n - 1 + j = n - 1 by omega, blk_cell hcur, Array.getElem?_eq_getElem (by omega)]; rfl) (fun j hj => by simp [World.frozen?, hcur])
    rw [h1, show n - (n - 1) = 1 by omega]
    rfl
  have g7 : n - 1 ≤ n := by omega
  have hK := KeepBut.refl
  clear hK hcur hHeld
  go_wp2_with (fail)
  go_ret
  refine ⟨rfl, R_tail hr2 (Nat.le_refl _) _, ?_⟩
  have hgw := (grown_of_below hDd (some b)).trans hg2
  exact ⟨hgw.os, hgw.tape, hgw.output, by have := hgw.size; simpa [World.setCell] using this, fun k hk hne => (Below.heap_setCell w2 _ _ k (fun he => hne (by rw [he]))).trans (hgw.block k hk hne)⟩
theorem cell_lt {w : World} {a : Addr} {v : Value} (h : w.cell? a = some v) : a.block < w.heap.size := by
  rcases Nat.lt_or_ge a.block w.heap.size with h1 | h1
  · exact h1
  · have : w.heap[a.block]? = none := by simp [h1]
    simp [World.cell?, this] at h
theorem At.set2 {W : World} {B g : Nat} {ps0 ps1 : Ps} {c0 c1 : Int} (h : At W B g ps0 ps1 c0 c1) (c : Int) : At (W.setCell ⟨g, 2, none⟩ (.int .i64 c)) B g ps0 ps1 c c1 := by
  obtain ⟨hB, v0, v1, hb, hr0, hr1, hne, how, hap⟩ := h
  have hK : KeepBut W (W.setCell ⟨g, 2, none⟩ (.int .i64 c)) g none := (KeepBut.refl _ _ _).set_ 2 _
  exact ⟨hB, v0, v1, blk_put hb 2 (.int .i64 c) rfl, hr0.keep hb hK, hr1.keep hb hK, hne, fun p hp => (how p hp).keep hb hK, hap⟩
theorem At.set3 {W : World} {B g : Nat} {ps0 ps1 : Ps} {c0 c1 : Int} (h : At W B g ps0 ps1 c0 c1) (c : Int) : At (W.setCell ⟨g, 3, none⟩ (.int .i64 c)) B g ps0 ps1 c0 c := by
  obtain ⟨hB, v0, v1, hb, hr0, hr1, hne, how, hap⟩ := h
  have hK : KeepBut W (W.setCell ⟨g, 3, none⟩ (.int .i64 c)) g none := (KeepBut.refl _ _ _).set_ 3 _
  exact ⟨hB, v0, v1, blk_put hb 3 (.int .i64 c) rfl, hr0.keep hb hK, hr1.keep hb hK, hne, fun p hp => (how p hp).keep hb hK, hap⟩
theorem Rr.get {W : World} {B n c i : Nat} {A : Option Addr} {ps : Ps} {p : Value × List Int} (h : Rr W B (.slice A n c) ps) (hp : ps[i]? = some p) : ∃ b, A = some ⟨b, 0, none⟩ ∧ W.cell? (⟨b, i, none⟩ : Addr) = some p.1 := by
  have hn := h.len
  have hi := (List.getElem?_eq_some_iff.1 hp).1
  obtain ⟨ad, hA⟩ : ∃ ad, A = some ad := by
    obtain ⟨_, _, hC⟩ := Kd.R_reads' h
    obtain ⟨ad, e, _⟩ := hC.2.2 (by rw [List.length_map]; omega)
    exact ⟨ad, e⟩
  subst hA
  obtain ⟨b, rfl⟩ := Kd.R_head h
  obtain ⟨cs, hcl, hM, hcc, _⟩ := Kd.R_elem h ([] : List Value) (i : Int) (by omega) (by omega)
  have hx : cs = [p.1] := by
    have h2 := hM.1
    rw [List.getD_eq_getElem?_getD, Int.toNat_natCast, List.getElem?_map, hp] at h2
    exact h2
  subst hx
  have := hcc 0 _ rfl
  rw [show (Kd.raw 1).sz = 1 from rfl, Nat.mul_one, Nat.add_zero, Int.toNat_natCast] at this
  exact ⟨b, rfl, this⟩
theorem Ow.slice {W : World} {B : Nat} {p : Value × List Int} (h : Ow W B p) : ∃ A c, p.1 = .slice A p.2.length c ∧ p.2.length ≤ c ∧ (Kd.int .u8).C W A p.2.length p.2 := Kd.R_reads h
set_option maxHeartbeats 4000000 in
set_option maxRecDepth 100000 in
theorem Send0 (B g : Nat) (ps0 ps1 : Ps) (c0 c1 : Int) (A : Option Addr) (c : Nat) (l0 : List Int) (w : World) (h : At w B g ps0 ps1 c0 c1) (hC : Kd.C (Kd.int .u8) w A l0.length l0) (hc : l0.length ≤ c) (hm : l0.length < 140737488355328) (hf : ps0.length < 64) :
    Calls Try.prog 40 #[.pointer (some ⟨g, 0, none⟩), .int .i64 0, .slice A l0.length c] w fun e w' => ∃ u, e = .returned (.bool true) ∧ At w' B g (ps0 ++ [(u, l0)]) ps1 (wrap64 (c0 + 1)) c1 ∧ Below B w w' ∧ Fr5 w w' := by
  have hP := Put0 B g ps0 ps1 c0 c1 A c l0 w h hC hc hm hf
  go_enter Try.func40, Try.ntmps40
  go_wp2_with (first | (go_at_call 71; refine (end_calls 0 w).mono ?_; rintro e w' ⟨rfl, rfl⟩) | (go_at_call 72; refine hP.mono ?_; rintro e w2 ⟨u, rfl, hA2, hb2, hf2⟩))
  have hDd : Below B w2 w2.drew := below_drew (Below.refl _ _)
  have hDd' : Below w2.heap.size w2 w2.drew := below_drew (Below.refl _ _)
  have hAd := hA2.below (below_drew (Below.refl w2.heap.size w2))
  obtain ⟨_, vv0, vv1, hbd, _⟩ := id hAd
  refine start_ (n := 11) (S := fun w' => w'.cell? ⟨g, 2, none⟩ = some (.int .i64 c0)) (ds := [10]) #[false, false, false, false, false, false, false, false, false, false, false] (by kernel_rfl) rfl rfl ((blk_cell hbd 2)) (fun hHeld => ?_)
  generalize w2.drew = wd at hbd hAd hDd hDd' hHeld ⊢
  obtain ⟨⟨y0, y1, y2, y3⟩, x0, x1, x2, x3⟩ := reads_ hbd
  refine pure_ (i := 0) (N := some 17) (v := ?_) (a' := ?_) #[true, false, false, false, false, false, false, false, false, false, false] rfl rfl (by kernel_rfl) (fun _ _ _ h => h) (Or.inl ⟨by rfl, ?_⟩) ?_ ?_
  rotate_left
  · intro w'
    go_simp
    with_reducible rfl
  rotate_left
  · simp only [Act.put, List.setIfInBounds_toArray, List.set_cons_zero, List.set_cons_succ, i64_w, i32_w]
    rfl
  refine pure_ (i := 1) (N := some 18) (v := ?_) (a' := ?_) #[true, true, false, false, false, false, false, false, false, false, false] rfl rfl (by kernel_rfl) (fun _ _ _ h => h) (Or.inl ⟨by rfl, ?_⟩) ?_ ?_
  rotate_left
  · intro w'
    go_simp
    with_reducible rfl
  rotate_left
  · simp only [Act.put, List.setIfInBounds_toArray, List.set_cons_zero, List.set_cons_succ, i64_w, i32_w]
    rfl
  refine pure_ (i := 2) (N := some 19) (v := ?_) (a' := ?_) #[true, true, true, false, false, false, false, false, false, false, false] rfl rfl (by kernel_rfl) (fun _ _ _ h => h) (Or.inl ⟨by rfl, ?_⟩) ?_ ?_
  rotate_left
  · intro w'
    go_simp
    with_reducible rfl
  rotate_left
  · simp only [Act.put, List.setIfInBounds_toArray, List.set_cons_zero, List.set_cons_succ, i64_w, i32_w]
    rfl
  refine pure_ (i := 3) (N := some 20) (v := ?_) (a' := ?_) #[true, true, true, true, false, false, false, false, false, false, false] rfl rfl (by kernel_rfl) (fun _ _ _ h => h) (Or.inl ⟨by rfl, ?_⟩) ?_ ?_
  rotate_left
  · intro w'
    go_simp
    with_reducible rfl
  rotate_left
  · simp only [Act.put, List.setIfInBounds_toArray, List.set_cons_zero, List.set_cons_succ, i64_w, i32_w]
    rfl
  refine pure_ (i := 4) (N := some 21) (v := ?_) (a' := ?_) #[true, true, true, true, true, false, false, false, false, false, false] rfl rfl (by kernel_rfl) (fun _ _ _ h => h) (Or.inl ⟨by rfl, ?_⟩) ?_ ?_
  rotate_left
  · intro w'
    go_simp
    with_reducible rfl
  rotate_left
  · simp only [Act.put, List.setIfInBounds_toArray, List.set_cons_zero, List.set_cons_succ, i64_w, i32_w]
    rfl
  refine pure_ (i := 7) (N := some 24) (v := ?_) (a' := ?_) #[true, true, true, true, true, false, false, true, false, false, false] rfl rfl (by kernel_rfl) (fun _ _ _ h => h) (Or.inl ⟨by rfl, ?_⟩) ?_ ?_
  rotate_left
  · intro w'
    go_simp
    with_reducible rfl
  rotate_left
  · simp only [Act.put, List.setIfInBounds_toArray, List.set_cons_zero, List.set_cons_succ, i64_w, i32_w]
    rfl
  refine pure_ (i := 8) (N := some 25) (v := ?_) (a' := ?_) #[true, true, true, true, true, false, false, true, true, false, false] rfl rfl (by kernel_rfl) (fun _ _ _ h => h) (Or.inl ⟨by rfl, ?_⟩) ?_ ?_
  rotate_left
  · intro w'
    go_simp
    with_reducible rfl
  rotate_left
  · simp only [Act.put, List.setIfInBounds_toArray, List.set_cons_zero, List.set_cons_succ, i64_w, i32_w]
    rfl
  refine take_ (i := 5) (N := some 22) (v := ?_) (a' := ?_) #[true, true, true, true, true, true, false, true, true, false, false] rfl rfl (by kernel_rfl) (fun _ _ _ h => h) (Or.inl ⟨by rfl, ?_⟩) hHeld ?_ ?_
  rotate_left
  · intro w' s0
    go_simp
    with_reducible rfl
  rotate_left
  · simp only [Act.put, List.setIfInBounds_toArray, List.set_cons_zero, List.set_cons_succ, i64_w, i32_w]
    rfl
  refine pure_ (i := 6) (N := some 23) (v := ?_) (a' := ?_) #[true, true, true, true, true, true, true, true, true, false, false] rfl rfl (by kernel_rfl) (fun _ _ _ h => h) (Or.inl ⟨by rfl, ?_⟩) ?_ ?_
  rotate_left
  · intro w'
    go_simp
    with_reducible rfl
  rotate_left
  · simp only [Act.put, List.setIfInBounds_toArray, List.set_cons_zero, List.set_cons_succ, i64_w, i32_w]
    rfl
  refine pure_ (i := 9) (N := some 26) (v := ?_) (a' := ?_) #[true, true, true, true, true, true, true, true, true, true, false] rfl rfl (by kernel_rfl) (fun _ _ _ h => h) (Or.inl ⟨by rfl, ?_⟩) ?_ ?_
  rotate_left
  · intro w'
    go_simp
    with_reducible rfl
  rotate_left
  · simp only [Act.put, List.setIfInBounds_toArray, List.set_cons_zero, List.set_cons_succ, i64_w, i32_w]
    rfl
  refine last_ (i := 10) (N := none) #[true, true, true, true, true, true, true, true, true, true, true] rfl rfl (by kernel_rfl) (by decide) (fun K hK => ?_)
  refine skip_ (w1 := ?_) (by rfl) rfl ?_ ?_
  rotate_left
  · go_simp
    rfl
  refine hK.out _ _ ?_
  clear hK K
  refine done_ (by kernel_rfl) ?_

  go_wp2_with (fail)
  go_ret
  exact ⟨u, rfl, hAd.set2 _, (hb2.trans hDd).setCell h.1 _, (hf2.trans (Fr5.below hDd')).trans (Fr5.set hbd _)⟩
theorem SendFull0 (B g : Nat) (ps0 ps1 : Ps) (c0 c1 : Int) (A : Option Addr) (n c : Nat) (w : World) (h : At w B g ps0 ps1 c0 c1) (hf : 64 ≤ ps0.length) :
    Calls Try.prog 40 #[.pointer (some ⟨g, 0, none⟩), .int .i64 0, .slice A n c] w fun e w' => e = .returned (.bool false) ∧ w' = w := by
  have hP := PutFull0 B g ps0 ps1 c0 c1 A n c w h hf
  go_enter Try.func40, Try.ntmps40
  go_wp2_with (first | (go_at_call 71; refine (end_calls 0 w).mono ?_; rintro e w' ⟨rfl, rfl⟩) | (go_at_call 72; refine hP.mono ?_; rintro e w' ⟨rfl, rfl⟩))
  go_ret
  exact ⟨rfl, rfl⟩
theorem See0 (B g : Nat) (ps0 ps1 : Ps) (c0 c1 : Int) (i : Nat) (u : Value) (x : List Int) (w : World) (h : At w B g ps0 ps1 c0 c1) (hp : ps0[i]? = some (u, x)) (hm : x.length < 140737488355328) :
    Calls Try.prog 46 #[.pointer (some ⟨g, 0, none⟩), .int .i64 0, .int .i64 i] w fun e w' => ∃ v, e = .returned (.tuple #[v, .bool true]) ∧ Kd.R (Kd.int .u8) 5 w' w.heap.size (fun _ => True) v x ∧ Below w.heap.size w w' := by
  obtain ⟨hB, v0, v1, hb, hr0, hr1, hne, how, hap⟩ := id h
  obtain ⟨A0, d0, rfl⟩ := hr0.slice
  obtain ⟨A1, d1, rfl⟩ := hr1.slice
  obtain ⟨⟨q0, q1, q2, q3⟩, z0, z1, z2, z3⟩ := reads_ hb
  obtain ⟨b, rfl, hcell⟩ := hr0.get hp
  have hi := (List.getElem?_eq_some_iff.1 hp).1
  obtain ⟨Ap, cp, hpv, hpc, hpC⟩ := (how (u, x) (by have := List.mem_of_getElem? hp; simp [this])).slice
  dsimp only at hpv hpc hpC hcell
  rw [hpv] at hcell
  have g1 : decide ((i : Int) < 0) = false := decide_eq_false (by omega)
  have g2 : decide ((ps0.length : Int) ≤ (i : Int)) = false := decide_eq_false (by omega)
  have g3 : ¬ ps0.length ≤ i := by omega
  clear hp
  go_enter Try.func46, Try.ntmps46
  go_wp2_with (first | (go_at_call 71; refine (end_calls 0 w).mono ?_; rintro e w' ⟨rfl, rfl⟩) | (go_at_call 68; refine (bytes_Clone.calls Ap cp x x _ hpC hpc (by simp [bytes_Clone.f, hm])).mono ?_; rintro e w2 ⟨v2, rfl, ho, hb2⟩))
  go_ret2
  exact ⟨_, rfl, ho, hb2⟩
set_option maxHeartbeats 4000000 in
set_option maxRecDepth 100000 in
theorem Send1 (B g : Nat) (ps0 ps1 : Ps) (c0 c1 : Int) (A : Option Addr) (c : Nat) (l0 : List Int) (w : World) (h : At w B g ps0 ps1 c0 c1) (hC : Kd.C (Kd.int .u8) w A l0.length l0) (hc : l0.length ≤ c) (hm : l0.length < 140737488355328) (hf : ps1.length < 64) :
    Calls Try.prog 40 #[.pointer (some ⟨g, 0, none⟩), .int .i64 1, .slice A l0.length c] w fun e w' => ∃ u, e = .returned (.bool true) ∧ At w' B g ps0 (ps1 ++ [(u, l0)]) c0 (wrap64 (c1 + 1)) ∧ Below B w w' ∧ Fr5 w w' := by
  have hP := Put1 B g ps0 ps1 c0 c1 A c l0 w h hC hc hm hf
  go_enter Try.func40, Try.ntmps40
  go_wp2_with (first | (go_at_call 71; refine (end_calls 1 w).mono ?_; rintro e w' ⟨rfl, rfl⟩) | (go_at_call 72; refine hP.mono ?_; rintro e w2 ⟨u, rfl, hA2, hb2, hf2⟩))
  have hDd : Below B w2 w2.drew := below_drew (Below.refl _ _)
  have hDd' : Below w2.heap.size w2 w2.drew := below_drew (Below.refl _ _)
  have hAd := hA2.below (below_drew (Below.refl w2.heap.size w2))
  obtain ⟨_, vv0, vv1, hbd, _⟩ := id hAd
  refine start_ (n := 11) (S := fun w' => w'.cell? ⟨g, 3, none⟩ = some (.int .i64 c1)) (ds := [10]) #[false, false, false, false, false, false, false, false, false, false, false] (by kernel_rfl) rfl rfl ((blk_cell hbd 3)) (fun hHeld => ?_)
  generalize w2.drew = wd at hbd hAd hDd hDd' hHeld ⊢
  obtain ⟨⟨y0, y1, y2, y3⟩, x0, x1, x2, x3⟩ := reads_ hbd
  refine pure_ (i := 0) (N := some 17) (v := ?_) (a' := ?_) #[true, false, false, false, false, false, false, false, false, false, false] rfl rfl (by kernel_rfl) (fun _ _ _ h => h) (Or.inl ⟨by rfl, ?_⟩) ?_ ?_
  rotate_left
  · intro w'
    go_simp
    with_reducible rfl
  rotate_left
  · simp only [Act.put, List.setIfInBounds_toArray, List.set_cons_zero, List.set_cons_succ, i64_w, i32_w]
    rfl
  refine pure_ (i := 1) (N := some 18) (v := ?_) (a' := ?_) #[true, true, false, false, false, false, false, false, false, false, false] rfl rfl (by kernel_rfl) (fun _ _ _ h => h) (Or.inl ⟨by rfl, ?_⟩) ?_ ?_
  rotate_left
  · intro w'
    go_simp
    with_reducible rfl
  rotate_left
  · simp only [Act.put, List.setIfInBounds_toArray, List.set_cons_zero, List.set_cons_succ, i64_w, i32_w]
    rfl
  refine pure_ (i := 2) (N := some 19) (v := ?_) (a' := ?_) #[true, true, true, false, false, false, false, false, false, false, false] rfl rfl (by kernel_rfl) (fun _ _ _ h => h) (Or.inl ⟨by rfl, ?_⟩) ?_ ?_
  rotate_left
  · intro w'
    go_simp
    with_reducible rfl
  rotate_left
  · simp only [Act.put, List.setIfInBounds_toArray, List.set_cons_zero, List.set_cons_succ, i64_w, i32_w]
    rfl
  refine pure_ (i := 3) (N := some 20) (v := ?_) (a' := ?_) #[true, true, true, true, false, false, false, false, false, false, false] rfl rfl (by kernel_rfl) (fun _ _ _ h => h) (Or.inl ⟨by rfl, ?_⟩) ?_ ?_
  rotate_left
  · intro w'
    go_simp
    with_reducible rfl
  rotate_left
  · simp only [Act.put, List.setIfInBounds_toArray, List.set_cons_zero, List.set_cons_succ, i64_w, i32_w]
    rfl
  refine pure_ (i := 4) (N := some 21) (v := ?_) (a' := ?_) #[true, true, true, true, true, false, false, false, false, false, false] rfl rfl (by kernel_rfl) (fun _ _ _ h => h) (Or.inl ⟨by rfl, ?_⟩) ?_ ?_
  rotate_left
  · intro w'
    go_simp
    with_reducible rfl
  rotate_left
  · simp only [Act.put, List.setIfInBounds_toArray, List.set_cons_zero, List.set_cons_succ, i64_w, i32_w]
    rfl
  refine pure_ (i := 7) (N := some 24) (v := ?_) (a' := ?_) #[true, true, true, true, true, false, false, true, false, false, false] rfl rfl (by kernel_rfl) (fun _ _ _ h => h) (Or.inl ⟨by rfl, ?_⟩) ?_ ?_
  rotate_left
  · intro w'
    go_simp
    with_reducible rfl
  rotate_left
  · simp only [Act.put, List.setIfInBounds_toArray, List.set_cons_zero, List.set_cons_succ, i64_w, i32_w]
    rfl
  refine pure_ (i := 8) (N := some 25) (v := ?_) (a' := ?_) #[true, true, true, true, true, false, false, true, true, false, false] rfl rfl (by kernel_rfl) (fun _ _ _ h => h) (Or.inl ⟨by rfl, ?_⟩) ?_ ?_
  rotate_left
  · intro w'
    go_simp
    with_reducible rfl
  rotate_left
  · simp only [Act.put, List.setIfInBounds_toArray, List.set_cons_zero, List.set_cons_succ, i64_w, i32_w]
    rfl
  refine take_ (i := 5) (N := some 22) (v := ?_) (a' := ?_) #[true, true, true, true, true, true, false, true, true, false, false] rfl rfl (by kernel_rfl) (fun _ _ _ h => h) (Or.inl ⟨by rfl, ?_⟩) hHeld ?_ ?_
  rotate_left
  · intro w' s0
    go_simp
    with_reducible rfl
  rotate_left
  · simp only [Act.put, List.setIfInBounds_toArray, List.set_cons_zero, List.set_cons_succ, i64_w, i32_w]
    rfl
  refine pure_ (i := 6) (N := some 23) (v := ?_) (a' := ?_) #[true, true, true, true, true, true, true, true, true, false, false] rfl rfl (by kernel_rfl) (fun _ _ _ h => h) (Or.inl ⟨by rfl, ?_⟩) ?_ ?_
  rotate_left
  · intro w'
    go_simp
    with_reducible rfl
  rotate_left
  · simp only [Act.put, List.setIfInBounds_toArray, List.set_cons_zero, List.set_cons_succ, i64_w, i32_w]
    rfl
  refine pure_ (i := 9) (N := some 26) (v := ?_) (a' := ?_) #[true, true, true, true, true, true, true, true, true, true, false] rfl rfl (by kernel_rfl) (fun _ _ _ h => h) (Or.inl ⟨by rfl, ?_⟩) ?_ ?_
  rotate_left
  · intro w'
    go_simp
    with_reducible rfl
  rotate_left
  · simp only [Act.put, List.setIfInBounds_toArray, List.set_cons_zero, List.set_cons_succ, i64_w, i32_w]
    rfl
  refine last_ (i := 10) (N := none) #[true, true, true, true, true, true, true, true, true, true, true] rfl rfl (by kernel_rfl) (by decide) (fun K hK => ?_)
  refine skip_ (w1 := ?_) (by rfl) rfl ?_ ?_
  rotate_left
  · go_simp
    rfl
  refine hK.out _ _ ?_
  clear hK K
  refine done_ (by kernel_rfl) ?_

  go_wp2_with (fail)
  go_ret
  exact ⟨u, rfl, hAd.set3 _, (hb2.trans hDd).setCell h.1 _, (hf2.trans (Fr5.below hDd')).trans (Fr5.set hbd _)⟩
theorem SendFull1 (B g : Nat) (ps0 ps1 : Ps) (c0 c1 : Int) (A : Option Addr) (n c : Nat) (w : World) (h : At w B g ps0 ps1 c0 c1) (hf : 64 ≤ ps1.length) :
    Calls Try.prog 40 #[.pointer (some ⟨g, 0, none⟩), .int .i64 1, .slice A n c] w fun e w' => e = .returned (.bool false) ∧ w' = w := by
  have hP := PutFull1 B g ps0 ps1 c0 c1 A n c w h hf
  go_enter Try.func40, Try.ntmps40
  go_wp2_with (first | (go_at_call 71; refine (end_calls 1 w).mono ?_; rintro e w' ⟨rfl, rfl⟩) | (go_at_call 72; refine hP.mono ?_; rintro e w' ⟨rfl, rfl⟩))
  go_ret
  exact ⟨rfl, rfl⟩
theorem See1 (B g : Nat) (ps0 ps1 : Ps) (c0 c1 : Int) (i : Nat) (u : Value) (x : List Int) (w : World) (h : At w B g ps0 ps1 c0 c1) (hp : ps1[i]? = some (u, x)) (hm : x.length < 140737488355328) :
    Calls Try.prog 46 #[.pointer (some ⟨g, 0, none⟩), .int .i64 1, .int .i64 i] w fun e w' => ∃ v, e = .returned (.tuple #[v, .bool true]) ∧ Kd.R (Kd.int .u8) 5 w' w.heap.size (fun _ => True) v x ∧ Below w.heap.size w w' := by
  obtain ⟨hB, v0, v1, hb, hr0, hr1, hne, how, hap⟩ := id h
  obtain ⟨A0, d0, rfl⟩ := hr0.slice
  obtain ⟨A1, d1, rfl⟩ := hr1.slice
  obtain ⟨⟨q0, q1, q2, q3⟩, z0, z1, z2, z3⟩ := reads_ hb
  obtain ⟨b, rfl, hcell⟩ := hr1.get hp
  have hi := (List.getElem?_eq_some_iff.1 hp).1
  obtain ⟨Ap, cp, hpv, hpc, hpC⟩ := (how (u, x) (by have := List.mem_of_getElem? hp; simp [this])).slice
  dsimp only at hpv hpc hpC hcell
  rw [hpv] at hcell
  have g1 : decide ((i : Int) < 0) = false := decide_eq_false (by omega)
  have g2 : decide ((ps1.length : Int) ≤ (i : Int)) = false := decide_eq_false (by omega)
  have g3 : ¬ ps1.length ≤ i := by omega
  clear hp
  go_enter Try.func46, Try.ntmps46
  go_wp2_with (first | (go_at_call 71; refine (end_calls 1 w).mono ?_; rintro e w' ⟨rfl, rfl⟩) | (go_at_call 68; refine (bytes_Clone.calls Ap cp x x _ hpC hpc (by simp [bytes_Clone.f, hm])).mono ?_; rintro e w2 ⟨v2, rfl, ho, hb2⟩))
  go_ret2
  exact ⟨_, rfl, ho, hb2⟩
theorem Rr.max {W : World} {B n c : Nat} {A : Option Addr} {ps : Ps} (h : Rr W B (.slice A n c) ps) : ps.length ≤ 9223372036854775807 := by
  have h1 := (Kd.R_reads' h).2.2.2.1
  rw [List.length_map] at h1
  exact h1
theorem map_erase (ps : Ps) (i : Nat) : (ps.map fun p : Value × List Int => [p.1]).eraseIdx i = (ps.eraseIdx i).map fun p : Value × List Int => [p.1] := by
  induction ps generalizing i with
  | nil => simp
  | cons p ps ih =>
    cases i with
    | zero => simp
    | succ i => simp [ih]
theorem erase0 {ps0 ps1 : Ps} (h : (ps0 ++ ps1).Pairwise Ap) (i : Nat) : (ps0.eraseIdx i ++ ps1).Pairwise Ap ∧ (ps0 ++ ps1.eraseIdx i).Pairwise Ap :=
  ⟨h.sublist ((List.eraseIdx_sublist _ _).append (List.Sublist.refl _)), h.sublist ((List.Sublist.refl _).append (List.eraseIdx_sublist _ _))⟩
theorem mem_erase {ps0 ps1 : Ps} {i : Nat} {p : Value × List Int} : (p ∈ ps0.eraseIdx i ++ ps1 → p ∈ ps0 ++ ps1) ∧ (p ∈ ps0 ++ ps1.eraseIdx i → p ∈ ps0 ++ ps1) :=
  ⟨fun h => ((List.eraseIdx_sublist _ _).append (List.Sublist.refl _)).subset h, fun h => ((List.Sublist.refl _).append (List.eraseIdx_sublist _ _)).subset h⟩
set_option maxHeartbeats 4000000 in
set_option maxRecDepth 100000 in
theorem Do0_1 (B g : Nat) (ps0 ps1 : Ps) (c0 c1 : Int) (i : Nat) (u : Value) (x : List Int) (t y : Int) (AB : Option Addr) (nB cB : Nat) (w : World) (h : At w B g ps0 ps1 c0 c1) (hp : ps0[i]? = some (u, x)) :
    Calls Try.prog 41 #[.pointer (some ⟨g, 0, none⟩), .agg #[.int .i64 1, .int .i64 0, .int .i64 i, .int .i64 t, .int .u8 y, .slice AB nB cB]] w fun e w' => e = .returned (.tuple #[u, .int .i64 0]) ∧ At w' B g (ps0.eraseIdx i) ps1 c0 c1 ∧ Below B w w' ∧ Ow w' B (u, x) ∧ Fr5 w w' := by
  obtain ⟨hB, v0, v1, hb, hr0, hr1, hne, how, hap⟩ := id h
  obtain ⟨A0, d0, rfl⟩ := hr0.slice
  obtain ⟨A1, d1, rfl⟩ := hr1.slice
  obtain ⟨⟨q0, q1, q2, q3⟩, z0, z1, z2, z3⟩ := reads_ hb
  obtain ⟨b, rfl, hcell⟩ := hr0.get hp
  have hi := (List.getElem?_eq_some_iff.1 hp).1
  have hmem : (u, x) ∈ ps0 ++ ps1 := by have := List.mem_of_getElem? hp; simp [this]
  have hux := how (u, x) hmem
  obtain ⟨Ap_, cp, hpv, hpc, hpC⟩ := hux.slice
  dsimp only at hpv hpc hpC hcell
  subst hpv
  have g1 : decide ((i : Int) < 0) = false := decide_eq_false (by omega)
  have g2 : decide ((ps0.length : Int) ≤ (i : Int)) = false := decide_eq_false (by omega)
  have g3 : ¬ ps0.length ≤ i := by omega
  have hlen := hr0.max
  have hwi : IntKind.i64.wrap ((i : Int) + 1) = (i : Int) + 1 := by rw [IntKind.wrap_i64]; omega
  clear hp
  have hcx := Below.cell (below_alloc (Below.refl w.heap.size w) (.cells #[.int .i64 1, .int .i64 0, .int .i64 i, .int .i64 t, .int .u8 y, .slice AB nB cB] 52)) (cell_lt hcell)
  rw [hcell] at hcx
  have hbx := blk_alloc hb (.cells #[.int .i64 1, .int .i64 0, .int .i64 i, .int .i64 t, .int .u8 y, .slice AB nB cB] 52)
  have hnx := blk_new w (.cells #[.int .i64 1, .int .i64 0, .int .i64 i, .int .i64 t, .int .u8 y, .slice AB nB cB] 52)
  obtain ⟨⟨q0x, q1x, q2x, q3x⟩, z0x, z1x, z2x, z3x⟩ := reads_ hbx
  go_enter Try.func41, Try.ntmps41
  go_wp2_with (go_at_call 71; refine (end_calls 0 _).mono ?_; rintro e w' ⟨rfl, rfl⟩)
  go_quiet (fail)
  go_wp2_with (fail)
  generalize hq : World.drewN (w.alloc (.cells #[.int .i64 1, .int .i64 0, .int .i64 i, .int .i64 t, .int .u8 y, .slice AB nB cB] 52)) _ = wq
  have hDq : Below w.heap.size w wq := hq ▸ pw_below_drewN (below_alloc (Below.refl _ _) _) _
  have hxq : wq.heap[w.heap.size]? = some (.cells #[.int .i64 1, .int .i64 0, .int .i64 i, .int .i64 t, .int .u8 y, .slice AB nB cB] 52) := hq ▸ hnx
  clear hq hcx hbx hnx q0x q1x q2x q3x z0x z1x z2x z3x
  have hglt := blk_lt hb
  have hDd : Below w.heap.size w wq.drew := below_drew hDq
  have hbd := (hDd.block g hglt).trans hb
  have hxd : wq.drew.heap[w.heap.size]? = some (.cells #[.int .i64 1, .int .i64 0, .int .i64 i, .int .i64 t, .int .u8 y, .slice AB nB cB] 52) := hxq
  have hr0d := hr0.below hDd
  have hr1d := hr1.below hDd
  have howd := fun p hp => (how p hp).below hDd
  have hBd : B ≤ wq.drew.heap.size := Nat.le_trans (Nat.le_trans hB (Nat.le_of_lt hglt)) hDd.size
  have hF5 := Fr5.below hDd
  have hglt' : g < w.heap.size := hglt
  generalize w.heap.size = gx at *
  refine start_ (n := 14) (S := fun w' => w'.cell? ⟨gx, 1, none⟩ = some (.int .i64 0) ∧ w'.cell? ⟨gx, 2, none⟩ = some (.int .i64 (i : Int))) (ds := [13]) #[false, false, false, false, false, false, false, false, false, false, false, false, false, false] (by kernel_rfl) rfl rfl ⟨(blk_cell hxd 1), (blk_cell hxd 2)⟩ (fun hHeld => ?_)
  generalize wq.drew = wd at hbd hxd hr0d hr1d howd hBd hDd hF5 hHeld ⊢
  refine pure_ (i := 0) (N := some 78) (v := ?_) (a' := ?_) #[true, false, false, false, false, false, false, false, false, false, false, false, false, false] rfl rfl (by kernel_rfl) (fun _ _ _ h => h) (Or.inl ⟨by rfl, ?_⟩) ?_ ?_
  rotate_left
  · intro w'
    go_simp
    with_reducible rfl
  rotate_left
  · simp only [Act.put, List.setIfInBounds_toArray, List.set_cons_zero, List.set_cons_succ, i64_w, i32_w]
    rfl
  refine pure_ (i := 1) (N := some 79) (v := ?_) (a' := ?_) #[true, true, false, false, false, false, false, false, false, false, false, false, false, false] rfl rfl (by kernel_rfl) (fun _ _ _ h => h) (Or.inl ⟨by rfl, ?_⟩) ?_ ?_
  rotate_left
  · intro w'
    go_simp
    with_reducible rfl
  rotate_left
  · simp only [Act.put, List.setIfInBounds_toArray, List.set_cons_zero, List.set_cons_succ, i64_w, i32_w]
    rfl
  refine pure_ (i := 3) (N := some 81) (v := ?_) (a' := ?_) #[true, true, false, true, false, false, false, false, false, false, false, false, false, false] rfl rfl (by kernel_rfl) (fun _ _ _ h => h) (Or.inl ⟨by rfl, ?_⟩) ?_ ?_
  rotate_left
  · intro w'
    go_simp
    with_reducible rfl
  rotate_left
  · simp only [Act.put, List.setIfInBounds_toArray, List.set_cons_zero, List.set_cons_succ, i64_w, i32_w]
    rfl
  refine pure_ (i := 4) (N := some 82) (v := ?_) (a' := ?_) #[true, true, false, true, true, false, false, false, false, false, false, false, false, false] rfl rfl (by kernel_rfl) (fun _ _ _ h => h) (Or.inl ⟨by rfl, ?_⟩) ?_ ?_
  rotate_left
  · intro w'
    go_simp
    with_reducible rfl
  rotate_left
  · simp only [Act.put, List.setIfInBounds_toArray, List.set_cons_zero, List.set_cons_succ, i64_w, i32_w]
    rfl
  refine pure_ (i := 6) (N := some 84) (v := ?_) (a' := ?_) #[true, true, false, true, true, false, true, false, false, false, false, false, false, false] rfl rfl (by kernel_rfl) (fun _ _ _ h => h) (Or.inl ⟨by rfl, ?_⟩) ?_ ?_
  rotate_left
  · intro w'
    go_simp
    with_reducible rfl
  rotate_left
  · simp only [Act.put, List.setIfInBounds_toArray, List.set_cons_zero, List.set_cons_succ, i64_w, i32_w]
    rfl
  refine pure_ (i := 10) (N := some 88) (v := ?_) (a' := ?_) #[true, true, false, true, true, false, true, false, false, false, true, false, false, false] rfl rfl (by kernel_rfl) (fun _ _ _ h => h) (Or.inl ⟨by rfl, ?_⟩) ?_ ?_
  rotate_left
  · intro w'
    go_simp
    with_reducible rfl
  rotate_left
  · simp only [Act.put, List.setIfInBounds_toArray, List.set_cons_zero, List.set_cons_succ, i64_w, i32_w]
    rfl
  refine pure_ (i := 11) (N := some 89) (v := ?_) (a' := ?_) #[true, true, false, true, true, false, true, false, false, false, true, true, false, false] rfl rfl (by kernel_rfl) (fun _ _ _ h => h) (Or.inl ⟨by rfl, ?_⟩) ?_ ?_
  rotate_left
  · intro w'
    go_simp
    with_reducible rfl
  rotate_left
  · simp only [Act.put, List.setIfInBounds_toArray, List.set_cons_zero, List.set_cons_succ, i64_w, i32_w]
    rfl
  refine take_ (i := 2) (N := some 80) (v := ?_) (a' := ?_) #[true, true, true, true, true, false, true, false, false, false, true, true, false, false] rfl rfl (by kernel_rfl) (fun _ _ _ h => h) (Or.inl ⟨by rfl, ?_⟩) hHeld ?_ ?_
  rotate_left
  · rintro w' ⟨s0, s1⟩
    go_simp
    with_reducible rfl
  rotate_left
  · simp only [Act.put, List.setIfInBounds_toArray, List.set_cons_zero, List.set_cons_succ, i64_w, i32_w]
    rfl
  refine take_ (i := 5) (N := some 83) (v := ?_) (a' := ?_) #[true, true, true, true, true, true, true, false, false, false, true, true, false, false] rfl rfl (by kernel_rfl) (fun _ _ _ h => h) (Or.inl ⟨by rfl, ?_⟩) hHeld ?_ ?_
  rotate_left
  · rintro w' ⟨s0, s1⟩
    go_simp
    with_reducible rfl
  rotate_left
  · simp only [Act.put, List.setIfInBounds_toArray, List.set_cons_zero, List.set_cons_succ, i64_w, i32_w]
    rfl
  refine take_ (i := 7) (N := some 85) (v := ?_) (a' := ?_) #[true, true, true, true, true, true, true, true, false, false, true, true, false, false] rfl rfl (by kernel_rfl) (fun _ _ _ h => h) (Or.inl ⟨by rfl, ?_⟩) hHeld ?_ ?_
  rotate_left
  · rintro w' ⟨s0, s1⟩
    go_simp
    with_reducible rfl
  rotate_left
  · simp only [Act.put, List.setIfInBounds_toArray, List.set_cons_zero, List.set_cons_succ, i64_w, i32_w]
    rfl
  refine pure_ (i := 8) (N := some 86) (v := ?_) (a' := ?_) #[true, true, true, true, true, true, true, true, true, false, true, true, false, false] rfl rfl (by kernel_rfl) (fun _ _ _ h => h) (Or.inl ⟨by rfl, ?_⟩) ?_ ?_
  rotate_left
  · intro w'
    go_simp
    with_reducible rfl
  rotate_left
  · simp only [Act.put, List.setIfInBounds_toArray, List.set_cons_zero, List.set_cons_succ, i64_w, i32_w]
    rfl
  refine one_ (i := 9) (N := some 87) #[true, true, true, true, true, true, true, true, true, true, true, true, false, false] rfl rfl (by kernel_rfl) (by decide) (fun K hK => ?_)
  have hrawd : (Kd.raw 1).R 24 wd B (fun _ => True) (.slice (some ⟨b, 0, none⟩) ps0.length d0) (ps0.map fun p : Value × List Int => [p.1]) := hr0d
  refine goes_ Try.func73 (by kernel_rfl) rfl #[.slice (some ⟨b, 0, none⟩) ps0.length d0, .int .i64 i, .int .i64 ((i : Int) + 1)] (by rfl) rfl rfl (by simp only [List.map_toArray, List.map_cons, List.map_nil]; rfl) ?_
  with_reducible refine (Del B b ps0.length d0 i (ps0.map fun p : Value × List Int => [p.1]) wd hrawd hi hBd).mono ?_
  rintro e w3 ⟨rfl, hr3, hg3⟩
  have hgne : some g ≠ some b := fun he => by obtain ⟨_, _, cs, hcs⟩ := hr0d.typed (b := b) rfl; injection he with he; exact cells_ne hcs hbd (by decide) he.symm
  have hxne : some gx ≠ some b := fun he => by obtain ⟨_, _, cs, hcs⟩ := hr0d.typed (b := b) rfl; injection he with he; exact cells_ne hcs hxd (by decide) he.symm
  have hbg4 := (hg3.block g (blk_lt hbd) hgne).trans hbd
  have hx4 := (hg3.block gx (blk_lt hxd) hxne).trans hxd
  obtain ⟨⟨y0, y1, y2, y3⟩, x0, x1, x2, x3⟩ := reads_ hbg4
  refine ⟨_, rfl, ?_⟩
  refine hK.out _ _ ⟨(blk_cell hx4 1), (blk_cell hx4 2)⟩ (fun hHeld => ?_)
  clear hK K
  refine norm_ (a' := ?_) ?_ ?_
  rotate_left
  · show Act.put _ (some 87) _ = _
    simp only [Act.put, List.setIfInBounds_toArray, List.set_cons_zero, List.set_cons_succ, i64_w, i32_w]
    rfl
  refine pure_ (i := 12) (N := some 90) (v := ?_) (a' := ?_) #[true, true, true, true, true, true, true, true, true, true, true, true, true, false] rfl rfl (by kernel_rfl) (fun _ _ _ h => h) (Or.inl ⟨by rfl, ?_⟩) ?_ ?_
  rotate_left
  · intro w'
    go_simp
    with_reducible rfl
  rotate_left
  · simp only [Act.put, List.setIfInBounds_toArray, List.set_cons_zero, List.set_cons_succ, i64_w, i32_w]
    rfl
  refine last_ (i := 13) (N := none) #[true, true, true, true, true, true, true, true, true, true, true, true, true, true] rfl rfl (by kernel_rfl) (by decide) (fun K hK => ?_)
  refine skip_ (w1 := ?_) (by rfl) rfl ?_ ?_
  rotate_left
  · go_simp
    rfl
  refine hK.out _ _ ?_
  clear hK K
  refine done_ (by kernel_rfl) ?_

  have p0 := blk_cell hx4 0
  have hgxg : gx ≠ g := Nat.ne_of_gt hglt'
  have hggx : g ≠ gx := Nat.ne_of_lt hglt'
  go_wp2_with (fail)
  go_ret2
  have hbB := (hr0d.typed (b := b) rfl).2.1
  have hD3 : Below B w w3 := (hDd.mono (Nat.le_trans hB (Nat.le_of_lt hglt'))).grown hg3 hBd (fun j hj => by injection hj with hj; omega)
  have how3 : ∀ p ∈ ps0 ++ ps1, Ow w3 B p := fun p hp => (howd p hp).grown hr0d hg3
  have hro3 := hr1d.grown (v' := .slice (some ⟨b, 0, none⟩) ps0.length d0) hg3 (hne)
  have hrk3 : Rr w3 B (.slice (some ⟨b, 0, none⟩) (ps0.length - 1) d0) (ps0.eraseIdx i) := by unfold Rr; rw [← map_erase]; exact hr3
  have hK : KeepBut w3 (w3.setCell ⟨g, 0, none⟩ (.slice (some ⟨b, 0, none⟩) (ps0.length - 1) d0)) g none := (KeepBut.refl _ _ _).set_ 0 _
  exact ⟨rfl, ⟨hB, _, _, blk_put hbg4 0 (.slice (some ⟨b, 0, none⟩) (ps0.length - 1) d0) rfl, hrk3.keep hbg4 hK, hro3.keep hbg4 hK, hne, fun p hp => (how3 p (mem_erase.1 hp)).keep hbg4 hK, (erase0 hap i).1⟩, hD3.setCell hB _, (how3 _ hmem).keep hbg4 hK, (hF5.trans (Fr5.grown hr0d hg3)).trans (Fr5.set hbg4 _)⟩
set_option maxHeartbeats 4000000 in
set_option maxRecDepth 100000 in
theorem Do0_2 (B g : Nat) (ps0 ps1 : Ps) (c0 c1 : Int) (i : Nat) (u : Value) (x : List Int) (t y : Int) (AB : Option Addr) (nB cB : Nat) (w : World) (h : At w B g ps0 ps1 c0 c1) (hp : ps0[i]? = some (u, x)) :
    Calls Try.prog 41 #[.pointer (some ⟨g, 0, none⟩), .agg #[.int .i64 2, .int .i64 0, .int .i64 i, .int .i64 t, .int .u8 y, .slice AB nB cB]] w fun e w' => e = .returned (.tuple #[(.slice none 0 0), .int .i64 0]) ∧ At w' B g (ps0.eraseIdx i) ps1 c0 c1 ∧ Below B w w' ∧ Ow w' B (u, x) ∧ Fr5 w w' := by
  obtain ⟨hB, v0, v1, hb, hr0, hr1, hne, how, hap⟩ := id h
  obtain ⟨A0, d0, rfl⟩ := hr0.slice
  obtain ⟨A1, d1, rfl⟩ := hr1.slice
  obtain ⟨⟨q0, q1, q2, q3⟩, z0, z1, z2, z3⟩ := reads_ hb
  obtain ⟨b, rfl, hcell⟩ := hr0.get hp
  have hi := (List.getElem?_eq_some_iff.1 hp).1
  have hmem : (u, x) ∈ ps0 ++ ps1 := by have := List.mem_of_getElem? hp; simp [this]
  have hux := how (u, x) hmem
  obtain ⟨Ap_, cp, hpv, hpc, hpC⟩ := hux.slice
  dsimp only at hpv hpc hpC hcell
  subst hpv
  have g1 : decide ((i : Int) < 0) = false := decide_eq_false (by omega)
  have g2 : decide ((ps0.length : Int) ≤ (i : Int)) = false := decide_eq_false (by omega)
  have g3 : ¬ ps0.length ≤ i := by omega
  have hlen := hr0.max
  have hwi : IntKind.i64.wrap ((i : Int) + 1) = (i : Int) + 1 := by rw [IntKind.wrap_i64]; omega
  clear hp
  have hcx := Below.cell (below_alloc (Below.refl w.heap.size w) (.cells #[.int .i64 2, .int .i64 0, .int .i64 i, .int .i64 t, .int .u8 y, .slice AB nB cB] 52)) (cell_lt hcell)
  rw [hcell] at hcx
  have hbx := blk_alloc hb (.cells #[.int .i64 2, .int .i64 0, .int .i64 i, .int .i64 t, .int .u8 y, .slice AB nB cB] 52)
  have hnx := blk_new w (.cells #[.int .i64 2, .int .i64 0, .int .i64 i, .int .i64 t, .int .u8 y, .slice AB nB cB] 52)
  obtain ⟨⟨q0x, q1x, q2x, q3x⟩, z0x, z1x, z2x, z3x⟩ := reads_ hbx
  go_enter Try.func41, Try.ntmps41
  go_wp2_with (go_at_call 71; refine (end_calls 0 _).mono ?_; rintro e w' ⟨rfl, rfl⟩)
  go_quiet (fail)
  go_wp2_with (fail)
  generalize hq : World.drewN (w.alloc (.cells #[.int .i64 2, .int .i64 0, .int .i64 i, .int .i64 t, .int .u8 y, .slice AB nB cB] 52)) _ = wq
  have hDq : Below w.heap.size w wq := hq ▸ pw_below_drewN (below_alloc (Below.refl _ _) _) _
  have hxq : wq.heap[w.heap.size]? = some (.cells #[.int .i64 2, .int .i64 0, .int .i64 i, .int .i64 t, .int .u8 y, .slice AB nB cB] 52) := hq ▸ hnx
  clear hq hcx hbx hnx q0x q1x q2x q3x z0x z1x z2x z3x
  have hglt := blk_lt hb
  have hDd : Below w.heap.size w wq.drew := below_drew hDq
  have hbd := (hDd.block g hglt).trans hb
  have hxd : wq.drew.heap[w.heap.size]? = some (.cells #[.int .i64 2, .int .i64 0, .int .i64 i, .int .i64 t, .int .u8 y, .slice AB nB cB] 52) := hxq
  have hr0d := hr0.below hDd
  have hr1d := hr1.below hDd
  have howd := fun p hp => (how p hp).below hDd
  have hBd : B ≤ wq.drew.heap.size := Nat.le_trans (Nat.le_trans hB (Nat.le_of_lt hglt)) hDd.size
  have hF5 := Fr5.below hDd
  have hglt' : g < w.heap.size := hglt
  generalize w.heap.size = gx at *
  refine start_ (n := 14) (S := fun w' => w'.cell? ⟨gx, 1, none⟩ = some (.int .i64 0) ∧ w'.cell? ⟨gx, 2, none⟩ = some (.int .i64 (i : Int))) (ds := [13]) #[false, false, false, false, false, false, false, false, false, false, false, false, false, false] (by kernel_rfl) rfl rfl ⟨(blk_cell hxd 1), (blk_cell hxd 2)⟩ (fun hHeld => ?_)
  generalize wq.drew = wd at hbd hxd hr0d hr1d howd hBd hDd hF5 hHeld ⊢
  refine pure_ (i := 0) (N := some 78) (v := ?_) (a' := ?_) #[true, false, false, false, false, false, false, false, false, false, false, false, false, false] rfl rfl (by kernel_rfl) (fun _ _ _ h => h) (Or.inl ⟨by rfl, ?_⟩) ?_ ?_
  rotate_left
  · intro w'
    go_simp
    with_reducible rfl
  rotate_left
  · simp only [Act.put, List.setIfInBounds_toArray, List.set_cons_zero, List.set_cons_succ, i64_w, i32_w]
    rfl
  refine pure_ (i := 1) (N := some 79) (v := ?_) (a' := ?_) #[true, true, false, false, false, false, false, false, false, false, false, false, false, false] rfl rfl (by kernel_rfl) (fun _ _ _ h => h) (Or.inl ⟨by rfl, ?_⟩) ?_ ?_
  rotate_left
  · intro w'
    go_simp
    with_reducible rfl
  rotate_left
  · simp only [Act.put, List.setIfInBounds_toArray, List.set_cons_zero, List.set_cons_succ, i64_w, i32_w]
    rfl
  refine pure_ (i := 3) (N := some 81) (v := ?_) (a' := ?_) #[true, true, false, true, false, false, false, false, false, false, false, false, false, false] rfl rfl (by kernel_rfl) (fun _ _ _ h => h) (Or.inl ⟨by rfl, ?_⟩) ?_ ?_
  rotate_left
  · intro w'
    go_simp
    with_reducible rfl
  rotate_left
  · simp only [Act.put, List.setIfInBounds_toArray, List.set_cons_zero, List.set_cons_succ, i64_w, i32_w]
    rfl
  refine pure_ (i := 4) (N := some 82) (v := ?_) (a' := ?_) #[true, true, false, true, true, false, false, false, false, false, false, false, false, false] rfl rfl (by kernel_rfl) (fun _ _ _ h => h) (Or.inl ⟨by rfl, ?_⟩) ?_ ?_
  rotate_left
  · intro w'
    go_simp
    with_reducible rfl
  rotate_left
  · simp only [Act.put, List.setIfInBounds_toArray, List.set_cons_zero, List.set_cons_succ, i64_w, i32_w]
    rfl
  refine pure_ (i := 6) (N := some 84) (v := ?_) (a' := ?_) #[true, true, false, true, true, false, true, false, false, false, false, false, false, false] rfl rfl (by kernel_rfl) (fun _ _ _ h => h) (Or.inl ⟨by rfl, ?_⟩) ?_ ?_
  rotate_left
  · intro w'
    go_simp
    with_reducible rfl
  rotate_left
  · simp only [Act.put, List.setIfInBounds_toArray, List.set_cons_zero, List.set_cons_succ, i64_w, i32_w]
    rfl
  refine pure_ (i := 10) (N := some 88) (v := ?_) (a' := ?_) #[true, true, false, true, true, false, true, false, false, false, true, false, false, false] rfl rfl (by kernel_rfl) (fun _ _ _ h => h) (Or.inl ⟨by rfl, ?_⟩) ?_ ?_
  rotate_left
  · intro w'
    go_simp
    with_reducible rfl
  rotate_left
  · simp only [Act.put, List.setIfInBounds_toArray, List.set_cons_zero, List.set_cons_succ, i64_w, i32_w]
    rfl
  refine pure_ (i := 11) (N := some 89) (v := ?_) (a' := ?_) #[true, true, false, true, true, false, true, false, false, false, true, true, false, false] rfl rfl (by kernel_rfl) (fun _ _ _ h => h) (Or.inl ⟨by rfl, ?_⟩) ?_ ?_
  rotate_left
  · intro w'
    go_simp
    with_reducible rfl
  rotate_left
  · simp only [Act.put, List.setIfInBounds_toArray, List.set_cons_zero, List.set_cons_succ, i64_w, i32_w]
    rfl
  refine take_ (i := 2) (N := some 80) (v := ?_) (a' := ?_) #[true, true, true, true, true, false, true, false, false, false, true, true, false, false] rfl rfl (by kernel_rfl) (fun _ _ _ h => h) (Or.inl ⟨by rfl, ?_⟩) hHeld ?_ ?_
  rotate_left
  · rintro w' ⟨s0, s1⟩
    go_simp
    with_reducible rfl
  rotate_left
  · simp only [Act.put, List.setIfInBounds_toArray, List.set_cons_zero, List.set_cons_succ, i64_w, i32_w]
    rfl
  refine take_ (i := 5) (N := some 83) (v := ?_) (a' := ?_) #[true, true, true, true, true, true, true, false, false, false, true, true, false, false] rfl rfl (by kernel_rfl) (fun _ _ _ h => h) (Or.inl ⟨by rfl, ?_⟩) hHeld ?_ ?_
  rotate_left
  · rintro w' ⟨s0, s1⟩
    go_simp
    with_reducible rfl
  rotate_left
  · simp only [Act.put, List.setIfInBounds_toArray, List.set_cons_zero, List.set_cons_succ, i64_w, i32_w]
    rfl
  refine take_ (i := 7) (N := some 85) (v := ?_) (a' := ?_) #[true, true, true, true, true, true, true, true, false, false, true, true, false, false] rfl rfl (by kernel_rfl) (fun _ _ _ h => h) (Or.inl ⟨by rfl, ?_⟩) hHeld ?_ ?_
  rotate_left
  · rintro w' ⟨s0, s1⟩
    go_simp
    with_reducible rfl
  rotate_left
  · simp only [Act.put, List.setIfInBounds_toArray, List.set_cons_zero, List.set_cons_succ, i64_w, i32_w]
    rfl
  refine pure_ (i := 8) (N := some 86) (v := ?_) (a' := ?_) #[true, true, true, true, true, true, true, true, true, false, true, true, false, false] rfl rfl (by kernel_rfl) (fun _ _ _ h => h) (Or.inl ⟨by rfl, ?_⟩) ?_ ?_
  rotate_left
  · intro w'
    go_simp
    with_reducible rfl
  rotate_left
  · simp only [Act.put, List.setIfInBounds_toArray, List.set_cons_zero, List.set_cons_succ, i64_w, i32_w]
    rfl
  refine one_ (i := 9) (N := some 87) #[true, true, true, true, true, true, true, true, true, true, true, true, false, false] rfl rfl (by kernel_rfl) (by decide) (fun K hK => ?_)
  have hrawd : (Kd.raw 1).R 24 wd B (fun _ => True) (.slice (some ⟨b, 0, none⟩) ps0.length d0) (ps0.map fun p : Value × List Int => [p.1]) := hr0d
  refine goes_ Try.func73 (by kernel_rfl) rfl #[.slice (some ⟨b, 0, none⟩) ps0.length d0, .int .i64 i, .int .i64 ((i : Int) + 1)] (by rfl) rfl rfl (by simp only [List.map_toArray, List.map_cons, List.map_nil]; rfl) ?_
  with_reducible refine (Del B b ps0.length d0 i (ps0.map fun p : Value × List Int => [p.1]) wd hrawd hi hBd).mono ?_
  rintro e w3 ⟨rfl, hr3, hg3⟩
  have hgne : some g ≠ some b := fun he => by obtain ⟨_, _, cs, hcs⟩ := hr0d.typed (b := b) rfl; injection he with he; exact cells_ne hcs hbd (by decide) he.symm
  have hxne : some gx ≠ some b := fun he => by obtain ⟨_, _, cs, hcs⟩ := hr0d.typed (b := b) rfl; injection he with he; exact cells_ne hcs hxd (by decide) he.symm
  have hbg4 := (hg3.block g (blk_lt hbd) hgne).trans hbd
  have hx4 := (hg3.block gx (blk_lt hxd) hxne).trans hxd
  obtain ⟨⟨y0, y1, y2, y3⟩, x0, x1, x2, x3⟩ := reads_ hbg4
  refine ⟨_, rfl, ?_⟩
  refine hK.out _ _ ⟨(blk_cell hx4 1), (blk_cell hx4 2)⟩ (fun hHeld => ?_)
  clear hK K
  refine norm_ (a' := ?_) ?_ ?_
  rotate_left
  · show Act.put _ (some 87) _ = _
    simp only [Act.put, List.setIfInBounds_toArray, List.set_cons_zero, List.set_cons_succ, i64_w, i32_w]
    rfl
  refine pure_ (i := 12) (N := some 90) (v := ?_) (a' := ?_) #[true, true, true, true, true, true, true, true, true, true, true, true, true, false] rfl rfl (by kernel_rfl) (fun _ _ _ h => h) (Or.inl ⟨by rfl, ?_⟩) ?_ ?_
  rotate_left
  · intro w'
    go_simp
    with_reducible rfl
  rotate_left
  · simp only [Act.put, List.setIfInBounds_toArray, List.set_cons_zero, List.set_cons_succ, i64_w, i32_w]
    rfl
  refine last_ (i := 13) (N := none) #[true, true, true, true, true, true, true, true, true, true, true, true, true, true] rfl rfl (by kernel_rfl) (by decide) (fun K hK => ?_)
  refine skip_ (w1 := ?_) (by rfl) rfl ?_ ?_
  rotate_left
  · go_simp
    rfl
  refine hK.out _ _ ?_
  clear hK K
  refine done_ (by kernel_rfl) ?_

  have p0 := blk_cell hx4 0
  have hgxg : gx ≠ g := Nat.ne_of_gt hglt'
  have hggx : g ≠ gx := Nat.ne_of_lt hglt'
  go_wp2_with (fail)
  go_ret2
  have hbB := (hr0d.typed (b := b) rfl).2.1
  have hD3 : Below B w w3 := (hDd.mono (Nat.le_trans hB (Nat.le_of_lt hglt'))).grown hg3 hBd (fun j hj => by injection hj with hj; omega)
  have how3 : ∀ p ∈ ps0 ++ ps1, Ow w3 B p := fun p hp => (howd p hp).grown hr0d hg3
  have hro3 := hr1d.grown (v' := .slice (some ⟨b, 0, none⟩) ps0.length d0) hg3 (hne)
  have hrk3 : Rr w3 B (.slice (some ⟨b, 0, none⟩) (ps0.length - 1) d0) (ps0.eraseIdx i) := by unfold Rr; rw [← map_erase]; exact hr3
  have hK : KeepBut w3 (w3.setCell ⟨g, 0, none⟩ (.slice (some ⟨b, 0, none⟩) (ps0.length - 1) d0)) g none := (KeepBut.refl _ _ _).set_ 0 _
  exact ⟨rfl, ⟨hB, _, _, blk_put hbg4 0 (.slice (some ⟨b, 0, none⟩) (ps0.length - 1) d0) rfl, hrk3.keep hbg4 hK, hro3.keep hbg4 hK, hne, fun p hp => (how3 p (mem_erase.1 hp)).keep hbg4 hK, (erase0 hap i).1⟩, hD3.setCell hB _, (how3 _ hmem).keep hbg4 hK, (hF5.trans (Fr5.grown hr0d hg3)).trans (Fr5.set hbg4 _)⟩
set_option maxHeartbeats 4000000 in
set_option maxRecDepth 100000 in
theorem Do1_1 (B g : Nat) (ps0 ps1 : Ps) (c0 c1 : Int) (i : Nat) (u : Value) (x : List Int) (t y : Int) (AB : Option Addr) (nB cB : Nat) (w : World) (h : At w B g ps0 ps1 c0 c1) (hp : ps1[i]? = some (u, x)) :
    Calls Try.prog 41 #[.pointer (some ⟨g, 0, none⟩), .agg #[.int .i64 1, .int .i64 1, .int .i64 i, .int .i64 t, .int .u8 y, .slice AB nB cB]] w fun e w' => e = .returned (.tuple #[u, .int .i64 0]) ∧ At w' B g ps0 (ps1.eraseIdx i) c0 c1 ∧ Below B w w' ∧ Ow w' B (u, x) ∧ Fr5 w w' := by
  obtain ⟨hB, v0, v1, hb, hr0, hr1, hne, how, hap⟩ := id h
  obtain ⟨A0, d0, rfl⟩ := hr0.slice
  obtain ⟨A1, d1, rfl⟩ := hr1.slice
  obtain ⟨⟨q0, q1, q2, q3⟩, z0, z1, z2, z3⟩ := reads_ hb
  obtain ⟨b, rfl, hcell⟩ := hr1.get hp
  have hi := (List.getElem?_eq_some_iff.1 hp).1
  have hmem : (u, x) ∈ ps0 ++ ps1 := by have := List.mem_of_getElem? hp; simp [this]
  have hux := how (u, x) hmem
  obtain ⟨Ap_, cp, hpv, hpc, hpC⟩ := hux.slice
  dsimp only at hpv hpc hpC hcell
  subst hpv
  have g1 : decide ((i : Int) < 0) = false := decide_eq_false (by omega)
  have g2 : decide ((ps1.length : Int) ≤ (i : Int)) = false := decide_eq_false (by omega)
  have g3 : ¬ ps1.length ≤ i := by omega
  have hlen := hr1.max
  have hwi : IntKind.i64.wrap ((i : Int) + 1) = (i : Int) + 1 := by rw [IntKind.wrap_i64]; omega
  clear hp
  have hcx := Below.cell (below_alloc (Below.refl w.heap.size w) (.cells #[.int .i64 1, .int .i64 1, .int .i64 i, .int .i64 t, .int .u8 y, .slice AB nB cB] 52)) (cell_lt hcell)
  rw [hcell] at hcx
  have hbx := blk_alloc hb (.cells #[.int .i64 1, .int .i64 1, .int .i64 i, .int .i64 t, .int .u8 y, .slice AB nB cB] 52)
  have hnx := blk_new w (.cells #[.int .i64 1, .int .i64 1, .int .i64 i, .int .i64 t, .int .u8 y, .slice AB nB cB] 52)
  obtain ⟨⟨q0x, q1x, q2x, q3x⟩, z0x, z1x, z2x, z3x⟩ := reads_ hbx
  go_enter Try.func41, Try.ntmps41
  go_wp2_with (go_at_call 71; refine (end_calls 1 _).mono ?_; rintro e w' ⟨rfl, rfl⟩)
  go_quiet (fail)
  go_wp2_with (fail)
  generalize hq : World.drewN (w.alloc (.cells #[.int .i64 1, .int .i64 1, .int .i64 i, .int .i64 t, .int .u8 y, .slice AB nB cB] 52)) _ = wq
  have hDq : Below w.heap.size w wq := hq ▸ pw_below_drewN (below_alloc (Below.refl _ _) _) _
  have hxq : wq.heap[w.heap.size]? = some (.cells #[.int .i64 1, .int .i64 1, .int .i64 i, .int .i64 t, .int .u8 y, .slice AB nB cB] 52) := hq ▸ hnx
  clear hq hcx hbx hnx q0x q1x q2x q3x z0x z1x z2x z3x
  have hglt := blk_lt hb
  have hDd : Below w.heap.size w wq.drew := below_drew hDq
  have hbd := (hDd.block g hglt).trans hb
  have hxd : wq.drew.heap[w.heap.size]? = some (.cells #[.int .i64 1, .int .i64 1, .int .i64 i, .int .i64 t, .int .u8 y, .slice AB nB cB] 52) := hxq
  have hr0d := hr0.below hDd
  have hr1d := hr1.below hDd
  have howd := fun p hp => (how p hp).below hDd
  have hBd : B ≤ wq.drew.heap.size := Nat.le_trans (Nat.le_trans hB (Nat.le_of_lt hglt)) hDd.size
  have hF5 := Fr5.below hDd
  have hglt' : g < w.heap.size := hglt
  generalize w.heap.size = gx at *
  refine start_ (n := 14) (S := fun w' => w'.cell? ⟨gx, 1, none⟩ = some (.int .i64 1) ∧ w'.cell? ⟨gx, 2, none⟩ = some (.int .i64 (i : Int))) (ds := [13]) #[false, false, false, false, false, false, false, false, false, false, false, false, false, false] (by kernel_rfl) rfl rfl ⟨(blk_cell hxd 1), (blk_cell hxd 2)⟩ (fun hHeld => ?_)
  generalize wq.drew = wd at hbd hxd hr0d hr1d howd hBd hDd hF5 hHeld ⊢
  refine pure_ (i := 0) (N := some 78) (v := ?_) (a' := ?_) #[true, false, false, false, false, false, false, false, false, false, false, false, false, false] rfl rfl (by kernel_rfl) (fun _ _ _ h => h) (Or.inl ⟨by rfl, ?_⟩) ?_ ?_
  rotate_left
  · intro w'
    go_simp
    with_reducible rfl
  rotate_left
  · simp only [Act.put, List.setIfInBounds_toArray, List.set_cons_zero, List.set_cons_succ, i64_w, i32_w]
    rfl
  refine pure_ (i := 1) (N := some 79) (v := ?_) (a' := ?_) #[true, true, false, false, false, false, false, false, false, false, false, false, false, false] rfl rfl (by kernel_rfl) (fun _ _ _ h => h) (Or.inl ⟨by rfl, ?_⟩) ?_ ?_
  rotate_left
  · intro w'
    go_simp
    with_reducible rfl
  rotate_left
  · simp only [Act.put, List.setIfInBounds_toArray, List.set_cons_zero, List.set_cons_succ, i64_w, i32_w]
    rfl
  refine pure_ (i := 3) (N := some 81) (v := ?_) (a' := ?_) #[true, true, false, true, false, false, false, false, false, false, false, false, false, false] rfl rfl (by kernel_rfl) (fun _ _ _ h => h) (Or.inl ⟨by rfl, ?_⟩) ?_ ?_
  rotate_left
  · intro w'
    go_simp
    with_reducible rfl
  rotate_left
  · simp only [Act.put, List.setIfInBounds_toArray, List.set_cons_zero, List.set_cons_succ, i64_w, i32_w]
    rfl
  refine pure_ (i := 4) (N := some 82) (v := ?_) (a' := ?_) #[true, true, false, true, true, false, false, false, false, false, false, false, false, false] rfl rfl (by kernel_rfl) (fun _ _ _ h => h) (Or.inl ⟨by rfl, ?_⟩) ?_ ?_
  rotate_left
  · intro w'
    go_simp
    with_reducible rfl
  rotate_left
  · simp only [Act.put, List.setIfInBounds_toArray, List.set_cons_zero, List.set_cons_succ, i64_w, i32_w]
    rfl
  refine pure_ (i := 6) (N := some 84) (v := ?_) (a' := ?_) #[true, true, false, true, true, false, true, false, false, false, false, false, false, false] rfl rfl (by kernel_rfl) (fun _ _ _ h => h) (Or.inl ⟨by rfl, ?_⟩) ?_ ?_
  rotate_left
  · intro w'
    go_simp
    with_reducible rfl
  rotate_left
  · simp only [Act.put, List.setIfInBounds_toArray, List.set_cons_zero, List.set_cons_succ, i64_w, i32_w]
    rfl
  refine pure_ (i := 10) (N := some 88) (v := ?_) (a' := ?_) #[true, true, false, true, true, false, true, false, false, false, true, false, false, false] rfl rfl (by kernel_rfl) (fun _ _ _ h => h) (Or.inl ⟨by rfl, ?_⟩) ?_ ?_
  rotate_left
  · intro w'
    go_simp
    with_reducible rfl
  rotate_left
  · simp only [Act.put, List.setIfInBounds_toArray, List.set_cons_zero, List.set_cons_succ, i64_w, i32_w]
    rfl
  refine pure_ (i := 11) (N := some 89) (v := ?_) (a' := ?_) #[true, true, false, true, true, false, true, false, false, false, true, true, false, false] rfl rfl (by kernel_rfl) (fun _ _ _ h => h) (Or.inl ⟨by rfl, ?_⟩) ?_ ?_
  rotate_left
  · intro w'
    go_simp
    with_reducible rfl
  rotate_left
  · simp only [Act.put, List.setIfInBounds_toArray, List.set_cons_zero, List.set_cons_succ, i64_w, i32_w]
    rfl
  refine take_ (i := 2) (N := some 80) (v := ?_) (a' := ?_) #[true, true, true, true, true, false, true, false, false, false, true, true, false, false] rfl rfl (by kernel_rfl) (fun _ _ _ h => h) (Or.inl ⟨by rfl, ?_⟩) hHeld ?_ ?_
  rotate_left
  · rintro w' ⟨s0, s1⟩
    go_simp
    with_reducible rfl
  rotate_left
  · simp only [Act.put, List.setIfInBounds_toArray, List.set_cons_zero, List.set_cons_succ, i64_w, i32_w]
    rfl
  refine take_ (i := 5) (N := some 83) (v := ?_) (a' := ?_) #[true, true, true, true, true, true, true, false, false, false, true, true, false, false] rfl rfl (by kernel_rfl) (fun _ _ _ h => h) (Or.inl ⟨by rfl, ?_⟩) hHeld ?_ ?_
  rotate_left
  · rintro w' ⟨s0, s1⟩
    go_simp
    with_reducible rfl
  rotate_left
  · simp only [Act.put, List.setIfInBounds_toArray, List.set_cons_zero, List.set_cons_succ, i64_w, i32_w]
    rfl
  refine take_ (i := 7) (N := some 85) (v := ?_) (a' := ?_) #[true, true, true, true, true, true, true, true, false, false, true, true, false, false] rfl rfl (by kernel_rfl) (fun _ _ _ h => h) (Or.inl ⟨by rfl, ?_⟩) hHeld ?_ ?_
  rotate_left
  · rintro w' ⟨s0, s1⟩
    go_simp
    with_reducible rfl
  rotate_left
  · simp only [Act.put, List.setIfInBounds_toArray, List.set_cons_zero, List.set_cons_succ, i64_w, i32_w]
    rfl
  refine pure_ (i := 8) (N := some 86) (v := ?_) (a' := ?_) #[true, true, true, true, true, true, true, true, true, false, true, true, false, false] rfl rfl (by kernel_rfl) (fun _ _ _ h => h) (Or.inl ⟨by rfl, ?_⟩) ?_ ?_
  rotate_left
  · intro w'
    go_simp
    with_reducible rfl
  rotate_left
  · simp only [Act.put, List.setIfInBounds_toArray, List.set_cons_zero, List.set_cons_succ, i64_w, i32_w]
    rfl
  refine one_ (i := 9) (N := some 87) #[true, true, true, true, true, true, true, true, true, true, true, true, false, false] rfl rfl (by kernel_rfl) (by decide) (fun K hK => ?_)
  have hrawd : (Kd.raw 1).R 24 wd B (fun _ => True) (.slice (some ⟨b, 0, none⟩) ps1.length d1) (ps1.map fun p : Value × List Int => [p.1]) := hr1d
  refine goes_ Try.func73 (by kernel_rfl) rfl #[.slice (some ⟨b, 0, none⟩) ps1.length d1, .int .i64 i, .int .i64 ((i : Int) + 1)] (by rfl) rfl rfl (by simp only [List.map_toArray, List.map_cons, List.map_nil]; rfl) ?_
  with_reducible refine (Del B b ps1.length d1 i (ps1.map fun p : Value × List Int => [p.1]) wd hrawd hi hBd).mono ?_
  rintro e w3 ⟨rfl, hr3, hg3⟩
  have hgne : some g ≠ some b := fun he => by obtain ⟨_, _, cs, hcs⟩ := hr1d.typed (b := b) rfl; injection he with he; exact cells_ne hcs hbd (by decide) he.symm
  have hxne : some gx ≠ some b := fun he => by obtain ⟨_, _, cs, hcs⟩ := hr1d.typed (b := b) rfl; injection he with he; exact cells_ne hcs hxd (by decide) he.symm
  have hbg4 := (hg3.block g (blk_lt hbd) hgne).trans hbd
  have hx4 := (hg3.block gx (blk_lt hxd) hxne).trans hxd
  obtain ⟨⟨y0, y1, y2, y3⟩, x0, x1, x2, x3⟩ := reads_ hbg4
  refine ⟨_, rfl, ?_⟩
  refine hK.out _ _ ⟨(blk_cell hx4 1), (blk_cell hx4 2)⟩ (fun hHeld => ?_)
  clear hK K
  refine norm_ (a' := ?_) ?_ ?_
  rotate_left
  · show Act.put _ (some 87) _ = _
    simp only [Act.put, List.setIfInBounds_toArray, List.set_cons_zero, List.set_cons_succ, i64_w, i32_w]
    rfl
  refine pure_ (i := 12) (N := some 90) (v := ?_) (a' := ?_) #[true, true, true, true, true, true, true, true, true, true, true, true, true, false] rfl rfl (by kernel_rfl) (fun _ _ _ h => h) (Or.inl ⟨by rfl, ?_⟩) ?_ ?_
  rotate_left
  · intro w'
    go_simp
    with_reducible rfl
  rotate_left
  · simp only [Act.put, List.setIfInBounds_toArray, List.set_cons_zero, List.set_cons_succ, i64_w, i32_w]
    rfl
  refine last_ (i := 13) (N := none) #[true, true, true, true, true, true, true, true, true, true, true, true, true, true] rfl rfl (by kernel_rfl) (by decide) (fun K hK => ?_)
  refine skip_ (w1 := ?_) (by rfl) rfl ?_ ?_
  rotate_left
  · go_simp
    rfl
  refine hK.out _ _ ?_
  clear hK K
  refine done_ (by kernel_rfl) ?_

  have p0 := blk_cell hx4 0
  have hgxg : gx ≠ g := Nat.ne_of_gt hglt'
  have hggx : g ≠ gx := Nat.ne_of_lt hglt'
  go_wp2_with (fail)
  go_ret2
  have hbB := (hr1d.typed (b := b) rfl).2.1
  have hD3 : Below B w w3 := (hDd.mono (Nat.le_trans hB (Nat.le_of_lt hglt'))).grown hg3 hBd (fun j hj => by injection hj with hj; omega)
  have how3 : ∀ p ∈ ps0 ++ ps1, Ow w3 B p := fun p hp => (howd p hp).grown hr1d hg3
  have hro3 := hr0d.grown (v' := .slice (some ⟨b, 0, none⟩) ps1.length d1) hg3 (fun b h1 h2 => hne b h2 h1)
  have hrk3 : Rr w3 B (.slice (some ⟨b, 0, none⟩) (ps1.length - 1) d1) (ps1.eraseIdx i) := by unfold Rr; rw [← map_erase]; exact hr3
  have hK : KeepBut w3 (w3.setCell ⟨g, 1, none⟩ (.slice (some ⟨b, 0, none⟩) (ps1.length - 1) d1)) g none := (KeepBut.refl _ _ _).set_ 1 _
  exact ⟨rfl, ⟨hB, _, _, blk_put hbg4 1 (.slice (some ⟨b, 0, none⟩) (ps1.length - 1) d1) rfl, hro3.keep hbg4 hK, hrk3.keep hbg4 hK, hne, fun p hp => (how3 p (mem_erase.2 hp)).keep hbg4 hK, (erase0 hap i).2⟩, hD3.setCell hB _, (how3 _ hmem).keep hbg4 hK, (hF5.trans (Fr5.grown hr1d hg3)).trans (Fr5.set hbg4 _)⟩
set_option maxHeartbeats 4000000 in
set_option maxRecDepth 100000 in
theorem Do1_2 (B g : Nat) (ps0 ps1 : Ps) (c0 c1 : Int) (i : Nat) (u : Value) (x : List Int) (t y : Int) (AB : Option Addr) (nB cB : Nat) (w : World) (h : At w B g ps0 ps1 c0 c1) (hp : ps1[i]? = some (u, x)) :
    Calls Try.prog 41 #[.pointer (some ⟨g, 0, none⟩), .agg #[.int .i64 2, .int .i64 1, .int .i64 i, .int .i64 t, .int .u8 y, .slice AB nB cB]] w fun e w' => e = .returned (.tuple #[(.slice none 0 0), .int .i64 0]) ∧ At w' B g ps0 (ps1.eraseIdx i) c0 c1 ∧ Below B w w' ∧ Ow w' B (u, x) ∧ Fr5 w w' := by
  obtain ⟨hB, v0, v1, hb, hr0, hr1, hne, how, hap⟩ := id h
  obtain ⟨A0, d0, rfl⟩ := hr0.slice
  obtain ⟨A1, d1, rfl⟩ := hr1.slice
  obtain ⟨⟨q0, q1, q2, q3⟩, z0, z1, z2, z3⟩ := reads_ hb
  obtain ⟨b, rfl, hcell⟩ := hr1.get hp
  have hi := (List.getElem?_eq_some_iff.1 hp).1
  have hmem : (u, x) ∈ ps0 ++ ps1 := by have := List.mem_of_getElem? hp; simp [this]
  have hux := how (u, x) hmem
  obtain ⟨Ap_, cp, hpv, hpc, hpC⟩ := hux.slice
  dsimp only at hpv hpc hpC hcell
  subst hpv
  have g1 : decide ((i : Int) < 0) = false := decide_eq_false (by omega)
  have g2 : decide ((ps1.length : Int) ≤ (i : Int)) = false := decide_eq_false (by omega)
  have g3 : ¬ ps1.length ≤ i := by omega
  have hlen := hr1.max
  have hwi : IntKind.i64.wrap ((i : Int) + 1) = (i : Int) + 1 := by rw [IntKind.wrap_i64]; omega
  clear hp
  have hcx := Below.cell (below_alloc (Below.refl w.heap.size w) (.cells #[.int .i64 2, .int .i64 1, .int .i64 i, .int .i64 t, .int .u8 y, .slice AB nB cB] 52)) (cell_lt hcell)
  rw [hcell] at hcx
  have hbx := blk_alloc hb (.cells #[.int .i64 2, .int .i64 1, .int .i64 i, .int .i64 t, .int .u8 y, .slice AB nB cB] 52)
  have hnx := blk_new w (.cells #[.int .i64 2, .int .i64 1, .int .i64 i, .int .i64 t, .int .u8 y, .slice AB nB cB] 52)
  obtain ⟨⟨q0x, q1x, q2x, q3x⟩, z0x, z1x, z2x, z3x⟩ := reads_ hbx
  go_enter Try.func41, Try.ntmps41
  go_wp2_with (go_at_call 71; refine (end_calls 1 _).mono ?_; rintro e w' ⟨rfl, rfl⟩)
  go_quiet (fail)
  go_wp2_with (fail)
  generalize hq : World.drewN (w.alloc (.cells #[.int .i64 2, .int .i64 1, .int .i64 i, .int .i64 t, .int .u8 y, .slice AB nB cB] 52)) _ = wq
  have hDq : Below w.heap.size w wq := hq ▸ pw_below_drewN (below_alloc (Below.refl _ _) _) _
  have hxq : wq.heap[w.heap.size]? = some (.cells #[.int .i64 2, .int .i64 1, .int .i64 i, .int .i64 t, .int .u8 y, .slice AB nB cB] 52) := hq ▸ hnx
  clear hq hcx hbx hnx q0x q1x q2x q3x z0x z1x z2x z3x
  have hglt := blk_lt hb
  have hDd : Below w.heap.size w wq.drew := below_drew hDq
  have hbd := (hDd.block g hglt).trans hb
  have hxd : wq.drew.heap[w.heap.size]? = some (.cells #[.int .i64 2, .int .i64 1, .int .i64 i, .int .i64 t, .int .u8 y, .slice AB nB cB] 52) := hxq
  have hr0d := hr0.below hDd
  have hr1d := hr1.below hDd
  have howd := fun p hp => (how p hp).below hDd
  have hBd : B ≤ wq.drew.heap.size := Nat.le_trans (Nat.le_trans hB (Nat.le_of_lt hglt)) hDd.size
  have hF5 := Fr5.below hDd
  have hglt' : g < w.heap.size := hglt
  generalize w.heap.size = gx at *
  refine start_ (n := 14) (S := fun w' => w'.cell? ⟨gx, 1, none⟩ = some (.int .i64 1) ∧ w'.cell? ⟨gx, 2, none⟩ = some (.int .i64 (i : Int))) (ds := [13]) #[false, false, false, false, false, false, false, false, false, false, false, false, false, false] (by kernel_rfl) rfl rfl ⟨(blk_cell hxd 1), (blk_cell hxd 2)⟩ (fun hHeld => ?_)
  generalize wq.drew = wd at hbd hxd hr0d hr1d howd hBd hDd hF5 hHeld ⊢
  refine pure_ (i := 0) (N := some 78) (v := ?_) (a' := ?_) #[true, false, false, false, false, false, false, false, false, false, false, false, false, false] rfl rfl (by kernel_rfl) (fun _ _ _ h => h) (Or.inl ⟨by rfl, ?_⟩) ?_ ?_
  rotate_left
  · intro w'
    go_simp
    with_reducible rfl
  rotate_left
  · simp only [Act.put, List.setIfInBounds_toArray, List.set_cons_zero, List.set_cons_succ, i64_w, i32_w]
    rfl
  refine pure_ (i := 1) (N := some 79) (v := ?_) (a' := ?_) #[true, true, false, false, false, false, false, false, false, false, false, false, false, false] rfl rfl (by kernel_rfl) (fun _ _ _ h => h) (Or.inl ⟨by rfl, ?_⟩) ?_ ?_
  rotate_left
  · intro w'
    go_simp
    with_reducible rfl
  rotate_left
  · simp only [Act.put, List.setIfInBounds_toArray, List.set_cons_zero, List.set_cons_succ, i64_w, i32_w]
    rfl
  refine pure_ (i := 3) (N := some 81) (v := ?_) (a' := ?_) #[true, true, false, true, false, false, false, false, false, false, false, false, false, false] rfl rfl (by kernel_rfl) (fun _ _ _ h => h) (Or.inl ⟨by rfl, ?_⟩) ?_ ?_
  rotate_left
  · intro w'
    go_simp
    with_reducible rfl
  rotate_left
  · simp only [Act.put, List.setIfInBounds_toArray, List.set_cons_zero, List.set_cons_succ, i64_w, i32_w]
    rfl
  refine pure_ (i := 4) (N := some 82) (v := ?_) (a' := ?_) #[true, true, false, true, true, false, false, false, false, false, false, false, false, false] rfl rfl (by kernel_rfl) (fun _ _ _ h => h) (Or.inl ⟨by rfl, ?_⟩) ?_ ?_
  rotate_left
  · intro w'
    go_simp
    with_reducible rfl
  rotate_left
  · simp only [Act.put, List.setIfInBounds_toArray, List.set_cons_zero, List.set_cons_succ, i64_w, i32_w]
    rfl
  refine pure_ (i := 6) (N := some 84) (v := ?_) (a' := ?_) #[true, true, false, true, true, false, true, false, false, false, false, false, false, false] rfl rfl (by kernel_rfl) (fun _ _ _ h => h) (Or.inl ⟨by rfl, ?_⟩) ?_ ?_
  rotate_left
  · intro w'
    go_simp
    with_reducible rfl
  rotate_left
  · simp only [Act.put, List.setIfInBounds_toArray, List.set_cons_zero, List.set_cons_succ, i64_w, i32_w]
    rfl
  refine pure_ (i := 10) (N := some 88) (v := ?_) (a' := ?_) #[true, true, false, true, true, false, true, false, false, false, true, false, false, false] rfl rfl (by kernel_rfl) (fun _ _ _ h => h) (Or.inl ⟨by rfl, ?_⟩) ?_ ?_
  rotate_left
  · intro w'
    go_simp
    with_reducible rfl
  rotate_left
  · simp only [Act.put, List.setIfInBounds_toArray, List.set_cons_zero, List.set_cons_succ, i64_w, i32_w]
    rfl
  refine pure_ (i := 11) (N := some 89) (v := ?_) (a' := ?_) #[true, true, false, true, true, false, true, false, false, false, true, true, false, false] rfl rfl (by kernel_rfl) (fun _ _ _ h => h) (Or.inl ⟨by rfl, ?_⟩) ?_ ?_
  rotate_left
  · intro w'
    go_simp
    with_reducible rfl
  rotate_left
  · simp only [Act.put, List.setIfInBounds_toArray, List.set_cons_zero, List.set_cons_succ, i64_w, i32_w]
    rfl
  refine take_ (i := 2) (N := some 80) (v := ?_) (a' := ?_) #[true, true, true, true, true, false, true, false, false, false, true, true, false, false] rfl rfl (by kernel_rfl) (fun _ _ _ h => h) (Or.inl ⟨by rfl, ?_⟩) hHeld ?_ ?_
  rotate_left
  · rintro w' ⟨s0, s1⟩
    go_simp
    with_reducible rfl
  rotate_left
  · simp only [Act.put, List.setIfInBounds_toArray, List.set_cons_zero, List.set_cons_succ, i64_w, i32_w]
    rfl
  refine take_ (i := 5) (N := some 83) (v := ?_) (a' := ?_) #[true, true, true, true, true, true, true, false, false, false, true, true, false, false] rfl rfl (by kernel_rfl) (fun _ _ _ h => h) (Or.inl ⟨by rfl, ?_⟩) hHeld ?_ ?_
  rotate_left
  · rintro w' ⟨s0, s1⟩
    go_simp
    with_reducible rfl
  rotate_left
  · simp only [Act.put, List.setIfInBounds_toArray, List.set_cons_zero, List.set_cons_succ, i64_w, i32_w]
    rfl
  refine take_ (i := 7) (N := some 85) (v := ?_) (a' := ?_) #[true, true, true, true, true, true, true, true, false, false, true, true, false, false] rfl rfl (by kernel_rfl) (fun _ _ _ h => h) (Or.inl ⟨by rfl, ?_⟩) hHeld ?_ ?_
  rotate_left
  · rintro w' ⟨s0, s1⟩
    go_simp
    with_reducible rfl
  rotate_left
  · simp only [Act.put, List.setIfInBounds_toArray, List.set_cons_zero, List.set_cons_succ, i64_w, i32_w]
    rfl
  refine pure_ (i := 8) (N := some 86) (v := ?_) (a' := ?_) #[true, true, true, true, true, true, true, true, true, false, true, true, false, false] rfl rfl (by kernel_rfl) (fun _ _ _ h => h) (Or.inl ⟨by rfl, ?_⟩) ?_ ?_
  rotate_left
  · intro w'
    go_simp
    with_reducible rfl
  rotate_left
  · simp only [Act.put, List.setIfInBounds_toArray, List.set_cons_zero, List.set_cons_succ, i64_w, i32_w]
    rfl
  refine one_ (i := 9) (N := some 87) #[true, true, true, true, true, true, true, true, true, true, true, true, false, false] rfl rfl (by kernel_rfl) (by decide) (fun K hK => ?_)
  have hrawd : (Kd.raw 1).R 24 wd B (fun _ => True) (.slice (some ⟨b, 0, none⟩) ps1.length d1) (ps1.map fun p : Value × List Int => [p.1]) := hr1d
  refine goes_ Try.func73 (by kernel_rfl) rfl #[.slice (some ⟨b, 0, none⟩) ps1.length d1, .int .i64 i, .int .i64 ((i : Int) + 1)] (by rfl) rfl rfl (by simp only [List.map_toArray, List.map_cons, List.map_nil]; rfl) ?_
  with_reducible refine (Del B b ps1.length d1 i (ps1.map fun p : Value × List Int => [p.1]) wd hrawd hi hBd).mono ?_
  rintro e w3 ⟨rfl, hr3, hg3⟩
  have hgne : some g ≠ some b := fun he => by obtain ⟨_, _, cs, hcs⟩ := hr1d.typed (b := b) rfl; injection he with he; exact cells_ne hcs hbd (by decide) he.symm
  have hxne : some gx ≠ some b := fun he => by obtain ⟨_, _, cs, hcs⟩ := hr1d.typed (b := b) rfl; injection he with he; exact cells_ne hcs hxd (by decide) he.symm
  have hbg4 := (hg3.block g (blk_lt hbd) hgne).trans hbd
  have hx4 := (hg3.block gx (blk_lt hxd) hxne).trans hxd
  obtain ⟨⟨y0, y1, y2, y3⟩, x0, x1, x2, x3⟩ := reads_ hbg4
  refine ⟨_, rfl, ?_⟩
  refine hK.out _ _ ⟨(blk_cell hx4 1), (blk_cell hx4 2)⟩ (fun hHeld => ?_)
  clear hK K
  refine norm_ (a' := ?_) ?_ ?_
  rotate_left
  · show Act.put _ (some 87) _ = _
    simp only [Act.put, List.setIfInBounds_toArray, List.set_cons_zero, List.set_cons_succ, i64_w, i32_w]
    rfl
  refine pure_ (i := 12) (N := some 90) (v := ?_) (a' := ?_) #[true, true, true, true, true, true, true, true, true, true, true, true, true, false] rfl rfl (by kernel_rfl) (fun _ _ _ h => h) (Or.inl ⟨by rfl, ?_⟩) ?_ ?_
  rotate_left
  · intro w'
    go_simp
    with_reducible rfl
  rotate_left
  · simp only [Act.put, List.setIfInBounds_toArray, List.set_cons_zero, List.set_cons_succ, i64_w, i32_w]
    rfl
  refine last_ (i := 13) (N := none) #[true, true, true, true, true, true, true, true, true, true, true, true, true, true] rfl rfl (by kernel_rfl) (by decide) (fun K hK => ?_)
  refine skip_ (w1 := ?_) (by rfl) rfl ?_ ?_
  rotate_left
  · go_simp
    rfl
  refine hK.out _ _ ?_
  clear hK K
  refine done_ (by kernel_rfl) ?_

  have p0 := blk_cell hx4 0
  have hgxg : gx ≠ g := Nat.ne_of_gt hglt'
  have hggx : g ≠ gx := Nat.ne_of_lt hglt'
  go_wp2_with (fail)
  go_ret2
  have hbB := (hr1d.typed (b := b) rfl).2.1
  have hD3 : Below B w w3 := (hDd.mono (Nat.le_trans hB (Nat.le_of_lt hglt'))).grown hg3 hBd (fun j hj => by injection hj with hj; omega)
  have how3 : ∀ p ∈ ps0 ++ ps1, Ow w3 B p := fun p hp => (howd p hp).grown hr1d hg3
  have hro3 := hr0d.grown (v' := .slice (some ⟨b, 0, none⟩) ps1.length d1) hg3 (fun b h1 h2 => hne b h2 h1)
  have hrk3 : Rr w3 B (.slice (some ⟨b, 0, none⟩) (ps1.length - 1) d1) (ps1.eraseIdx i) := by unfold Rr; rw [← map_erase]; exact hr3
  have hK : KeepBut w3 (w3.setCell ⟨g, 1, none⟩ (.slice (some ⟨b, 0, none⟩) (ps1.length - 1) d1)) g none := (KeepBut.refl _ _ _).set_ 1 _
  exact ⟨rfl, ⟨hB, _, _, blk_put hbg4 1 (.slice (some ⟨b, 0, none⟩) (ps1.length - 1) d1) rfl, hro3.keep hbg4 hK, hrk3.keep hbg4 hK, hne, fun p hp => (how3 p (mem_erase.2 hp)).keep hbg4 hK, (erase0 hap i).2⟩, hD3.setCell hB _, (how3 _ hmem).keep hbg4 hK, (hF5.trans (Fr5.grown hr1d hg3)).trans (Fr5.set hbg4 _)⟩
end Go.Proofs.Ytlaojndlelcdaaa.Nets
