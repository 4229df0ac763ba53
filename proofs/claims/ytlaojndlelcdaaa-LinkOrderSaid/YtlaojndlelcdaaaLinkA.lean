/- The link of the program, walked: what each of its methods hands back, and how it leaves the link. No condition but what it is called with. -/
import Derived.Test.YtlaojndlelcdaaaPx1
import Derived.Test.YtlaojndlelcdaaaPx15
namespace Go.Proofs.Ytlaojndlelcdaaa.Links
open Go.RowKit Go.Proofs.Ytlaojndlelcdaaa.P Go.Proofs.YtlaojndlelcdaaaW.PrintWords Go.Proofs.YtlaojndlelcdaaaW.PrintLast Go.Proofs.YtlaojndlelcdaaaW.PrintMore

/-- What a link holds. -/
structure L where
  said : Int
  heard : Int
  wait : List Int
  busy : Bool
  tries : Int
  lost : Bool

/-- Block g holds a link that says s. -/
def At (W : World) (g : Nat) (s : L) : Prop :=
  ∃ v base, W.heap[g]? = some (.cells #[.int .u64 s.said, .int .u64 s.heard, v, .bool s.busy, .int .i64 s.tries, .bool s.lost] 113 (0, 0)) ∧ Kd.R (Kd.int .u8) 5 W base (fun _ => True) v s.wait

theorem At.lt {W : World} {g : Nat} {s : L} (h : At W g s) : g < W.heap.size := by
  obtain ⟨v, base, hb, _⟩ := h; exact blk_lt hb
theorem At.below {W W1 : World} {g : Nat} {s : L} (h : At W g s) (hb : Below W.heap.size W W1) : At W1 g s := by
  obtain ⟨v, base, h1, h2⟩ := h
  exact ⟨v, base, (hb.block g (blk_lt h1)).trans h1, Kd.R_below h2 hb⟩
/-- Another link's calls leave it. -/
theorem At.keep {W W1 : World} {g g' : Nat} {s s' : L} (h : At W g s) (h' : At W g' s') (hne : g ≠ g') (hk : KeepBut W W1 g' none) : At W1 g s := by
  obtain ⟨v, base, h1, h2⟩ := h
  obtain ⟨_, _, h3, _⟩ := h'
  exact ⟨v, base, (hk.2 g (blk_lt h1) hne (by simp)).trans h1, Kd.R_mono (Kd.R_keep (ok := fun k => True ∧ k ≠ g') (Kd.R_types h2 h3 (by decide)) hk (fun k hk => hk.2)) (fun _ _ => trivial)⟩

theorem At.alloc {W : World} {g : Nat} {s : L} (h : At W g s) (o : Obj) : At (W.alloc o) g s := h.below (below_alloc (Below.refl _ _) o)
theorem At.drewN {W : World} {g : Nat} {s : L} (h : At W g s) (m : Nat) : At (W.drewN m) g s := h
/-- Behind a call at the link in block g all else that was there is as it was. -/
def Near (w w' : World) (g : Nat) : Prop := KeepBut w w' g none ∧ Below 0 w w'
theorem Near.refl (w : World) (g : Nat) : Near w w g := ⟨KeepBut.refl _ _ _, Below.refl _ _⟩
theorem Near.of_below {w w1 : World} (h : Below w.heap.size w w1) (g : Nat) : Near w w1 g := ⟨KeepBut.of_below h g none, h.mono (Nat.zero_le _)⟩
theorem Near.set_ {w w1 : World} {g : Nat} (h : Near w w1 g) (j : Nat) (u : Value) : Near w (w1.setCell ⟨g, j, none⟩ u) g := ⟨h.1.set_ j u, h.2.setCell (Nat.zero_le _) _⟩
theorem Near.trans {w w1 w2 : World} {g : Nat} (h : Near w w1 g) (k : Near w1 w2 g) : Near w w2 g := ⟨h.1.trans k.1 (.inl rfl), h.2.trans k.2⟩
theorem Near.drewN {w w1 : World} {g : Nat} (h : Near w w1 g) (m : Nat) : Near w (w1.drewN m) g := h.trans (Near.of_below (pw_below_drewN (Below.refl _ _) m) g)
theorem Near.size {w w1 : World} {g : Nat} (h : Near w w1 g) : w.heap.size ≤ w1.heap.size := h.1.1
theorem Near.below {w w1 : World} {g B : Nat} (h : Near w w1 g) (hB : B ≤ w.heap.size) (hg : B ≤ g) : Below B w w1 := ⟨h.2.os, h.2.tape, h.2.output, h.2.size, fun k hk => h.1.2 k (by omega) (by omega) (by simp)⟩
theorem New_calls (w : World) : Calls Try.prog 58 #[] w fun e w' => e = .returned (.pointer (some ⟨w.heap.size, 0, none⟩)) ∧ At w' w.heap.size ⟨0, 0, [], false, 0, false⟩ ∧ Below w.heap.size w w' := by
  go_enter Try.func58, Try.ntmps58
  go_wp2
  go_ret
  refine ⟨rfl, ⟨.slice none 0 0, 0, ?_, Kd.R_nil _ _ _ _ _⟩, ?_⟩
  · exact blk_new _ _
  · exact below_alloc (Below.refl _ _) _

theorem Busy_calls (g : Nat) (s : L) (w : World) (h : At w g s) : Calls Try.prog 62 #[.pointer (some ⟨g, 0, none⟩)] w fun e w' => e = .returned (.bool s.busy) ∧ w' = w := by
  obtain ⟨v, base, hb, hR⟩ := h
  have c3 : w.cell? ⟨g, 3, none⟩ = some (.bool s.busy) := by simp [World.cell?, hb]
  go_enter Try.func62, Try.ntmps62
  go_wp2
  go_ret
  exact ⟨rfl, rfl⟩
theorem Lost_calls (g : Nat) (s : L) (w : World) (h : At w g s) : Calls Try.prog 63 #[.pointer (some ⟨g, 0, none⟩)] w fun e w' => e = .returned (.bool s.lost) ∧ w' = w := by
  obtain ⟨v, base, hb, hR⟩ := h
  have c3 : w.cell? ⟨g, 5, none⟩ = some (.bool s.lost) := by simp [World.cell?, hb]
  go_enter Try.func63, Try.ntmps63
  go_wp2
  go_ret
  exact ⟨rfl, rfl⟩
theorem Tries_calls (g : Nat) (s : L) (w : World) (h : At w g s) : Calls Try.prog 64 #[.pointer (some ⟨g, 0, none⟩)] w fun e w' => e = .returned (.int .i64 s.tries) ∧ w' = w := by
  obtain ⟨v, base, hb, hR⟩ := h
  have c3 : w.cell? ⟨g, 4, none⟩ = some (.int .i64 s.tries) := by simp [World.cell?, hb]
  go_enter Try.func64, Try.ntmps64
  go_wp2
  go_ret
  exact ⟨rfl, rfl⟩

/-- What is read of a link's block. -/
theorem reads_ {W : World} {g : Nat} {a0 a1 a2 a3 a4 a5 : Value} (hb : W.heap[g]? = some (.cells #[a0, a1, a2, a3, a4, a5] 113 (0, 0))) :
    W.cell? ⟨g, 0, none⟩ = some a0 ∧ W.cell? ⟨g, 1, none⟩ = some a1 ∧ W.cell? ⟨g, 2, none⟩ = some a2 ∧ W.cell? ⟨g, 3, none⟩ = some a3 ∧ W.cell? ⟨g, 4, none⟩ = some a4 ∧ W.cell? ⟨g, 5, none⟩ = some a5 ∧
    W.frozen? ⟨g, 0, none⟩ = false ∧ W.frozen? ⟨g, 1, none⟩ = false ∧ W.frozen? ⟨g, 2, none⟩ = false ∧ W.frozen? ⟨g, 3, none⟩ = false ∧ W.frozen? ⟨g, 4, none⟩ = false ∧ W.frozen? ⟨g, 5, none⟩ = false := by
  refine ⟨blk_cell hb 0, blk_cell hb 1, blk_cell hb 2, blk_cell hb 3, blk_cell hb 4, blk_cell hb 5, ?_, ?_, ?_, ?_, ?_, ?_⟩ <;> simp [World.frozen?, hb]

/-- What Say answers: the link behind it, the bytes, the error. None where a frame is too long. -/
def say (k : Nat) (s : L) (b : List Int) : Option (L × List Int × Int) :=
  if s.lost = true then some (s, [], 12) else
  if (b.length : Int) > 131072 then some (s, [], 9) else
  if s.busy = true then some (s, [], 1) else
  (frame_Put.f k false (IntKind.u64.wrap (s.said + 1)) b).bind fun r => if r.length < 140737488355328 then some (⟨IntKind.u64.wrap (s.said + 1), s.heard, r, true, 1, s.lost⟩, r, 0) else none

theorem Say_calls (k : Nat) (g : Nat) (s s' : L) (A0 : Option Addr) (c0 : Nat) (l0 r : List Int) (e : Int) (w : World) (h : At w g s) (hr : Kd.C (Kd.int .u8) w A0 l0.length l0) (hc : l0.length ≤ c0) (hne : ∀ a, A0 = some a → 0 < l0.length → a.block ≠ g) (hf : say k s l0 = some (s', r, e)) :
    Calls Try.prog 59 #[.pointer (some ⟨g, 0, none⟩), .slice A0 l0.length c0] w fun e' w' => ∃ v, e' = .returned (.tuple #[v, .int .i64 e]) ∧ Kd.R (Kd.int .u8) 5 w' w.heap.size (fun _ => True) v r ∧ At w' g s' ∧ Near w w' g := by
  have h' := h
  obtain ⟨v, base, hb, hR⟩ := h
  obtain ⟨c0_, c1_, c2_, c3_, c4_, c5_, z0_, z1_, z2_, z3_, z4_, z5_⟩ := reads_ hb
  unfold say at hf
  by_cases hl : s.lost = true
  · rw [if_pos hl] at hf
    simp only [Option.some.injEq, Prod.mk.injEq] at hf
    obtain ⟨rfl, rfl, rfl⟩ := hf
    rw [hl] at c5_
    go_enter Try.func59, Try.ntmps59
    go_wp2
    go_ret2
    exact ⟨_, rfl, Kd.R_nil _ _ _ _ _, h', Near.refl _ _⟩
  · rw [if_neg hl] at hf
    have hl' : s.lost = false := by simpa using hl
    rw [hl'] at c5_
    by_cases h9 : (l0.length : Int) > 131072
    · rw [if_pos h9] at hf
      simp only [Option.some.injEq, Prod.mk.injEq] at hf
      obtain ⟨rfl, rfl, rfl⟩ := hf
      have h9b : decide ((131072 : Int) < (l0.length : Int)) = true := decide_eq_true h9
      go_enter Try.func59, Try.ntmps59
      go_wp2
      go_ret2
      exact ⟨_, rfl, Kd.R_nil _ _ _ _ _, h', Near.refl _ _⟩
    · rw [if_neg h9] at hf
      have h9b : decide ((131072 : Int) < (l0.length : Int)) = false := decide_eq_false h9
      by_cases h1 : s.busy = true
      · rw [if_pos h1] at hf
        simp only [Option.some.injEq, Prod.mk.injEq] at hf
        obtain ⟨rfl, rfl, rfl⟩ := hf
        have hB := Busy_calls g s w h'
        rw [h1] at hB
        go_enter Try.func59, Try.ntmps59
        go_wp2_with (go_at_call 62; refine hB.mono ?_; rintro e w' ⟨rfl, rfl⟩)
        go_ret2
        exact ⟨_, rfl, Kd.R_nil _ _ _ _ _, h', Near.refl _ _⟩
      · rw [if_neg h1] at hf
        have h1' : s.busy = false := by simpa using h1
        have hB := Busy_calls g s w h'
        rw [h1'] at hB
        obtain ⟨r', hp, hf⟩ := Option.bind_eq_some_iff.1 hf
        by_cases hm : r'.length < 140737488355328
        · rw [if_pos hm] at hf
          simp only [Option.some.injEq, Prod.mk.injEq] at hf
          obtain ⟨rfl, rfl, rfl⟩ := hf
          go_enter Try.func59, Try.ntmps59
          have hb1 := blk_put hb 0 (.int .u64 (IntKind.u64.wrap (s.said + 1))) rfl
          have hK1 := (Near.refl w g).set_ 0 (.int .u64 (IntKind.u64.wrap (s.said + 1)))
          go_wp2_with (first
            | (go_at_call 62; refine hB.mono ?_; rintro e w' ⟨rfl, rfl⟩)
            | (go_at_call 50; refine (frame_Put.calls k false (IntKind.u64.wrap (s.said + 1)) A0 c0 l0 r' _ (Kd.C_keep 0 hr hK1.1 hne) hc hp).mono ?_; rintro e w2 ⟨v2, rfl, ho, hbel⟩; obtain ⟨A2, c2, rfl, hc2, hC2⟩ := Kd.R_reads ho; have hb2 := blk_below hb1 hbel; obtain ⟨d0_, d1_, d2_, d3_, d4_, d5_, y0_, y1_, y2_, y3_, y4_, y5_⟩ := reads_ hb2; have hb5 := blk_put (blk_put (blk_put hb2 2 (.slice A2 r'.length c2) rfl) 3 (.bool true) rfl) 4 (.int .i64 1) rfl; have hK5 := (((Near.refl w2 g).set_ 2 (.slice A2 r'.length c2)).set_ 3 (.bool true)).set_ 4 (.int .i64 1); have hR5 := Kd.R_keep (Kd.R_types ho hb2 (by decide)) hK5.1 (fun k hk => hk.2); obtain ⟨_, _, hC5⟩ := Kd.R_reads' hR5)
            | (go_at_call 68; refine (bytes_Clone.calls A2 c2 r' r' _ hC5 hc2 (by simp [bytes_Clone.f, hm])).mono ?_; rintro e w6 ⟨v6, rfl, ho6, hbel6⟩))
          go_ret2
          have hK := (hK1.trans (Near.of_below hbel g)).trans hK5
          refine ⟨_, rfl, Kd.R_lower ho6 hK.size, ⟨_, _, blk_below hb5 hbel6, Kd.R_mono (Kd.R_below hR5 hbel6) (fun _ _ => trivial)⟩, hK.trans (Near.of_below hbel6 g)⟩
        · rw [if_neg hm] at hf
          simp at hf
end Go.Proofs.Ytlaojndlelcdaaa.Links
