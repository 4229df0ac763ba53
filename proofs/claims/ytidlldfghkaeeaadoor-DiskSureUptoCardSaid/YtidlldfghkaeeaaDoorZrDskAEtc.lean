/- Put together by pack2.py: DskA, DskB, DskP -/
import Derived.Test.YtidlldfghkaeeaaDoorZrPfTreeKidsEtc
import Derived.Test.YtidlldfghkaeeaaDoorZrTreeMovPEtc
import Derived.Test.YtidlldfghkaeeaaDoorZrPfDiskDoneEtc
import Derived.Test.YtidlldfghkaeeaaDoorZrW0
section
namespace Go.Proofs.YtidlldfghkaeeaaDoor.P
open Go.RowKit Go.Proofs.YtidlldfghkaeeaaDoorW.PrintWords Go.Proofs.YtidlldfghkaeeaaDoorW.PrintLast Go.Proofs.YtidlldfghkaeeaaDoorW.PrintMore
set_option linter.unusedVariables false
set_option linter.unusedSimpArgs false
/-- What a disk holds. -/
structure Dk where
  q : Int
  now : List S30
  last : List S30
  waits : List S61
  off : Bool
  count : Int
  fuse : Int
  keep : List Int
  torn : Int
/-- A disk's block, and what it leads to: all of it behind B. -/
structure At (W : World) (B g : Nat) (s : Dk) (vn vl vw vk : Value) : Prop where
  hg : W.heap[g]? = some (.cells #[.int .i64 s.q, vn, vl, vw, .bool s.off, .int .i64 s.count, .int .i64 s.fuse, vk, .int .i64 s.torn] 101 (0, 0))
  hB : B ≤ g
  n : Kd.V k30 30 W 0 (fun k => B ≤ k ∧ k ≠ g ∧ some k ≠ vw.ownBlock) vn s.now
  l : Kd.V k30 30 W 0 (fun k => B ≤ k ∧ k ≠ g ∧ some k ≠ vw.ownBlock) vl s.last
  w : Kd.N k61 61 W B (fun k => B ≤ k ∧ k ≠ g) vw s.waits
  k : Kd.V (Kd.int .i64) 3 W 0 (fun k => B ≤ k ∧ k ≠ g ∧ some k ≠ vw.ownBlock) vk s.keep
section
variable {W W' : World} {B g : Nat} {s : Dk} {vn vl vw vk : Value}
theorem At.below (h : At W B g s vn vl vw vk) (hb : Below W.heap.size W W') : At W' B g s vn vl vw vk :=
  ⟨(hb.block _ (blk_lt h.hg)).trans h.hg, h.hB, Kd.V_below h.n hb, Kd.V_below h.l hb, Kd.N_below h.w hb, Kd.V_below h.k hb⟩
theorem At.cells (h : At W B g s vn vl vw vk) : W.cell? ⟨g, 0, none⟩ = some (.int .i64 s.q) ∧ W.cell? ⟨g, 1, none⟩ = some vn ∧ W.cell? ⟨g, 2, none⟩ = some vl ∧ W.cell? ⟨g, 3, none⟩ = some vw ∧ W.cell? ⟨g, 4, none⟩ = some (.bool s.off) ∧ W.cell? ⟨g, 5, none⟩ = some (.int .i64 s.count) ∧ W.cell? ⟨g, 6, none⟩ = some (.int .i64 s.fuse) ∧ W.cell? ⟨g, 7, none⟩ = some vk ∧ W.cell? ⟨g, 8, none⟩ = some (.int .i64 s.torn) :=
  ⟨blk_cell h.hg 0, blk_cell h.hg 1, blk_cell h.hg 2, blk_cell h.hg 3, blk_cell h.hg 4, blk_cell h.hg 5, blk_cell h.hg 6, blk_cell h.hg 7, blk_cell h.hg 8⟩
theorem At.frozen (h : At W B g s vn vl vw vk) (i : Nat) : W.frozen? ⟨g, i, none⟩ = false := blk_frozen h.hg i
end
theorem V_nil30 (W : World) (ok : Nat → Prop) (B : Nat) : Kd.V k30 30 W B ok (.slice none 0 0) [] := Kd.N_V (Kd.N_nil k30 _ W B ok)
theorem okT_nil : okT ([] : List S30) := by decide
theorem GT_nil30 : GT30 ([] : List S30) := GT_nil
theorem copied_nil (w : World) : Calls Tryd.prog 78 #[.agg #[.slice none 0 0]] w fun e w' => ∃ A c, e = .returned (.agg #[.slice A 0 c]) ∧ Kd.V k30 30 w' 0 (fun k => w.heap.size ≤ k) (.slice A 0 c) [] ∧ Below w.heap.size w w' := by
  refine (copied_calls (fun _ => False) none 0 [] w (V_nil30 _ _ _) (by simp) (by simp)).mono ?_
  rintro e w' ⟨v, h1, h2, h3⟩
  obtain ⟨A, c, rfl, h4⟩ := h2
  exact ⟨A, c, h1, Kd.V_mono ⟨A, c, rfl, h4⟩ (fun k hk => hk.elim (fun h => h.elim) id), h3⟩
set_option maxHeartbeats 8000000 in
set_option maxRecDepth 100000 in
theorem New_calls (q : Int) (w : World) (hq : 0 ≤ q ∧ q ≤ 16384) :
    Calls Tryd.prog 32 #[.agg #[.slice none 0 0], .int .i64 q] w fun e w' => ∃ g vn vl, e = .returned (.tuple #[.pointer (some ⟨g, 0, none⟩), .int .i64 0]) ∧ At w' w.heap.size g ⟨q, [], [], [], false, 0, 0, [], 0⟩ vn vl (.slice none 0 0) (.slice none 0 0) ∧ Below w.heap.size w w' := by
  have hu26 := Tryd.underlying26
  have hu101 := Tryd.underlying101
  have hge := tree_Good.eq okT_nil
  rw [decide_eq_true GT_nil30] at hge
  have k2 := blk_new w (.cells #[.slice none 0 0] 26)
  have b0 := below_alloc (Below.refl w.heap.size w) (.cells #[.slice none 0 0] 26)
  have m20 := blk_cell k2 0
  have HQ := Aside0.mk hq
  clear hq
  go_enter Tryd.func32, Tryd.ntmps32
  go_wp2_with (fail)
  refine (tree_Good.calls none 0 [] true _ (Kd.V_reads' (V_nil30 _ (fun _ => True) 0)).2.2 (Nat.le_refl _) hge).mono ?_
  rintro e W1 ⟨rfl, hb1⟩
  have k21 := (hb1.block _ (blk_lt k2)).trans k2
  have b1 := b0.trans (hb1.mono b0.size)
  clear m20 k2 b0 hb1 hge
  have m20 := blk_cell k21 0
  dsimp only
  have p1 : decide (q < 0) = false := decide_eq_false (by have := HQ.out; omega)
  have p2 : decide (16384 < q) = false := decide_eq_false (by have := HQ.out; omega)
  go_wp2_with (fail)
  have md : W1.drew.cell? ⟨w.heap.size, 0, none⟩ = some (.slice none 0 0) := m20
  have bd : Below w.heap.size w W1.drew := below_drew b1
  clear m20 k21 b1
  refine start_ (n := 9) (S := fun w' => w'.cell? ⟨w.heap.size, 0, none⟩ = some (.slice none 0 0)) (ds := []) #[false, false, false, false, false, false, false, false, false] (by kernel_rfl) rfl rfl (md) (fun hHeld => ?_)
  generalize W1.drew = wd at md bd hHeld ⊢
  refine pure_ (i := 0) (N := some 17) (v := ?_) (a' := ?_) #[true, false, false, false, false, false, false, false, false] rfl rfl (by kernel_rfl) (fun _ _ _ h => h) (Or.inl ⟨by rfl, ?_⟩) ?_ ?_
  rotate_left
  · intro w'
    go_simp
    with_reducible rfl
  rotate_left
  · simp only [Act.put, List.setIfInBounds_toArray, List.set_cons_zero, List.set_cons_succ, i64_w, i32_w]
    rfl
  refine take_ (i := 1) (N := some 18) (v := ?_) (a' := ?_) #[true, true, false, false, false, false, false, false, false] rfl rfl (by kernel_rfl) (fun _ _ _ h => h) (Or.inl ⟨by rfl, ?_⟩) hHeld ?_ ?_
  rotate_left
  · intro w' s0
    go_simp
    with_reducible rfl
  rotate_left
  · simp only [Act.put, List.setIfInBounds_toArray, List.set_cons_zero, List.set_cons_succ, i64_w, i32_w]
    rfl
  refine take_ (i := 3) (N := some 20) (v := ?_) (a' := ?_) #[true, true, false, true, false, false, false, false, false] rfl rfl (by kernel_rfl) (fun _ _ _ h => h) (Or.inl ⟨by rfl, ?_⟩) hHeld ?_ ?_
  rotate_left
  · intro w' s0
    go_simp
    with_reducible rfl
  rotate_left
  · simp only [Act.put, List.setIfInBounds_toArray, List.set_cons_zero, List.set_cons_succ, i64_w, i32_w]
    rfl
  refine one_ (i := 2) (N := some 19) #[true, true, true, true, false, false, false, false, false] rfl rfl (by kernel_rfl) (by decide) (fun K hK => ?_)
  refine goes_ Tryd.func78 (by kernel_rfl) rfl #[.agg #[.slice none 0 0]] (by rfl) rfl rfl (by simp only [List.map_toArray, List.map_cons, List.map_nil]; rfl) ?_
  with_reducible refine (copied_nil wd).mono ?_
  rintro e wA ⟨AA, cA, rfl, hA, hbA⟩
  refine ⟨_, rfl, ?_⟩
  refine hK.out _ _ ((Below.cell hbA (cell_lt2 md)).trans md) (fun hHeld => ?_)
  clear hK K
  refine norm_ (a' := ?_) ?_ ?_
  rotate_left
  · show Act.put _ (some 19) _ = _
    simp only [Act.put, List.setIfInBounds_toArray, List.set_cons_zero, List.set_cons_succ, i64_w, i32_w]
    rfl
  refine one_ (i := 4) (N := some 21) #[true, true, true, true, true, false, false, false, false] rfl rfl (by kernel_rfl) (by decide) (fun K hK => ?_)
  refine goes_ Tryd.func78 (by kernel_rfl) rfl #[.agg #[.slice none 0 0]] (by rfl) rfl rfl (by simp only [List.map_toArray, List.map_cons, List.map_nil]; rfl) ?_
  with_reducible refine (copied_nil wA).mono ?_
  rintro e wB ⟨AB, cB, rfl, hB, hbB⟩
  refine ⟨_, rfl, ?_⟩
  have hbC := hbA.trans (hbB.mono hbA.size)
  refine hK.out _ _ ((Below.cell hbC (cell_lt2 md)).trans md) (fun hHeld => ?_)
  clear hK K
  refine norm_ (a' := ?_) ?_ ?_
  rotate_left
  · show Act.put _ (some 21) _ = _
    simp only [Act.put, List.setIfInBounds_toArray, List.set_cons_zero, List.set_cons_succ, i64_w, i32_w]
    rfl
  refine pure_ (i := 5) (N := some 22) (v := ?_) (a' := ?_) #[true, true, true, true, true, true, false, false, false] rfl rfl (by kernel_rfl) (fun _ _ _ h => h) (Or.inl ⟨by rfl, ?_⟩) ?_ ?_
  rotate_left
  · intro w'
    go_simp
    with_reducible rfl
  rotate_left
  · simp only [Act.put, List.setIfInBounds_toArray, List.set_cons_zero, List.set_cons_succ, i64_w, i32_w]
    rfl
  refine one_ (i := 6) (N := some 23) #[true, true, true, true, true, true, true, false, false] rfl rfl (by kernel_rfl) (by decide) (fun K hK => ?_)
  refine value_ (w1 := ?_) (v := ?_) (by rfl) rfl ?_ ?_
  rotate_left 2
  · go_simp
    constructor
    · rfl
    · rfl
  have hbE := below_alloc hbC (.cells #[.int .i64 q, .slice AA 0 cA, .slice AB 0 cB, .slice none 0 0, .bool false, .int .i64 0, .int .i64 0, .slice none 0 0, .int .i64 0] 101)
  refine hK.out _ _ ((Below.cell hbE (cell_lt2 md)).trans md) (fun hHeld => ?_)
  clear hK K
  refine norm_ (a' := ?_) ?_ ?_
  rotate_left
  · show Act.put _ (some 23) _ = _
    simp only [Act.put, List.setIfInBounds_toArray, List.set_cons_zero, List.set_cons_succ, i64_w, i32_w]
    rfl
  refine pure_ (i := 7) (N := some 4) (v := ?_) (a' := ?_) #[true, true, true, true, true, true, true, true, false] rfl rfl (by kernel_rfl) (fun _ _ _ h => h) (Or.inl ⟨by rfl, ?_⟩) ?_ ?_
  rotate_left
  · intro w'
    go_simp
    with_reducible rfl
  rotate_left
  · simp only [Act.put, List.setIfInBounds_toArray, List.set_cons_zero, List.set_cons_succ, i64_w, i32_w]
    rfl
  refine pure_ (i := 8) (N := some 5) (v := ?_) (a' := ?_) #[true, true, true, true, true, true, true, true, true] rfl rfl (by kernel_rfl) (fun _ _ _ h => h) (Or.inl ⟨by rfl, ?_⟩) ?_ ?_
  rotate_left
  · intro w'
    go_simp
    with_reducible rfl
  rotate_left
  · simp only [Act.put, List.setIfInBounds_toArray, List.set_cons_zero, List.set_cons_succ, i64_w, i32_w]
    rfl
  refine done_ (by kernel_rfl) ?_
  go_wp2_with (fail)
  go_ret2
  have hk := blk_new wB (.cells #[.int .i64 q, .slice AA 0 cA, .slice AB 0 cB, .slice none 0 0, .bool false, .int .i64 0, .int .i64 0, .slice none 0 0, .int .i64 0] 101)
  have hsz := bd.size
  have hsA := hbA.size
  have hsB := hbB.size
  refine ⟨wB.heap.size, .slice AA 0 cA, .slice AB 0 cB, rfl, ⟨hk, by omega, ?_, ?_, Kd.N_nil _ _ _ _ _, Kd.N_V (Kd.N_nil _ _ _ 0 _)⟩, bd.trans (hbE.mono bd.size)⟩
  · refine Kd.V_alloc (Kd.V_mono (Kd.V_bound (Kd.V_below hA hbB)) fun k hk => ⟨?_, ?_, by simp [Value.ownBlock]⟩) _
    · have := hk.1
      omega
    · have := hk.2
      omega
  · refine Kd.V_alloc (Kd.V_mono (Kd.V_bound hB) fun k hk => ⟨?_, ?_, by simp [Value.ownBlock]⟩) _
    · have := hk.1
      omega
    · have := hk.2
      omega
end Go.Proofs.YtidlldfghkaeeaaDoor.P
end
section
namespace Go.Proofs.YtidlldfghkaeeaaDoor.P
open Go.RowKit Go.Proofs.YtidlldfghkaeeaaDoorW.PrintWords Go.Proofs.YtidlldfghkaeeaaDoorW.PrintLast Go.Proofs.YtidlldfghkaeeaaDoorW.PrintMore
set_option linter.unusedVariables false
set_option linter.unusedSimpArgs false
set_option maxHeartbeats 8000000 in
set_option maxRecDepth 100000 in
theorem begin_calls (W : World) (B g : Nat) (s : Dk) (vn vl vw vk : Value) (h : At W B g s vn vl vw vk) (hf : s.fuse ≤ 0) :
    Calls Tryd.prog 79 #[.pointer (some ⟨g, 0, none⟩)] W fun e w' => e = .returned (.bool (!s.off)) ∧ w' = W := by
  have hu101 := Tryd.underlying101
  obtain ⟨c0, c1, c2, c3, c4, c5, c6, c7, c8⟩ := h.cells
  have p1 : decide (0 < s.fuse) = false := decide_eq_false (by omega)
  clear h hf c0 c1 c2 c3 c5 c7 c8
  go_enter Tryd.func79, Tryd.ntmps79
  go_wp2_with (fail)
  go_ret
  exact ⟨rfl, rfl⟩
set_option maxHeartbeats 8000000 in
set_option maxRecDepth 100000 in
theorem Off_calls (W : World) (B g : Nat) (s : Dk) (vn vl vw vk : Value) (h : At W B g s vn vl vw vk) :
    Calls Tryd.prog 61 #[.pointer (some ⟨g, 0, none⟩)] W fun e w' => e = .returned (.bool s.off) ∧ w' = W := by
  have hu101 := Tryd.underlying101
  obtain ⟨c0, c1, c2, c3, c4, c5, c6, c7, c8⟩ := h.cells
  clear h c0 c1 c2 c3 c5 c6 c7 c8
  go_enter Tryd.func61, Tryd.ntmps61
  go_wp2_with (fail)
  go_ret
  exact ⟨rfl, rfl⟩
/-- A list of entries that is not too large. -/
def okC (l : List S30) : Prop := l.length ≤ 100000 ∧ ∀ x ∈ l, x.f2.length ≤ 1000000000000
theorem GT_okC {l : List S30} (h : GT30 l) : okC l := ⟨by have := h.1; omega, fun x hx => by have := (h.2.2.2 x hx).2.2.1; omega⟩
set_option maxHeartbeats 8000000 in
set_option maxRecDepth 100000 in
theorem Now_calls (W : World) (B g : Nat) (s : Dk) (vn vl vw vk : Value) (h : At W B g s vn vl vw vk) (hc : okC s.now) :
    Calls Tryd.prog 35 #[.pointer (some ⟨g, 0, none⟩)] W fun e w' => ∃ v, e = .returned (.agg #[v]) ∧ Kd.V k30 30 w' 0 (fun k => (B ≤ k ∧ k ≠ g ∧ some k ≠ vw.ownBlock) ∨ W.heap.size ≤ k) v s.now ∧ Below W.heap.size W w' := by
  have hu101 := Tryd.underlying101
  have hu26 := Tryd.underlying26
  have hb0 := below_alloc (Below.refl W.heap.size W) (.cells #[.slice none 0 0] 26)
  have hs1 : (W.alloc (.cells #[.slice none 0 0] 26)).heap.size = W.heap.size + 1 := World.size_alloc _ _
  have k2 := blk_new W (.cells #[.slice none 0 0] 26)
  have h1 := h.below hb0
  have hn0 := Kd.V_bound (show Kd.V k30 30 W 0 _ vn s.now from h.n)
  obtain ⟨A, c, rfl, hn'⟩ := hn0
  obtain ⟨c0, c1, c2, c3, c4, c5, c6, c7, c8⟩ := h1.cells
  have HN := Aside0.mk (Kd.V_below (show Kd.V k30 30 W 0 (fun k => (B ≤ k ∧ k ≠ g ∧ some k ≠ vw.ownBlock) ∧ k < W.heap.size) (.slice A s.now.length c) s.now from ⟨A, c, rfl, hn'⟩) hb0)
  clear h h1 c0 c2 c3 c4 c5 c6 c7 c8 hn'
  go_enter Tryd.func35, Tryd.ntmps35
  go_wp2_with (fail)
  generalize W.alloc (.cells #[.slice none 0 0] 26) = W1 at *
  refine (copied_calls (fun k => (B ≤ k ∧ k ≠ g ∧ some k ≠ vw.ownBlock) ∧ k < W.heap.size) A c s.now W1 HN.out hc.1 hc.2).mono ?_
  rintro e W2 ⟨v2, rfl, hv2, hb2⟩
  obtain ⟨A2, d2, rfl, hv2'⟩ := hv2
  have HV := Aside0.mk (show Kd.V k30 30 W2 W1.heap.size _ (.slice A2 s.now.length d2) s.now from ⟨A2, d2, rfl, hv2'⟩)
  have k3 := (hb2.block _ (blk_lt k2)).trans k2
  have b2 := hb0.trans (hb2.mono hb0.size)
  have m2 := blk_cell k3 0
  have f2 := blk_frozen k3 0
  clear hv2' hb2 hb0 c1 k2
  dsimp only
  go_wp2_with (fail)
  refine bodyPost_ret (results_cell_row rfl _ _ W.heap.size 26 #[.slice A2 s.now.length d2] (0, 0) _ rfl (blk_put (cs := #[.slice none 0 0]) k3 0 _ rfl) Tryd.underlying26 rfl (by kernel_rfl)) rfl ?_
  refine ⟨_, rfl, Kd.V_mono (Kd.V_far (p := ⟨W.heap.size, 0, none⟩) HV.out (fun k hk => ?_) _) (fun k hk => ?_), b2.setCell (p := ⟨W.heap.size, 0, none⟩) (Nat.le_refl _) _⟩
  · show k ≠ W.heap.size
    rcases hk with hk | hk
    · have := hk.2
      omega
    · omega
  · rcases hk with hk | hk
    · exact .inl hk.1
    · exact .inr (by omega)
set_option maxHeartbeats 8000000 in
set_option maxRecDepth 100000 in
theorem Lasts_calls (W : World) (B g : Nat) (s : Dk) (vn vl vw vk : Value) (h : At W B g s vn vl vw vk) (hc : okC s.last) :
    Calls Tryd.prog 62 #[.pointer (some ⟨g, 0, none⟩)] W fun e w' => ∃ v, e = .returned (.agg #[v]) ∧ Kd.V k30 30 w' 0 (fun k => (B ≤ k ∧ k ≠ g ∧ some k ≠ vw.ownBlock) ∨ W.heap.size ≤ k) v s.last ∧ Below W.heap.size W w' := by
  have hu101 := Tryd.underlying101
  have hu26 := Tryd.underlying26
  have hb0 := below_alloc (Below.refl W.heap.size W) (.cells #[.slice none 0 0] 26)
  have hs1 : (W.alloc (.cells #[.slice none 0 0] 26)).heap.size = W.heap.size + 1 := World.size_alloc _ _
  have k2 := blk_new W (.cells #[.slice none 0 0] 26)
  have h1 := h.below hb0
  have hn0 := Kd.V_bound (show Kd.V k30 30 W 0 _ vl s.last from h.l)
  obtain ⟨A, c, rfl, hn'⟩ := hn0
  obtain ⟨c0, c1, c2, c3, c4, c5, c6, c7, c8⟩ := h1.cells
  have HN := Aside0.mk (Kd.V_below (show Kd.V k30 30 W 0 (fun k => (B ≤ k ∧ k ≠ g ∧ some k ≠ vw.ownBlock) ∧ k < W.heap.size) (.slice A s.last.length c) s.last from ⟨A, c, rfl, hn'⟩) hb0)
  clear h h1 c0 c1 c3 c4 c5 c6 c7 c8 hn'
  go_enter Tryd.func62, Tryd.ntmps62
  go_wp2_with (fail)
  generalize W.alloc (.cells #[.slice none 0 0] 26) = W1 at *
  refine (copied_calls (fun k => (B ≤ k ∧ k ≠ g ∧ some k ≠ vw.ownBlock) ∧ k < W.heap.size) A c s.last W1 HN.out hc.1 hc.2).mono ?_
  rintro e W2 ⟨v2, rfl, hv2, hb2⟩
  obtain ⟨A2, d2, rfl, hv2'⟩ := hv2
  have HV := Aside0.mk (show Kd.V k30 30 W2 W1.heap.size _ (.slice A2 s.last.length d2) s.last from ⟨A2, d2, rfl, hv2'⟩)
  have k3 := (hb2.block _ (blk_lt k2)).trans k2
  have b2 := hb0.trans (hb2.mono hb0.size)
  have m2 := blk_cell k3 0
  have f2 := blk_frozen k3 0
  clear hv2' hb2 hb0 c2 k2
  dsimp only
  go_wp2_with (fail)
  refine bodyPost_ret (results_cell_row rfl _ _ W.heap.size 26 #[.slice A2 s.last.length d2] (0, 0) _ rfl (blk_put (cs := #[.slice none 0 0]) k3 0 _ rfl) Tryd.underlying26 rfl (by kernel_rfl)) rfl ?_
  refine ⟨_, rfl, Kd.V_mono (Kd.V_far (p := ⟨W.heap.size, 0, none⟩) HV.out (fun k hk => ?_) _) (fun k hk => ?_), b2.setCell (p := ⟨W.heap.size, 0, none⟩) (Nat.le_refl _) _⟩
  · show k ≠ W.heap.size
    rcases hk with hk | hk
    · have := hk.2
      omega
    · omega
  · rcases hk with hk | hk
    · exact .inl hk.1
    · exact .inr (by omega)
theorem At.turn {W W' : World} {B g : Nat} {s' : Dk} {vn vl vw vk : Value} (hK : Kept W W' (fun k => k = g)) (hB : B ≤ g)
    (hg : W'.heap[g]? = some (.cells #[.int .i64 s'.q, vn, vl, vw, .bool s'.off, .int .i64 s'.count, .int .i64 s'.fuse, vk, .int .i64 s'.torn] 101 (0, 0)))
    (n : Kd.V k30 30 W 0 (fun k => B ≤ k ∧ k ≠ g ∧ some k ≠ vw.ownBlock) vn s'.now) (l : Kd.V k30 30 W 0 (fun k => B ≤ k ∧ k ≠ g ∧ some k ≠ vw.ownBlock) vl s'.last)
    (w : Kd.N k61 61 W B (fun k => B ≤ k ∧ k ≠ g) vw s'.waits) (k : Kd.V (Kd.int .i64) 3 W 0 (fun k => B ≤ k ∧ k ≠ g ∧ some k ≠ vw.ownBlock) vk s'.keep) : At W' B g s' vn vl vw vk :=
  ⟨hg, hB, Kd.V_kept n hK (fun _ h => h.2.1), Kd.V_kept l hK (fun _ h => h.2.1), Kd.N_kept w hK (fun _ h => h.2), Kd.V_kept k hK (fun _ h => h.2.1)⟩
theorem Ke_set {w W : World} {g : Nat} (h : Kept w W (fun k => k = g)) (i : Nat) (u : Value) : Kept w (W.setCell ⟨g, i, none⟩ u) (fun k => k = g) := Kept.setCell (p := ⟨g, i, none⟩) h (Or.inl rfl) u
theorem At.thenB {w W W' : World} {B g : Nat} {s : Dk} {vn vl vw vk : Value} (h : At W B g s vn vl vw vk) (hb : Below B w W) (hb2 : Below W.heap.size W W') : Below B w W' := hb.trans (hb2.mono (by have := blk_lt h.hg; have := h.hB; omega))
theorem Be_set {B : Nat} {w W : World} {g : Nat} (h : Below B w W) (hB : B ≤ g) (i : Nat) (u : Value) : Below B w (W.setCell ⟨g, i, none⟩ u) := h.setCell (p := ⟨g, i, none⟩) hB u
theorem no_own {k : Nat} : some k ≠ (Value.slice none 0 0).ownBlock := by simp [Value.ownBlock]
set_option maxHeartbeats 8000000 in
set_option maxRecDepth 100000 in
theorem Sync_calls (W : World) (B g : Nat) (s : Dk) (vn vl vw vk : Value) (h : At W B g s vn vl vw vk) (hf : s.fuse ≤ 0) (ho : s.off = false) :
    Calls Tryd.prog 58 #[.pointer (some ⟨g, 0, none⟩)] W fun e w' => e = .returned (.int .i64 0) ∧ At w' B g { s with last := s.now, waits := [], count := wrap64 (s.count + 1) } vn vn (.slice none 0 0) vk ∧ Kept W w' (fun k => k = g) ∧ Below B W w' := by
  have hu101 := Tryd.underlying101
  have hu26 := Tryd.underlying26
  have hbg := begin_calls W B g s vn vl vw vk h hf
  rw [ho] at hbg
  have HH := Aside0.mk h
  have fz := h.frozen
  obtain ⟨A, c, rfl, _⟩ := h.n
  obtain ⟨c0, c1, c2, c3, c4, c5, c6, c7, c8⟩ := h.cells
  clear h
  go_enter Tryd.func58, Tryd.ntmps58
  go_wp2_with (fail)
  refine hbg.mono ?_
  rintro e W1 ⟨rfl, rfl⟩
  dsimp only
  go_wp2_with (fail)
  go_ret
  have hk1 := blk_put HH.out.hg 2 (.slice A s.now.length c) (cs' := #[.int .i64 s.q, .slice A s.now.length c, .slice A s.now.length c, vw, .bool s.off, .int .i64 s.count, .int .i64 s.fuse, vk, .int .i64 s.torn]) rfl
  have hk2 := blk_put hk1 3 (.slice none 0 0) (cs' := #[.int .i64 s.q, .slice A s.now.length c, .slice A s.now.length c, .slice none 0 0, .bool s.off, .int .i64 s.count, .int .i64 s.fuse, vk, .int .i64 s.torn]) rfl
  have hk := blk_put hk2 5 (.int .i64 (wrap64 (s.count + 1))) (cs' := #[.int .i64 s.q, .slice A s.now.length c, .slice A s.now.length c, .slice none 0 0, .bool s.off, .int .i64 (wrap64 (s.count + 1)), .int .i64 s.fuse, vk, .int .i64 s.torn]) rfl
  have hK := Ke_set (Ke_set (Ke_set (Kept.refl W1 (fun k => k = g)) 2 (.slice A s.now.length c)) 3 (.slice none 0 0)) 5 (.int .i64 (wrap64 (s.count + 1)))
  have hBB := Be_set (Be_set (Be_set (Below.refl B W1) HH.out.hB 2 (.slice A s.now.length c)) HH.out.hB 3 (.slice none 0 0)) HH.out.hB 5 (.int .i64 (wrap64 (s.count + 1)))
  clear hk1 hk2
  generalize ((W1.setCell ⟨g, 2, none⟩ (.slice A s.now.length c)).setCell ⟨g, 3, none⟩ (.slice none 0 0)).setCell ⟨g, 5, none⟩ (.int .i64 (wrap64 (s.count + 1))) = W2 at *
  have hn := Kd.V_mono HH.out.n (ok' := fun k => B ≤ k ∧ k ≠ g ∧ some k ≠ (Value.slice none 0 0).ownBlock) fun k h => ⟨h.1, h.2.1, no_own⟩
  have hkp := Kd.V_mono HH.out.k (ok' := fun k => B ≤ k ∧ k ≠ g ∧ some k ≠ (Value.slice none 0 0).ownBlock) fun k h => ⟨h.1, h.2.1, no_own⟩
  exact ⟨rfl, ⟨hk, HH.out.hB, Kd.V_kept hn hK (fun _ h => h.2.1), Kd.V_kept hn hK (fun _ h => h.2.1), Kd.N_nil _ _ _ _ _, Kd.V_kept hkp hK (fun _ h => h.2.1)⟩, hK, hBB⟩
end Go.Proofs.YtidlldfghkaeeaaDoor.P
end
section
namespace Go.Proofs.YtidlldfghkaeeaaDoor.P
open Go.RowKit Go.Proofs.YtidlldfghkaeeaaDoorW.PrintWords Go.Proofs.YtidlldfghkaeeaaDoorW.PrintLast Go.Proofs.YtidlldfghkaeeaaDoorW.PrintMore
set_option linter.unusedVariables false
set_option linter.unusedSimpArgs false
/-- A tree behind a change. -/
def done0 (l : List S30) (c : S61) : List S30 × Int := if c.f0 = 1 then put0 l c.f1 c.f3 else if c.f0 = 2 then make0 l c.f1 else if c.f0 = 3 then rem0 l c.f1 else if c.f0 = 4 then move0 l c.f1 c.f2 else (l, 1)
/-- A change that is not too large. -/
def okG (c : S61) : Prop := c.f1.size < 4294967280 ∧ c.f2.size < 4294967280 ∧ c.f3.length ≤ 1000000000000
theorem disk_done.eq {l : List S30} {c : S61} (h : okT l) (hc : okG c) : disk_done.f l c.f0 c.f1 c.f2 c.f3 = some (done0 l c) := by
  unfold disk_done.f done0
  by_cases h1 : c.f0 = 1
  · rw [if_pos h1, if_pos h1, tree_Put.eq h hc.1 hc.2.2]
    rfl
  · rw [if_neg h1, if_neg h1]
    by_cases h2 : c.f0 = 2
    · rw [if_pos h2, if_pos h2, tree_Make.eq h hc.1]
      rfl
    · rw [if_neg h2, if_neg h2]
      by_cases h3 : c.f0 = 3
      · rw [if_pos h3, if_pos h3, tree_Remove.eq h hc.1]
        rfl
      · rw [if_neg h3, if_neg h3]
        by_cases h4 : c.f0 = 4
        · rw [if_pos h4, if_pos h4]
          unfold tree_Move.f
          rw [if_pos ⟨h, hc.1, hc.2.1⟩]
          rfl
        · rw [if_neg h4, if_neg h4]
theorem put0_GT {l : List S30} {p : ByteArray} {b : List Int} (h : GT30 l) : GT30 (put0 l p b).1 := by
  unfold put0
  rw [if_pos h]
  split
  · rename_i hd
    rcases with1_cases (d := false) (b := b) h hd (fun h => by cases h) with ⟨h1, _⟩ | ⟨h1, h2, _⟩
    · rw [h1]; exact h
    · rw [h1]; exact h2
  · exact h
theorem make0_GT {l : List S30} {p : ByteArray} (h : GT30 l) : GT30 (make0 l p).1 := by
  unfold make0
  by_cases h0 : findE l p = 0
  · rw [if_pos h0]; exact h
  · rw [if_neg h0]
    by_cases h5 : findE l p = 5
    · rw [if_pos h5]
      rcases with1_cases (d := true) (b := []) h (findE_five.1 h5).2.1 (fun _ => rfl) with ⟨h1, _⟩ | ⟨h1, h2, _⟩
      · rw [h1]; exact h
      · rw [h1]; exact h2
    · rw [if_neg h5]; exact h
theorem rem0_GT {l : List S30} {p : ByteArray} (h : GT30 l) : GT30 (rem0 l p).1 := by
  unfold rem0
  by_cases h0 : findE l p = 0
  · rw [if_pos h0]
    by_cases hk : (kidsL l p).length > 0
    · rw [if_pos hk]; exact h
    · rw [if_neg hk]
      have hkn : kidsL l p = [] := List.eq_nil_of_length_eq_zero (by omega)
      unfold kidsL at hkn
      rw [if_pos h, List.map_eq_nil_iff, List.filter_eq_nil_iff] at hkn
      refine ⟨Nat.le_trans (List.length_filter_le _ _) h.1, Nat.le_trans (nB_filter _ _) h.2.1, delE_srt h.2.2.1, fun x hx => ?_⟩
      obtain ⟨hx, hxp⟩ := delE_mem.1 hx
      obtain ⟨a1, a2, a3, a4⟩ := h.2.2.2 x hx
      refine ⟨a1, a2, a3, a4.imp id ?_⟩
      rintro ⟨d, hd, e1, e2⟩
      refine ⟨d, delE_mem.2 ⟨hd, fun e => hkn x hx ?_⟩, e1, e2⟩
      exact decide_eq_true (e1.symm.trans e)
  · rw [if_neg h0]; exact h
theorem done0_GT {l : List S30} {c : S61} (h : GT30 l) : GT30 (done0 l c).1 := by
  unfold done0
  split
  · exact put0_GT h
  · split
    · exact make0_GT h
    · split
      · exact rem0_GT h
      · split
        · exact move0_GT h
        · exact h
/-- A disk behind a change (no fuse). -/
def do0 (s : Dk) (c : S61) : Dk × Int :=
  if s.off = true then (s, 15) else if (done0 s.now c).2 ≠ 0 then (s, (done0 s.now c).2) else if (nB30 (done0 s.now c).1 : Int) > s.q ∧ nB30 (done0 s.now c).1 > nB30 s.now then (s, 9) else
    ({ s with now := (done0 s.now c).1, waits := s.waits ++ [c], count := wrap64 (s.count + 1) }, 0)
end Go.Proofs.YtidlldfghkaeeaaDoor.P
end
