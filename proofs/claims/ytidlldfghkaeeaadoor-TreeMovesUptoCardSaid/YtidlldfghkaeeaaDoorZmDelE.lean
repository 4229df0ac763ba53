/- Put together by pack.py: DelE -/
import Derived.Test.YtidlldfghkaeeaaDoorZmInsE
namespace Go.Proofs.YtidlldfghkaeeaaDoor.P
open Go.RowKit Go.Proofs.YtidlldfghkaeeaaDoorW.PrintWords Go.Proofs.YtidlldfghkaeeaaDoorW.PrintLast Go.Proofs.YtidlldfghkaeeaaDoorW.PrintMore
set_option linter.unusedVariables false
set_option linter.unusedSimpArgs false

/-- Cuts of any row, told out. -/
theorem run_lowX (A : Option Addr) (n c m : Nat) (hn : m ≤ n) (W : World) : (Instr.slice 22 (.slice A n c) (some (.int .i64 (m : Int))) none none).run Tryd.prog W = .ok (.slice (if c = m then A else A.map (·.add (m * 3))) (n - m) (c - m)) W := by
  have hs := sizeE
  cases hq : Tryd.prog.info? 30 with
  | none => simp [hq] at hs
  | some i =>
    have hi : i.size = 3 := by simpa [hq] using hs
    have hel : Tryd.prog.elem 22 = 30 := by simp [Program.elem, Tryd.underlying22]
    have hu : Tryd.prog.underlying 22 = some (.slice (Tryd.prog.elem 22)) := by rw [hel]; exact Tryd.underlying22
    rw [run_slice_l W 22 A n c hu .i64 (m : Int) (Int.natCast_nonneg _) (by omega), hel]
    simp [sizeOf, typeInfo, hq, hi, sliced, Result.andThen]
theorem run_lhm (A : Option Addr) (n c l h m : Nat) (h1 : l ≤ h) (h2 : h ≤ m) (h3 : m ≤ c) : ∃ v : Value, ∀ W : World, (Instr.slice 22 (.slice A n c) (some (.int .i64 (l : Int))) (some (.int .i64 (h : Int))) (some (.int .i64 (m : Int)))).run Tryd.prog W = .ok v W := by
  have hs := sizeE
  cases hq : Tryd.prog.info? 30 with
  | none => simp [hq] at hs
  | some i =>
    have hi : i.size = 3 := by simpa [hq] using hs
    have hel : Tryd.prog.elem 22 = 30 := by simp [Program.elem, Tryd.underlying22]
    have hu : Tryd.prog.underlying 22 = some (.slice (Tryd.prog.elem 22)) := by rw [hel]; exact Tryd.underlying22
    refine ⟨sliced A l h m 3, fun W => ?_⟩
    rw [run_slice_lhm W 22 A n c hu .i64 .i64 .i64 (l : Int) (h : Int) (m : Int) (Int.natCast_nonneg _) (by omega) (by omega) (by omega), hel]
    simp [sizeOf, typeInfo, hq, hi, Result.andThen]
theorem run_lh (g n c l h : Nat) (h1 : l ≤ h) (h2 : h ≤ c) (h3 : l < c) (W : World) : (Instr.slice 22 (.slice (some ⟨g, 0, none⟩) n c) (some (.int .i64 (l : Int))) (some (.int .i64 (h : Int))) none).run Tryd.prog W = .ok (.slice (some ⟨g, l * 3, none⟩) (h - l) (c - l)) W := by
  have hs := sizeE
  cases hq : Tryd.prog.info? 30 with
  | none => simp [hq] at hs
  | some i =>
    have hi : i.size = 3 := by simpa [hq] using hs
    have hel : Tryd.prog.elem 22 = 30 := by simp [Program.elem, Tryd.underlying22]
    have hu : Tryd.prog.underlying 22 = some (.slice (Tryd.prog.elem 22)) := by rw [hel]; exact Tryd.underlying22
    rw [run_slice_lh W 22 _ n c hu .i64 .i64 (l : Int) (h : Int) (Int.natCast_nonneg _) (by omega) (by omega), hel]
    simp [sizeOf, typeInfo, hq, hi, sliced, Result.andThen, show ¬ c = l by omega, add_at]
/-- clear, at elements of three cells. -/
theorem run_clear3 (w : World) (g o n : Nat) (cur : Array Value) (hg : w.heap[g]? = some (.cells cur 30 (0, 0))) (hn : 0 < n) (hfit : o + n * 3 ≤ cur.size) : ∃ zs : List Value, zs.length = n * 3 ∧ ∀ ty c,
    (Builtin.clear_ #[22] ty #[.slice (some ⟨g, o, none⟩) n c]).run Tryd.prog w = .ok (.tuple #[]) (w.setRow g (cur.toList.take o ++ zs ++ cur.toList.drop (o + n * 3)).toArray) := by
  have hz : ∀ W, (zeroValue 30).run Tryd.prog W = .ok (.agg #[.string ⟨#[]⟩, .bool false, .slice none 0 0]) W := fun W => by
    have h := infoE
    cases hh : Tryd.prog.info? 30 with
    | none => rw [hh] at h; cases h
    | some v =>
      rw [hh] at h
      simp only [Option.map_some, Option.some.injEq, Prod.mk.injEq] at h
      simp [zeroValue, typeInfo, hh, h.1]
  obtain ⟨zs, hzs⟩ : ∃ zs, zs = (Builtin.zeroCells (Value.cells (.agg #[.string ⟨#[]⟩, .bool false, .slice none 0 0])) n).toList := ⟨_, rfl⟩
  have hc : Value.cells (.agg #[.string ⟨#[]⟩, .bool false, .slice none 0 0]) = #[.string ⟨#[]⟩, .bool false, .slice none 0 0] := rfl
  have hl : zs.length = n * 3 := by
    rw [hzs, hc]
    simp [Builtin.zeroCells]
  have h1 : ∀ v ∈ zs, v.oneCell' = true := by
    intro v hv
    rw [hzs, hc] at hv
    simp only [Builtin.zeroCells, Array.toList_map, List.mem_map] at hv
    obtain ⟨i, _, rfl⟩ := hv
    have hi : i % 3 = 0 ∨ i % 3 = 1 ∨ i % 3 = 2 := by omega
    show (#[Value.string ⟨#[]⟩, .bool false, .slice none 0 0][i % 3]!).oneCell' = true
    rcases hi with h | h | h <;> rw [h] <;> rfl
  refine ⟨zs, hl, fun ty c => ?_⟩
  have hst := run_storeCells_at Tryd.prog g o 30 zs 0 cur w hg (by rw [hl]; omega) h1
  simp only [Nat.add_zero] at hst
  rw [hl] at hst
  obtain ⟨m, rfl⟩ : ∃ m, n = m + 1 := ⟨n - 1, by omega⟩
  have hu := Tryd.underlying22
  simp [Builtin.clear_, run_underlying hu, hz, ← hzs, hst]
/-- What lies behind a row may turn. -/
theorem NB.tail {W : World} {base : Nat} {ok : Nat → Prop} {g n cap : Nat} {rows : List (List Value)} {tail : List Value} {xs : List S30} (h : NB W base ok g n cap rows tail xs) {tail' : List Value} (ht : tail'.length = tail.length) : NB (W.setRow g (rows.flatten ++ tail').toArray) base ok g n cap rows tail' xs :=
  ⟨setRow_heap _ g _ _ _ _ h.hb, h.hg, h.hok, h.hn, h.hc, h.hm, h.hl, h.hw, by rw [ht]; exact h.ht, fun j x c hx hc => Kd.FK_step (h.hf j x c hx hc) fun k hk hlt => setRow_other _ _ _ _ hk.2⟩
/-- clear of what lies behind a row. -/
theorem clear_tail {W : World} {base : Nat} {ok : Nat → Prop} {g n cap : Nat} {xs : List S30} (h : Kd.N k30 30 W base ok (.slice (some ⟨g, 0, none⟩) n cap) xs) (k : Nat) (hk : 0 < k) (hc : n + k ≤ cap) : ∃ W' : World, (∀ ty c', (Builtin.clear_ #[22] ty #[.slice (some ⟨g, n * 3, none⟩) k c']).run Tryd.prog W = .ok (.tuple #[]) W') ∧ Kd.N k30 30 W' base ok (.slice (some ⟨g, 0, none⟩) n cap) xs ∧ ∀ B w, Below B w W → B ≤ base → Below B w W' := by
  obtain ⟨rows, tail, hNB⟩ := N_NB h
  have hfl := flat_len (fun r hr => (hNB.hw r hr).1)
  have hl := hNB.hl
  have ht := hNB.ht
  have hsz : (rows.flatten ++ tail).toArray.size = cap * 3 := by
    rw [List.size_toArray, List.length_append, hfl, ht, hl]
    have := hNB.hc
    omega
  have e : ∀ zs : List Value, zs.length = k * 3 → ((rows.flatten ++ tail).toArray.toList.take (n * 3) ++ zs ++ (rows.flatten ++ tail).toArray.toList.drop (n * 3 + k * 3)) = rows.flatten ++ (zs ++ tail.drop (k * 3)) := fun zs hz => by
    rw [List.toList_toArray, List.take_append_of_le_length (by rw [hfl, hl]; exact Nat.le_refl _), List.take_of_length_le (by rw [hfl, hl]; exact Nat.le_refl _), List.append_assoc, List.drop_append, List.drop_of_length_le (l := rows.flatten) (by rw [hfl, hl]; omega), List.nil_append, hfl, hl, show n * 3 + k * 3 - n * 3 = k * 3 by omega]
  have hall : ∃ zs : List Value, zs.length = k * 3 ∧ ∀ ty c', (Builtin.clear_ #[22] ty #[.slice (some ⟨g, n * 3, none⟩) k c']).run Tryd.prog W = .ok (.tuple #[]) (W.setRow g (rows.flatten ++ (zs ++ tail.drop (k * 3))).toArray) := by
    obtain ⟨zs, hzl, hrun⟩ := run_clear3 W g (n * 3) k _ hNB.hb hk (by rw [hsz]; omega)
    refine ⟨zs, hzl, fun ty c' => ?_⟩
    rw [← e zs hzl]
    exact hrun ty c'
  obtain ⟨zs, hzl, hrun⟩ := hall
  exact ⟨_, hrun, NB_N (hNB.tail (by rw [List.length_append, hzl, List.length_drop, ht]; have := hNB.hc; omega)), fun B w hb hB => below_setRow hb (Nat.le_trans hB hNB.hg) _⟩
/-- clear of what lies behind a row; no other block turns. -/
theorem clear_tailK {W : World} {base : Nat} {ok : Nat → Prop} {g n cap : Nat} {xs : List S30} (h : Kd.N k30 30 W base ok (.slice (some ⟨g, 0, none⟩) n cap) xs) (k : Nat) (hk : 0 < k) (hc : n + k ≤ cap) : ∃ W' : World, (∀ ty c', (Builtin.clear_ #[22] ty #[.slice (some ⟨g, n * 3, none⟩) k c']).run Tryd.prog W = .ok (.tuple #[]) W') ∧ Kd.N k30 30 W' base ok (.slice (some ⟨g, 0, none⟩) n cap) xs ∧ (∀ B w, Below B w W → B ≤ base → Below B w W') ∧ ∀ j, j ≠ g → W'.heap[j]? = W.heap[j]? := by
  obtain ⟨rows, tail, hNB⟩ := N_NB h
  have hfl := flat_len (fun r hr => (hNB.hw r hr).1)
  have hl := hNB.hl
  have ht := hNB.ht
  have hsz : (rows.flatten ++ tail).toArray.size = cap * 3 := by
    rw [List.size_toArray, List.length_append, hfl, ht, hl]
    have := hNB.hc
    omega
  have e : ∀ zs : List Value, zs.length = k * 3 → ((rows.flatten ++ tail).toArray.toList.take (n * 3) ++ zs ++ (rows.flatten ++ tail).toArray.toList.drop (n * 3 + k * 3)) = rows.flatten ++ (zs ++ tail.drop (k * 3)) := fun zs hz => by
    rw [List.toList_toArray, List.take_append_of_le_length (by rw [hfl, hl]; exact Nat.le_refl _), List.take_of_length_le (by rw [hfl, hl]; exact Nat.le_refl _), List.append_assoc, List.drop_append, List.drop_of_length_le (l := rows.flatten) (by rw [hfl, hl]; omega), List.nil_append, hfl, hl, show n * 3 + k * 3 - n * 3 = k * 3 by omega]
  obtain ⟨zs, hzl, hrun⟩ := run_clear3 W g (n * 3) k _ hNB.hb hk (by rw [hsz]; omega)
  refine ⟨W.setRow g (rows.flatten ++ (zs ++ tail.drop (k * 3))).toArray, fun ty c' => ?_, NB_N (hNB.tail (by rw [List.length_append, hzl, List.length_drop, ht]; have := hNB.hc; omega)), fun B w hb hB => below_setRow hb (Nat.le_trans hB hNB.hg) _, fun j hj => setRow_other _ _ _ _ hj⟩
  rw [← e zs hzl]
  exact hrun ty c'
set_option maxHeartbeats 8000000 in
set_option maxRecDepth 100000 in
theorem DeleteEK_calls (B : Nat) (ok : Nat → Prop) (v0 : Value) (i : Nat) (ii jj : Int) (xs : List S30) (w : World) (h : Kd.N k30 30 w B ok v0 xs) (hB : B ≤ w.heap.size) (hi : i < xs.length) (hn : xs.length ≤ 100000) (hii : ii = (i : Int)) (hjj : jj = ((i + 1 : Nat) : Int)) :
    Calls Tryd.prog 67 #[v0, .int .i64 ii, .int .i64 jj] w fun e w' => ∃ v', e = .returned v' ∧ Kd.N k30 30 w' B ok v' (xs.eraseIdx i) ∧ Below B w w' ∧ ∀ k, k < w.heap.size → some k ≠ v0.ownBlock → w'.heap[k]? = w.heap[k]? := by
  obtain ⟨g, c, rfl, hg1, hg2, _⟩ := Kd.N_form h (by omega)
  obtain ⟨n, hnx⟩ : ∃ n, n = xs.length := ⟨_, rfl⟩
  rw [← hnx] at h hi hn ⊢
  have hnc := (Kd.N_reads' h).2.1
  obtain ⟨v1, hs0⟩ := run_lhm (some ⟨g, 0, none⟩) n c i (i + 1) n (by omega) (by omega) hnc
  have hs1 := fun W => run_high W (some ⟨g, 0, none⟩) n c i (by omega)
  obtain ⟨A', hA'⟩ : ∃ A' : Option Addr, A' = if c = i + 1 then (some ⟨g, 0, none⟩ : Option Addr) else (some (⟨g, 0, none⟩ : Addr)).map (·.add ((i + 1) * 3)) := ⟨_, rfl⟩
  have hs2 := fun W => run_lowX (some ⟨g, 0, none⟩) n c (i + 1) (by omega) W
  rw [← hA'] at hs2
  obtain ⟨q, hq⟩ : ∃ q, q = n - 1 := ⟨_, rfl⟩
  have hs3 := fun W => run_lh g q c q n (by omega) hnc (by omega) W
  rw [show n - q = 1 by omega] at hs3
  have hA2 : A' = if c = i + 1 then (some ⟨g, 0, none⟩ : Option Addr) else (some (⟨g, 0, none⟩ : Addr)).map (·.add ((i + 1) * k30.sz)) := hA'
  rw [← hii] at hs0 hs1
  rw [← hjj] at hs0 hs2
  have g1 : (ii == jj) = false := beq_eq_false_iff_ne.2 (by omega)
  have HQ := Aside0.mk hq
  have HA2 := Aside0.mk hA2
  have HI := Aside0.mk hi
  have HNC := Aside0.mk hnc
  have HS3 := Aside0.mk hs3
  clear hq hA2 hA' hii hjj hnx hnc hs3
  go_enter Tryd.func67, Tryd.ntmps67
  go_wp2_with (fail)
  have hDd : Below w.heap.size w w.drew := below_drew (Below.refl _ _)
  have hNd := Kd.N_below h hDd
  have hBd : B ≤ w.drew.heap.size := hB
  refine start_ (n := 8) (S := fun w' => True) (ds := []) #[false, false, false, false, false, false, false, false] (by kernel_rfl) rfl rfl trivial (fun hHeld => ?_)
  generalize w.drew = wd at hNd hBd hHeld hDd ⊢
  refine pure_ (i := 0) (N := some 20) (v := ?_) (a' := ?_) #[true, false, false, false, false, false, false, false] rfl rfl (by kernel_rfl) (fun _ _ _ h => h) (Or.inl ⟨by rfl, ?_⟩) ?_ ?_
  rotate_left
  · intro w'
    go_simp
    with_reducible rfl
  rotate_left
  · simp only [Act.put, List.setIfInBounds_toArray, List.set_cons_zero, List.set_cons_succ, i64_w, i32_w]
    rfl
  refine pure_ (i := 1) (N := some 21) (v := ?_) (a' := ?_) #[true, true, false, false, false, false, false, false] rfl rfl (by kernel_rfl) (fun _ _ _ h => h) (Or.inl ⟨by rfl, ?_⟩) ?_ ?_
  rotate_left
  · intro w'
    go_simp
    with_reducible rfl
  rotate_left
  · simp only [Act.put, List.setIfInBounds_toArray, List.set_cons_zero, List.set_cons_succ, i64_w, i32_w]
    rfl
  refine pure_ (i := 2) (N := some 22) (v := ?_) (a' := ?_) #[true, true, true, false, false, false, false, false] rfl rfl (by kernel_rfl) (fun _ _ _ h => h) (Or.inl ⟨by rfl, ?_⟩) ?_ ?_
  rotate_left
  · intro w'
    go_simp
    with_reducible rfl
  rotate_left
  · simp only [Act.put, List.setIfInBounds_toArray, List.set_cons_zero, List.set_cons_succ, i64_w, i32_w]
    rfl
  refine pure_ (i := 3) (N := some 23) (v := ?_) (a' := ?_) #[true, true, true, true, false, false, false, false] rfl rfl (by kernel_rfl) (fun _ _ _ h => h) (Or.inl ⟨by rfl, ?_⟩) ?_ ?_
  rotate_left
  · intro w'
    go_simp
    with_reducible rfl
  rotate_left
  · simp only [Act.put, List.setIfInBounds_toArray, List.set_cons_zero, List.set_cons_succ, i64_w, i32_w]
    rfl
  refine pure_ (i := 4) (N := some 24) (v := ?_) (a' := ?_) #[true, true, true, true, true, false, false, false] rfl rfl (by kernel_rfl) (fun _ _ _ h => h) (Or.inl ⟨by rfl, ?_⟩) ?_ ?_
  rotate_left
  · intro w'
    go_simp
    with_reducible rfl
  rotate_left
  · simp only [Act.put, List.setIfInBounds_toArray, List.set_cons_zero, List.set_cons_succ, i64_w, i32_w]
    rfl
  refine pure_ (i := 5) (N := some 25) (v := ?_) (a' := ?_) #[true, true, true, true, true, true, false, false] rfl rfl (by kernel_rfl) (fun _ _ _ h => h) (Or.inl ⟨by rfl, ?_⟩) ?_ ?_
  rotate_left
  · intro w'
    go_simp
    with_reducible rfl
  rotate_left
  · simp only [Act.put, List.setIfInBounds_toArray, List.set_cons_zero, List.set_cons_succ, i64_w, i32_w]
    rfl
  refine one_ (i := 6) (N := some 26) #[true, true, true, true, true, true, true, false] rfl rfl (by kernel_rfl) (by decide) (fun K hK => ?_)
  refine Kd.N_delete_step k30 (w0 := wd) B (by rfl) (.tmp 22) (.tmp 25) 22 30 rfl Tryd.underlying22 sizeE (k := i) (n := n) (g := g) (c := c) rfl rfl HA2.out rfl hNd HI.out (Below.refl _ _) hBd ?_
  intro w2 hr2 hb2 hg2
  refine hK.out _ _ trivial (fun hHeld => ?_)
  clear hK K
  refine norm_ (a' := ?_) ?_ ?_
  rotate_left
  · show Act.put _ (some 26) _ = _
    simp only [Act.put, List.setIfInBounds_toArray, List.set_cons_zero, List.set_cons_succ, i64_w, i32_w]
    rfl
  refine pure_ (i := 7) (N := some 0) (v := ?_) (a' := ?_) #[true, true, true, true, true, true, true, true] rfl rfl (by kernel_rfl) (fun _ _ _ h => h) (Or.inl ⟨by rfl, ?_⟩) ?_ ?_
  rotate_left
  · intro w'
    go_simp
    with_reducible rfl
  rotate_left
  · simp only [Act.put, List.setIfInBounds_toArray, List.set_cons_zero, List.set_cons_succ, i64_w, i32_w]
    rfl
  refine done_ (by kernel_rfl) ?_

  have hqn : n - 1 = q := HQ.out.symm
  rw [hqn] at hr2 ⊢
  clear hqn
  obtain ⟨W5, hcl, hN5, hB5, hK5⟩ := clear_tailK hr2 1 (by omega) (by have := HNC.out; have := HQ.out; have := HI.out; omega)
  have hs3 := HS3.out
  have HN5 := Aside0.mk hN5
  have HB5 : Aside0 (Below B w W5) := ⟨hB5 B w ((hDd.mono hB).trans hb2) (Nat.le_refl _)⟩
  have HK5 : Aside0 (∀ k, k < w.heap.size → some k ≠ (Value.slice (some ⟨g, 0, none⟩) n c).ownBlock → W5.heap[k]? = w.heap[k]?) := ⟨fun k hk hne => by
    have hkg : k ≠ g := fun e => hne (by rw [e]; rfl)
    exact (hK5 k hkg).trans ((hg2.block k (Nat.lt_of_lt_of_le hk hDd.size) (by intro e; injection e with e; exact hkg e)).trans (hDd.block k hk))⟩
  clear hK5 hN5 hB5 hr2 hb2 hg2 hNd hDd hs0 hs1 hs2 h
  go_wp2_with (fail)
  go_ret
  exact ⟨_, rfl, HN5.out, HB5.out, HK5.out⟩
theorem DeleteE_calls (B : Nat) (ok : Nat → Prop) (v0 : Value) (i : Nat) (ii jj : Int) (xs : List S30) (w : World) (h : Kd.N k30 30 w B ok v0 xs) (hB : B ≤ w.heap.size) (hi : i < xs.length) (hn : xs.length ≤ 100000) (hii : ii = (i : Int)) (hjj : jj = ((i + 1 : Nat) : Int)) :
    Calls Tryd.prog 67 #[v0, .int .i64 ii, .int .i64 jj] w fun e w' => ∃ v', e = .returned v' ∧ Kd.N k30 30 w' B ok v' (xs.eraseIdx i) ∧ Below B w w' :=
  (DeleteEK_calls B ok v0 i ii jj xs w h hB hi hn hii hjj).mono fun _ _ ⟨v', h1, h2, h3, _⟩ => ⟨v', h1, h2, h3⟩
end Go.Proofs.YtidlldfghkaeeaaDoor.P
