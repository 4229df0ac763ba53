/- Put together by pack2.py: TreeSam, DelE, TreeRem, TreeLaws, TreeAwk -/
import Derived.Test.YtidlldfghkaeeaaGreatDoorZyTreeOkEtc
import Derived.Test.YtidlldfghkaeeaaGreatDoorZyPfTreeMakeEtc
import Derived.Test.YtidlldfghkaeeaaGreatDoorZyInsEEtc
import Derived.Test.YtidlldfghkaeeaaGreatDoorZyPfTreeFindEtc
import Derived.Test.YtidlldfghkaeeaaGreatDoorZyW0
set_option linter.unusedVariables false
set_option linter.unusedSimpArgs false
set_option maxHeartbeats 8000000
set_option maxRecDepth 100000
namespace Go.Proofs.YtidlldfghkaeeaaGreatDoor.P
open Go.RowKit Go.Proofs.YtidlldfghkaeeaaGreatDoorW.PrintWords Go.Proofs.YtidlldfghkaeeaaGreatDoorW.PrintLast Go.Proofs.YtidlldfghkaeeaaGreatDoorW.PrintMore
def okT (l : List S42) : Prop := okP l = true ∧ nB30 l ≤ 1000000000000
instance (l : List S42) : Decidable (okT l) := by unfold okT; exact inferInstance
theorem tree_Good.eq {l : List S42} (h : okT l) : tree_Good.f l = some (decide (GT30 l)) := by
 unfold tree_Good.f
 exact if_pos h
def tree_Same.f (l l' : List S42) : Option Bool := if okT l ∧ okT l' then some (decide (GT30 l) && decide (GT30 l') && sameL l l') else none
theorem tree_Same.calls (A0_0 : Option Addr) (c0_0 : Nat) (l0_0 : List S42) (A1_0 : Option Addr) (c1_0 : Nat) (l1_0 : List S42) (r : Bool) (w : World) (hr0_0 : Kd.C k42 w A0_0 l0_0.length l0_0) (hc0_0 : l0_0.length ≤ c0_0) (hr1_0 : Kd.C k42 w A1_0 l1_0.length l1_0) (hc1_0 : l1_0.length ≤ c1_0) (h : tree_Same.f l0_0 l1_0 = some r) :
  Calls Tryz.prog 26 #[.agg #[.slice A0_0 l0_0.length c0_0], .agg #[.slice A1_0 l1_0.length c1_0]] w fun e w' => e = .returned (.bool r) ∧ Below w.heap.size w w' := by
 unfold tree_Same.f at h
 split at h
 ·rename_i hh
  obtain rfl := Option.some.inj h
  obtain ⟨h0, h1⟩ := hh
  have hu26 := Tryz.underlying26
  have HR := Aside0.mk hr0_0
  have HR1 := Aside0.mk hr1_0
  have HL : Aside0 (l0_0.length ≤ 100000) := ⟨(okP_iff.1 h0.1).2⟩
  have e0 := tree_Good.eq h0
  have e1 := tree_Good.eq h1
  clear h hr0_0 hr1_0 h0 h1
  obtain ⟨g0, hg0⟩ : ∃ g0, g0 = decide (GT30 l0_0) := ⟨_, rfl⟩
  obtain ⟨g1, hg1⟩ : ∃ g1, g1 = decide (GT30 l1_0) := ⟨_, rfl⟩
  rw [← hg0] at e0 ⊢
  rw [← hg1] at e1 ⊢
  clear hg0 hg1
  obtain ⟨n0, hn0⟩ : ∃ n0, n0 = l0_0.length := ⟨_, rfl⟩
  obtain ⟨n1, hn1⟩ : ∃ n1, n1 = l1_0.length := ⟨_, rfl⟩
  rw [← hn0] at hc0_0 ⊢
  rw [← hn1] at hc1_0 ⊢
  have HN0 := Aside0.mk hn0
  have HN1 := Aside0.mk hn1
  clear hn0 hn1
  have kG := fun W (hb : Below w.heap.size w W) => tree_Good.calls A0_0 c0_0 l0_0 g0 W (Kd.C_below HR.out hb) (by rw [← HN0.out]; exact hc0_0) e0
  have kG1 := fun W (hb : Below w.heap.size w W) => tree_Good.calls A1_0 c1_0 l1_0 g1 W (Kd.C_below HR1.out hb) (by rw [← HN1.out]; exact hc1_0) e1
  have kE := fun W (hb : Below w.heap.size w W) => EqualFunc_calls A0_0 c0_0 l0_0 A1_0 c1_0 l1_0 W (Kd.C_below HR.out hb) (by rw [← HN0.out]; exact hc0_0) (Kd.C_below HR1.out hb) (by rw [← HN1.out]; exact hc1_0) HL.out
  rw [← HN0.out] at kG
  rw [← HN1.out] at kG1
  rw [← HN0.out, ← HN1.out] at kE
  obtain ⟨ss, hss⟩ : ∃ ss, ss = sameL l0_0 l1_0 := ⟨_, rfl⟩
  rw [← hss] at kE ⊢
  clear hss e0 e1
  have KG := Aside0.mk kG
  have KG1 := Aside0.mk kG1
  have KE := Aside0.mk kE
  clear kG kG1 kE
  have k0 := blk_alloc (blk_new w (.cells #[.slice A0_0 n0 c0_0] 26)) (.cells #[.slice A1_0 n1 c1_0] 26)
  have k1 := blk_new (w.alloc (.cells #[.slice A0_0 n0 c0_0] 26)) (.cells #[.slice A1_0 n1 c1_0] 26)
  rw [World.size_alloc] at k1
  have b0 := below_alloc (below_alloc (Below.refl _ w) (.cells #[.slice A0_0 n0 c0_0] 26)) (.cells #[.slice A1_0 n1 c1_0] 26)
  have m0 := blk_cell k0 0
  have m1 := blk_cell k1 0
  go_enter Tryz.func26, Tryz.ntmps26
  go_wp2_with (fail)
  refine (KG.out _ b0).mono ?_
  rintro e W1 ⟨rfl, hb1⟩
  have b1 := b0.trans (hb1.mono b0.size)
  replace k0 := (hb1.block _ (blk_lt k0)).trans k0
  replace k1 := (hb1.block _ (blk_lt k1)).trans k1
  clear b0 hb1 m0 m1
  have m0 := blk_cell k0 0
  have m1 := blk_cell k1 0
  dsimp only
  cases g0 with
  | false =>
   go_wp2_with (fail)
   go_ret
   exact ⟨rfl, b1⟩
  | true =>
   go_wp2_with (fail)
   refine (KG1.out _ b1).mono ?_
   rintro e W2 ⟨rfl, hb2⟩
   have b2 := b1.trans (hb2.mono b1.size)
   replace k0 := (hb2.block _ (blk_lt k0)).trans k0
   replace k1 := (hb2.block _ (blk_lt k1)).trans k1
   clear b1 hb2 m0 m1
   have m0 := blk_cell k0 0
   have m1 := blk_cell k1 0
   dsimp only
   cases g1 with
   | false =>
    go_wp2_with (fail)
    go_ret
    exact ⟨rfl, b2⟩
   | true =>
    go_wp2_with (fail)
    refine (KE.out _ b2).mono ?_
    rintro e W3 ⟨rfl, hb3⟩
    have b3 := b2.trans (hb3.mono b2.size)
    dsimp only
    go_wp2_with (fail)
    go_ret
    exact ⟨by simp, b3⟩
 ·cases h
theorem run_lowX (A : Option Addr) (n c m : Nat) (hn : m ≤ n) (W : World) : (Instr.slice 24 (.slice A n c) (some (.int .i64 (m : Int))) none none).run Tryz.prog W = .ok (.slice (if c = m then A else A.map (·.add (m * 3))) (n - m) (c - m)) W := by
 have hs := sizeE
 cases hq : Tryz.prog.info? 42 with
 | none => simp [hq] at hs
 | some i =>
  have hi : i.size = 3 := by simpa [hq] using hs
  have hel : Tryz.prog.elem 24 = 42 := by simp [Program.elem, Tryz.underlying24]
  have hu : Tryz.prog.underlying 24 = some (.slice (Tryz.prog.elem 24)) := by rw [hel]; exact Tryz.underlying24
  rw [run_slice_l W 24 A n c hu .i64 (m : Int) (Int.natCast_nonneg _) (by omega), hel]
  simp [sizeOf, typeInfo, hq, hi, sliced, Result.andThen]
theorem run_lhm (A : Option Addr) (n c l h m : Nat) (h1 : l ≤ h) (h2 : h ≤ m) (h3 : m ≤ c) : ∃ v : Value, ∀ W : World, (Instr.slice 24 (.slice A n c) (some (.int .i64 (l : Int))) (some (.int .i64 (h : Int))) (some (.int .i64 (m : Int)))).run Tryz.prog W = .ok v W := by
 have hs := sizeE
 cases hq : Tryz.prog.info? 42 with
 | none => simp [hq] at hs
 | some i =>
  have hi : i.size = 3 := by simpa [hq] using hs
  have hel : Tryz.prog.elem 24 = 42 := by simp [Program.elem, Tryz.underlying24]
  have hu : Tryz.prog.underlying 24 = some (.slice (Tryz.prog.elem 24)) := by rw [hel]; exact Tryz.underlying24
  refine ⟨sliced A l h m 3, fun W => ?_⟩
  rw [run_slice_lhm W 24 A n c hu .i64 .i64 .i64 (l : Int) (h : Int) (m : Int) (Int.natCast_nonneg _) (by omega) (by omega) (by omega), hel]
  simp [sizeOf, typeInfo, hq, hi, Result.andThen]
theorem run_lh (g n c l h : Nat) (h1 : l ≤ h) (h2 : h ≤ c) (h3 : l < c) (W : World) : (Instr.slice 24 (.slice (some ⟨g, 0, none⟩) n c) (some (.int .i64 (l : Int))) (some (.int .i64 (h : Int))) none).run Tryz.prog W = .ok (.slice (some ⟨g, l * 3, none⟩) (h - l) (c - l)) W := by
 have hs := sizeE
 cases hq : Tryz.prog.info? 42 with
 | none => simp [hq] at hs
 | some i =>
  have hi : i.size = 3 := by simpa [hq] using hs
  have hel : Tryz.prog.elem 24 = 42 := by simp [Program.elem, Tryz.underlying24]
  have hu : Tryz.prog.underlying 24 = some (.slice (Tryz.prog.elem 24)) := by rw [hel]; exact Tryz.underlying24
  rw [run_slice_lh W 24 _ n c hu .i64 .i64 (l : Int) (h : Int) (Int.natCast_nonneg _) (by omega) (by omega), hel]
  simp [sizeOf, typeInfo, hq, hi, sliced, Result.andThen, show ¬ c = l by omega, add_at]
theorem run_clear3 (w : World) (g o n : Nat) (cur : Array Value) (hg : w.heap[g]? = some (.cells cur 42 (0, 0))) (hn : 0 < n) (hfit : o + n * 3 ≤ cur.size) : ∃ zs : List Value, zs.length = n * 3 ∧ ∀ ty c,
  (Builtin.clear_ #[24] ty #[.slice (some ⟨g, o, none⟩) n c]).run Tryz.prog w = .ok (.tuple #[]) (w.setRow g (cur.toList.take o ++ zs ++ cur.toList.drop (o + n * 3)).toArray) := by
 have hz : ∀ W, (zeroValue 42).run Tryz.prog W = .ok (.agg #[.string ⟨#[]⟩, .bool false, .slice none 0 0]) W := fun W => by
  have h := infoE
  cases hh : Tryz.prog.info? 42 with
  | none => rw [hh] at h; cases h
  | some v =>
   rw [hh] at h
   simp only [Option.map_some, Option.some.injEq, Prod.mk.injEq] at h
   simp [zeroValue, typeInfo, hh, h.1]
 obtain ⟨zs, hzs⟩ : ∃ zs, zs = (Builtin.zeroCells (Value.cells (.agg #[.string ⟨#[]⟩, .bool false, .slice none 0 0])) n).toList := ⟨_, rfl⟩
 have hc : Value.cells (.agg #[.string ⟨#[]⟩, .bool false, .slice none 0 0]) = #[.string ⟨#[]⟩, .bool false, .slice none 0 0] := rfl
 have hl : zs.length = n * 3 := by
  rw [hzs, hc]
  simp [Builtin.zeroCells]
 have h1 : ∀ v ∈ zs, v.oneCell' = true := by
  intro v hv
  rw [hzs, hc] at hv
  simp only [Builtin.zeroCells, Array.toList_map, List.mem_map] at hv
  obtain ⟨i, _, rfl⟩ := hv
  have hi : i % 3 = 0 ∨ i % 3 = 1 ∨ i % 3 = 2 := by omega
  show (#[Value.string ⟨#[]⟩, .bool false, .slice none 0 0][i % 3]!).oneCell' = true
  rcases hi with h | h | h <;> rw [h] <;> rfl
 refine ⟨zs, hl, fun ty c => ?_⟩
 have hst := run_storeCells_at Tryz.prog g o 42 zs 0 cur w hg (by rw [hl]; omega) h1
 simp only [Nat.add_zero] at hst
 rw [hl] at hst
 obtain ⟨m, rfl⟩ : ∃ m, n = m + 1 := ⟨n - 1, by omega⟩
 have hu := Tryz.underlying24
 simp [Builtin.clear_, run_underlying hu, hz, ← hzs, hst]
theorem NB.tail {W : World} {base : Nat} {ok : Nat → Prop} {g n cap : Nat} {rows : List (List Value)} {tail : List Value} {xs : List S42} (h : NB W base ok g n cap rows tail xs) {tail' : List Value} (ht : tail'.length = tail.length) : NB (W.setRow g (rows.flatten ++ tail').toArray) base ok g n cap rows tail' xs :=
 ⟨setRow_heap _ g _ _ _ _ h.hb, h.hg, h.hok, h.hn, h.hc, h.hm, h.hl, h.hw, by rw [ht]; exact h.ht, fun j x c hx hc => Kd.FK_step (h.hf j x c hx hc) fun k hk hlt => setRow_other _ _ _ _ hk.2⟩
theorem clear_tail {W : World} {base : Nat} {ok : Nat → Prop} {g n cap : Nat} {xs : List S42} (h : Kd.N k42 42 W base ok (.slice (some ⟨g, 0, none⟩) n cap) xs) (k : Nat) (hk : 0 < k) (hc : n + k ≤ cap) : ∃ W' : World, (∀ ty c', (Builtin.clear_ #[24] ty #[.slice (some ⟨g, n * 3, none⟩) k c']).run Tryz.prog W = .ok (.tuple #[]) W') ∧ Kd.N k42 42 W' base ok (.slice (some ⟨g, 0, none⟩) n cap) xs ∧ ∀ B w, Below B w W → B ≤ base → Below B w W' := by
 obtain ⟨rows, tail, hNB⟩ := N_NB h
 have hfl := flat_len (fun r hr => (hNB.hw r hr).1)
 have hl := hNB.hl
 have ht := hNB.ht
 have hsz : (rows.flatten ++ tail).toArray.size = cap * 3 := by
  rw [List.size_toArray, List.length_append, hfl, ht, hl]
  have := hNB.hc
  omega
 have e : ∀ zs : List Value, zs.length = k * 3 → ((rows.flatten ++ tail).toArray.toList.take (n * 3) ++ zs ++ (rows.flatten ++ tail).toArray.toList.drop (n * 3 + k * 3)) = rows.flatten ++ (zs ++ tail.drop (k * 3)) := fun zs hz => by
  rw [List.toList_toArray, List.take_append_of_le_length (by rw [hfl, hl]; exact Nat.le_refl _), List.take_of_length_le (by rw [hfl, hl]; exact Nat.le_refl _), List.append_assoc, List.drop_append, List.drop_of_length_le (l := rows.flatten) (by rw [hfl, hl]; omega), List.nil_append, hfl, hl, show n * 3 + k * 3 - n * 3 = k * 3 by omega]
 have hall : ∃ zs : List Value, zs.length = k * 3 ∧ ∀ ty c', (Builtin.clear_ #[24] ty #[.slice (some ⟨g, n * 3, none⟩) k c']).run Tryz.prog W = .ok (.tuple #[]) (W.setRow g (rows.flatten ++ (zs ++ tail.drop (k * 3))).toArray) := by
  obtain ⟨zs, hzl, hrun⟩ := run_clear3 W g (n * 3) k _ hNB.hb hk (by rw [hsz]; omega)
  refine ⟨zs, hzl, fun ty c' => ?_⟩
  rw [← e zs hzl]
  exact hrun ty c'
 obtain ⟨zs, hzl, hrun⟩ := hall
 exact ⟨_, hrun, NB_N (hNB.tail (by rw [List.length_append, hzl, List.length_drop, ht]; have := hNB.hc; omega)), fun B w hb hB => below_setRow hb (Nat.le_trans hB hNB.hg) _⟩
theorem clear_tailK {W : World} {base : Nat} {ok : Nat → Prop} {g n cap : Nat} {xs : List S42} (h : Kd.N k42 42 W base ok (.slice (some ⟨g, 0, none⟩) n cap) xs) (k : Nat) (hk : 0 < k) (hc : n + k ≤ cap) : ∃ W' : World, (∀ ty c', (Builtin.clear_ #[24] ty #[.slice (some ⟨g, n * 3, none⟩) k c']).run Tryz.prog W = .ok (.tuple #[]) W') ∧ Kd.N k42 42 W' base ok (.slice (some ⟨g, 0, none⟩) n cap) xs ∧ (∀ B w, Below B w W → B ≤ base → Below B w W') ∧ ∀ j, j ≠ g → W'.heap[j]? = W.heap[j]? := by
 obtain ⟨rows, tail, hNB⟩ := N_NB h
 have hfl := flat_len (fun r hr => (hNB.hw r hr).1)
 have hl := hNB.hl
 have ht := hNB.ht
 have hsz : (rows.flatten ++ tail).toArray.size = cap * 3 := by
  rw [List.size_toArray, List.length_append, hfl, ht, hl]
  have := hNB.hc
  omega
 have e : ∀ zs : List Value, zs.length = k * 3 → ((rows.flatten ++ tail).toArray.toList.take (n * 3) ++ zs ++ (rows.flatten ++ tail).toArray.toList.drop (n * 3 + k * 3)) = rows.flatten ++ (zs ++ tail.drop (k * 3)) := fun zs hz => by
  rw [List.toList_toArray, List.take_append_of_le_length (by rw [hfl, hl]; exact Nat.le_refl _), List.take_of_length_le (by rw [hfl, hl]; exact Nat.le_refl _), List.append_assoc, List.drop_append, List.drop_of_length_le (l := rows.flatten) (by rw [hfl, hl]; omega), List.nil_append, hfl, hl, show n * 3 + k * 3 - n * 3 = k * 3 by omega]
 obtain ⟨zs, hzl, hrun⟩ := run_clear3 W g (n * 3) k _ hNB.hb hk (by rw [hsz]; omega)
 refine ⟨W.setRow g (rows.flatten ++ (zs ++ tail.drop (k * 3))).toArray, fun ty c' => ?_, NB_N (hNB.tail (by rw [List.length_append, hzl, List.length_drop, ht]; have := hNB.hc; omega)), fun B w hb hB => below_setRow hb (Nat.le_trans hB hNB.hg) _, fun j hj => setRow_other _ _ _ _ hj⟩
 rw [← e zs hzl]
 exact hrun ty c'
theorem DeleteEK_calls (B : Nat) (ok : Nat → Prop) (v0 : Value) (i : Nat) (ii jj : Int) (xs : List S42) (w : World) (h : Kd.N k42 42 w B ok v0 xs) (hB : B ≤ w.heap.size) (hi : i < xs.length) (hn : xs.length ≤ 100000) (hii : ii = (i : Int)) (hjj : jj = ((i + 1 : Nat) : Int)) :
  Calls Tryz.prog 54 #[v0, .int .i64 ii, .int .i64 jj] w fun e w' => ∃ v', e = .returned v' ∧ Kd.N k42 42 w' B ok v' (xs.eraseIdx i) ∧ Below B w w' ∧ ∀ k, k < w.heap.size → some k ≠ v0.ownBlock → w'.heap[k]? = w.heap[k]? := by
 obtain ⟨g, c, rfl, hg1, hg2, _⟩ := Kd.N_form h (by omega)
 obtain ⟨n, hnx⟩ : ∃ n, n = xs.length := ⟨_, rfl⟩
 rw [← hnx] at h hi hn ⊢
 have hnc := (Kd.N_reads' h).2.1
 obtain ⟨v1, hs0⟩ := run_lhm (some ⟨g, 0, none⟩) n c i (i + 1) n (by omega) (by omega) hnc
 have hs1 := fun W => run_high W (some ⟨g, 0, none⟩) n c i (by omega)
 obtain ⟨A', hA'⟩ : ∃ A' : Option Addr, A' = if c = i + 1 then (some ⟨g, 0, none⟩ : Option Addr) else (some (⟨g, 0, none⟩ : Addr)).map (·.add ((i + 1) * 3)) := ⟨_, rfl⟩
 have hs2 := fun W => run_lowX (some ⟨g, 0, none⟩) n c (i + 1) (by omega) W
 rw [← hA'] at hs2
 obtain ⟨q, hq⟩ : ∃ q, q = n - 1 := ⟨_, rfl⟩
 have hs3 := fun W => run_lh g q c q n (by omega) hnc (by omega) W
 rw [show n - q = 1 by omega] at hs3
 have hA2 : A' = if c = i + 1 then (some ⟨g, 0, none⟩ : Option Addr) else (some (⟨g, 0, none⟩ : Addr)).map (·.add ((i + 1) * k42.sz)) := hA'
 rw [← hii] at hs0 hs1
 rw [← hjj] at hs0 hs2
 have g1 : (ii == jj) = false := beq_eq_false_iff_ne.2 (by omega)
 have HQ := Aside0.mk hq
 have HA2 := Aside0.mk hA2
 have HI := Aside0.mk hi
 have HNC := Aside0.mk hnc
 have HS3 := Aside0.mk hs3
 clear hq hA2 hA' hii hjj hnx hnc hs3
 go_enter Tryz.func54, Tryz.ntmps54
 go_wp2_with (fail)
 have hDd : Below w.heap.size w w.drew := below_drew (Below.refl _ _)
 have hNd := Kd.N_below h hDd
 have hBd : B ≤ w.drew.heap.size := hB
 refine start_ (n := 8) (S := fun w' => True) (ds := []) (bs_ 8 0x0) (by kernel_rfl) rfl rfl trivial (fun hHeld => ?_)
 generalize w.drew = wd at hNd hBd hHeld hDd ⊢
 refine pl_ [(0, some 20, 0x1), (1, some 21, 0x3), (2, some 22, 0x7), (3, some 23, 0xf), (4, some 24, 0x1f), (5, some 25, 0x3f)] ?_; iterate 6 (refine pr_ (v := ?_) (a' := ?_) rfl rfl (by kernel_rfl) (fun _ _ _ h => h) (Or.inl ⟨by rfl, ?_⟩) ?_ ?_; rotate_left; (intro w'; go_simp; with_reducible rfl); rotate_left; (simp only [nm_]; rfl))
 refine ql_ ?_
 refine one_ (i := 6) (N := some 26) (bs_ 8 0x7f) rfl rfl (by kernel_rfl) (by decide) (fun K hK => ?_)
 refine Kd.N_delete_step k42 (w0 := wd) B (by rfl) (.tmp 22) (.tmp 25) 24 42 rfl Tryz.underlying24 sizeE (k := i) (n := n) (g := g) (c := c) rfl rfl HA2.out rfl hNd HI.out (Below.refl _ _) hBd ?_
 intro w2 hr2 hb2 hg2
 refine hK.out _ _ trivial (fun hHeld => ?_)
 clear hK K
 refine norm_ (a' := ?_) ?_ ?_
 rotate_left
 ·show Act.put _ (some 26) _ = _
  simp only [nm_]
  rfl
 refine pure_ (i := 7) (N := some 0) (v := ?_) (a' := ?_) (bs_ 8 0xff) rfl rfl (by kernel_rfl) (fun _ _ _ h => h) (Or.inl ⟨by rfl, ?_⟩) ?_ ?_; rotate_left; (intro w'; go_simp; with_reducible rfl); rotate_left; (simp only [nm_]; rfl)
 refine done_ (by kernel_rfl) ?_
 have hqn : n - 1 = q := HQ.out.symm
 rw [hqn] at hr2 ⊢
 clear hqn
 obtain ⟨W5, hcl, hN5, hB5, hK5⟩ := clear_tailK hr2 1 (by omega) (by have := HNC.out; have := HQ.out; have := HI.out; omega)
 have hs3 := HS3.out
 have HN5 := Aside0.mk hN5
 have HB5 : Aside0 (Below B w W5) := ⟨hB5 B w ((hDd.mono hB).trans hb2) (Nat.le_refl _)⟩
 have HK5 : Aside0 (∀ k, k < w.heap.size → some k ≠ (Value.slice (some ⟨g, 0, none⟩) n c).ownBlock → W5.heap[k]? = w.heap[k]?) := ⟨fun k hk hne => by
  have hkg : k ≠ g := fun e => hne (by rw [e]; rfl)
  exact (hK5 k hkg).trans ((hg2.block k (Nat.lt_of_lt_of_le hk hDd.size) (by intro e; injection e with e; exact hkg e)).trans (hDd.block k hk))⟩
 clear hK5 hN5 hB5 hr2 hb2 hg2 hNd hDd hs0 hs1 hs2 h
 go_wp2_with (fail)
 go_ret
 exact ⟨_, rfl, HN5.out, HB5.out, HK5.out⟩
theorem DeleteE_calls (B : Nat) (ok : Nat → Prop) (v0 : Value) (i : Nat) (ii jj : Int) (xs : List S42) (w : World) (h : Kd.N k42 42 w B ok v0 xs) (hB : B ≤ w.heap.size) (hi : i < xs.length) (hn : xs.length ≤ 100000) (hii : ii = (i : Int)) (hjj : jj = ((i + 1 : Nat) : Int)) :
  Calls Tryz.prog 54 #[v0, .int .i64 ii, .int .i64 jj] w fun e w' => ∃ v', e = .returned v' ∧ Kd.N k42 42 w' B ok v' (xs.eraseIdx i) ∧ Below B w w' :=
 (DeleteEK_calls B ok v0 i ii jj xs w h hB hi hn hii hjj).mono fun _ _ ⟨v', h1, h2, h3, _⟩ => ⟨v', h1, h2, h3⟩
def findE (l : List S42) (p : ByteArray) : Int := if GT30 l then if Gd p.data.toList then if ∃ x ∈ l, x.f0 = p then 0 else 5 else 4 else 1
theorem tree_find.eq {l : List S42} {p : ByteArray} (h : okT l) (hp : p.size < 4294967280) (hs : Srt S42.f0 l) : tree_find.f l p = some ((lowB S42.f0 p l : Int), decide (∃ x ∈ l, x.f0 = p)) := by
 unfold tree_find.f
 rw [if_pos ⟨h.1, hp, hs⟩]
theorem nB_mem {l : List S42} : ∀ {x : S42}, x ∈ l → x.f2.length ≤ nB30 l := by
 induction l with
 | nil => intro x h; cases h
 | cons y l ih =>
  intro x h
  rw [nB30, nB_cons]
  rcases List.mem_cons.1 h with rfl | h
  ·omega
  ·have := ih h
   unfold nB30 at this
   omega
theorem tree_Find.eq {l : List S42} {p : ByteArray} (h : okT l) (hp : p.size < 4294967280) : ∃ r1 r2 r3, tree_Find.f l p = some (r1, r2, r3, findE l p) := by
 unfold tree_Find.f findE
 rw [tree_Good.eq h, Option.bind_some]
 by_cases hg : GT30 l
 ·rw [if_pos (decide_eq_true hg), if_pos hg, Good_eq (by omega), Option.bind_some]
  by_cases hd : Gd p.data.toList
  ·rw [if_pos (decide_eq_true hd), if_pos hd, tree_find.eq h hp hg.2.2.1, Option.bind_some]
   by_cases hx : ∃ x ∈ l, x.f0 = p
   ·obtain ⟨hlt, _⟩ := (lowB_at hg.2.2.1).2 hx
    have hm := nB_mem (List.getElem_mem hlt)
    have hn := h.2
    dsimp only
    rw [if_pos (decide_eq_true hx), if_pos hx, if_pos (Int.natCast_nonneg _), if_pos (by omega), rdT hlt, own_eq (by omega), Option.bind_some]
    exact ⟨_, _, _, rfl⟩
   ·dsimp only
    rw [if_neg (by simpa using hx), if_neg hx]
    exact ⟨_, _, _, rfl⟩
  ·rw [if_neg (by simpa using hd), if_neg hd]
   exact ⟨_, _, _, rfl⟩
 ·rw [if_neg (by simpa using hg), if_neg hg]
  exact ⟨_, _, _, rfl⟩
def kidsL (l : List S42) (p : ByteArray) : List ByteArray := if GT30 l then (l.filter fun x => decide (upB x.f0 = p)).map S42.f0 else []
theorem kids_l0 (l : List S42) (p : ByteArray) (hg : GT30 l) (hs : ∀ x ∈ l, x.f0.size < 4294967280) : ∀ (d i k : Nat) (acc : List ByteArray), i + d = l.length → d < k → acc.length ≤ i → tree_Kids.l0 k p acc l (l.length : Int) (i : Int) = some (acc ++ ((l.drop i).filter fun x => decide (upB x.f0 = p)).map S42.f0)
 | 0, i, k, acc, hd, hk, ha => by
  obtain ⟨k, rfl⟩ : ∃ m, k = m + 1 := ⟨k - 1, by omega⟩
  rw [tree_Kids.l0, if_neg (by omega), List.drop_eq_nil_of_le (by omega)]
  simp
 | d + 1, i, k, acc, hd, hk, ha => by
  obtain ⟨k, rfl⟩ : ∃ m, k = m + 1 := ⟨k - 1, by omega⟩
  have hi : i < l.length := by omega
  have hm := List.getElem_mem hi
  have hl := hg.1
  have hw : wrap64 ((i : Int) + 1) = ((i + 1 : Nat) : Int) := wr1 (by omega)
  rw [tree_Kids.l0, if_pos (by omega), if_pos (by omega), if_pos (by omega), rdT hi, Up_eq (by have := hs _ hm; omega), if_pos (hg.2.2.2 _ hm).1, Option.bind_some, hw, List.drop_eq_getElem_cons hi, List.filter_cons]
  dsimp only
  by_cases hq : upB l[i].f0 = p
  ·rw [if_pos (by rw [hq]), if_pos (by omega), if_pos (decide_eq_true hq), kids_l0 l p hg hs d (i + 1) k _ (by omega) (by omega) (by rw [List.length_append, List.length_singleton]; omega)]
   simp
  ·rw [if_neg (fun h => hq (by rw [Lib.toList_data, Lib.toList_data] at h; exact bext h)), if_neg (by simpa using hq), kids_l0 l p hg hs d (i + 1) k _ (by omega) (by omega) (by omega)]
theorem tree_Kids.eq {l : List S42} {p : ByteArray} {k : Nat} (h : okT l) (hk : 40 < k) : tree_Kids.f k l p = some (kidsL l p) := by
 unfold tree_Kids.f kidsL
 rw [tree_Good.eq h, Option.bind_some]
 by_cases hg : GT30 l
 ·rw [if_pos (decide_eq_true hg), if_pos hg]
  have := kids_l0 l p hg (okP_iff.1 h.1).1 l.length 0 k [] (by omega) (by have := hg.1; omega) (Nat.zero_le _)
  rw [List.drop_zero, List.nil_append] at this
  exact this
 ·rw [if_neg (by simpa using hg), if_neg hg]
def rem0 (l : List S42) (p : ByteArray) : List S42 × Int := if findE l p = 0 then if (kidsL l p).length > 0 then (l, 8) else (delE S42.f0 p l, 0) else (l, findE l p)
def tree_Remove.f (l : List S42) (p : ByteArray) : Option (List S42 × Int) := if okT l ∧ p.size < 4294967280 then some (rem0 l p) else none
structure By (w W : World) (v : Value) : Prop where
 b : Below w.heap.size w W
 k2 : W.heap[w.heap.size]? = some (.cells #[v] 26 (0, 0))
 k4 : W.heap[w.heap.size + 1]? = some (.cells #[.slice none 0 0] 26 (0, 0))
theorem By.below {w W W' : World} {v : Value} (h : By w W v) (hb : Below W.heap.size W W') : By w W' v :=
 ⟨h.b.trans (hb.mono h.b.size), (hb.block _ (blk_lt h.k2)).trans h.k2, (hb.block _ (blk_lt h.k4)).trans h.k4⟩
theorem By.belowB {w W W' : World} {v : Value} {B : Nat} (h : By w W v) (hB : w.heap.size + 2 ≤ B) (hb : Below B W W') : By w W' v :=
 ⟨h.b.trans (hb.mono (by omega)), (hb.block _ (by omega)).trans h.k2, (hb.block _ (by omega)).trans h.k4⟩
theorem By.new (w : World) (v : Value) : By w ((w.alloc (.cells #[v] 26)).alloc (.cells #[.slice none 0 0] 26)) v := by
 refine ⟨below_alloc (below_alloc (Below.refl _ _) _) _, blk_alloc (blk_new w _) _, ?_⟩
 have h := blk_new (w.alloc (.cells #[v] 26)) (.cells #[.slice none 0 0] 26)
 rw [World.size_alloc] at h
 exact h
theorem By.cells {w W : World} {v : Value} (h : By w W v) : W.cell? ⟨w.heap.size, 0, none⟩ = some v ∧ W.cell? ⟨w.heap.size + 1, 0, none⟩ = some (.slice none 0 0) ∧ W.frozen? ⟨w.heap.size + 1, 0, none⟩ = false :=
 ⟨blk_cell h.k2 0, blk_cell h.k4 0, blk_frozen h.k4 0⟩
theorem Remove_calls (P : Nat → Prop) (A0 : Option Addr) (c0 : Nat) (l0 : List S42) (p : ByteArray) (w : World) (hs0 : Kd.V k42 42 w w.heap.size (fun k_ => P k_) (.slice A0 l0.length c0) l0) (hok : okT l0) (hp : p.size < 4294967280) (R : List S42 × Int) (hR : R = rem0 l0 p) :
  Calls Tryz.prog 10 #[.agg #[.slice A0 l0.length c0], .string p] w fun e w' => ∃ v0_ : Value, e = .returned (.tuple #[.agg #[v0_], .int .i64 R.2]) ∧ Kd.V k42 42 w' w.heap.size (fun k_ => (P k_ ∨ w.heap.size ≤ k_)) v0_ R.1 ∧ Below w.heap.size w w' := by
 have hu26 := Tryz.underlying26
 have hu30 := Tryz.underlying42
 have HS := Aside0.mk hs0
 have HRR := Aside0.mk hR
 clear hR
 have hC0 := (Kd.V_reads' hs0).2.2
 have hc0 := (Kd.V_reads' hs0).2.1
 obtain ⟨r1, r2, r3, hfe⟩ := tree_Find.eq hok hp
 have hkd := tree_Kids.eq (p := p) (k := 41) hok (by decide)
 have X0 := By.new w (.slice A0 l0.length c0)
 obtain ⟨m20, m40, f40⟩ := X0.cells
 obtain ⟨fe, hfq⟩ : ∃ fe, fe = findE l0 p := ⟨_, rfl⟩
 obtain ⟨kl, hkl⟩ : ∃ kl, kl = kidsL l0 p := ⟨_, rfl⟩
 rw [← hfq] at hfe
 rw [← hkl] at hkd
 have HFQ := Aside0.mk hfq
 have HKL := Aside0.mk hkl
 clear hfq hkl hs0
 go_enter Tryz.func10, Tryz.ntmps10
 go_wp2_with (fail)
 refine (tree_Find.calls A0 c0 l0 p r1 r2 r3 fe _ (Kd.C_below hC0 X0.b) hc0 hfe).mono ?_
 rintro e W1 ⟨v1, rfl, hr1, hb1⟩
 obtain ⟨A1, c1, rfl⟩ := Kd.R_slice hr1
 have X1 := (X0.below hb1).below (below_alloc (Below.refl _ W1) (.cells #[.string r1, .bool r2, .slice A1 r3.length c1] 42))
 clear X0 hb1 hr1 hfe m20 m40 f40
 dsimp only
 obtain ⟨m20, m40, f40⟩ := X1.cells
 by_cases q1 : fe = 0
 ·subst q1
  go_wp2_with (fail)
  refine (tree_Kids.calls 41 A0 c0 l0 p kl _ (Kd.C_below hC0 X1.b) hc0 hkd).mono ?_
  rintro e W2 ⟨v2, rfl, hr2, hb2⟩
  obtain ⟨A2, c2, rfl⟩ := Kd.R_slice hr2
  have X2 := X1.below hb2
  clear X1 hb2 hr2 hkd m20 m40 f40
  dsimp only
  obtain ⟨m20, m40, f40⟩ := X2.cells
  obtain ⟨nk, hnk⟩ : ∃ nk, nk = kl.length := ⟨_, rfl⟩
  rw [← hnk]
  have HNK := Aside0.mk hnk
  clear hnk
  by_cases q2 : nk > 0
  ·have p2 : decide ((0 : Int) < (nk : Int)) = true := decide_eq_true (by omega)
   go_wp2_with (fail)
   refine bodyPost_ret (results_ct rfl _ _ (w.heap.size + 1) 26 #[.slice A0 l0.length c0] (0, 0) _ rfl (blk_put (cs := #[.slice none 0 0]) X2.k4 0 _ rfl) Tryz.underlying26 rfl (by kernel_rfl)) rfl ?_
   obtain rfl : R = (l0, 8) := by rw [HRR.out, rem0, if_pos HFQ.out.symm, if_pos (by rw [← HKL.out, ← HNK.out]; exact q2)]
   exact ⟨_, rfl, V_came HS.out X2.b (by omega) _, X2.b.setCell (p := ⟨w.heap.size + 1, 0, none⟩) (by show w.heap.size ≤ w.heap.size + 1; omega) _⟩
  ·have p2 : decide ((0 : Int) < (nk : Int)) = false := decide_eq_false (by omega)
   have hgt : GT30 l0 ∧ ∃ x ∈ l0, x.f0 = p := by
    have h := HFQ.out
    unfold findE at h
    split at h
    ·rename_i hg
     split at h
     ·split at h
      ·rename_i hx
       exact ⟨hg, hx⟩
      ·cases h
     ·cases h
    ·cases h
   have hfd := tree_find.eq hok hp hgt.1.2.2.1
   rw [decide_eq_true hgt.2] at hfd
   obtain ⟨hlt, hat⟩ := (lowB_at hgt.1.2.2.1).2 hgt.2
   have HAT := Aside0.mk (erase_del hgt.1.2.2.1 hlt hat)
   have hl40 := hgt.1.1
   clear hgt hat
   go_wp2_with (fail)
   refine (tree_find.calls A0 c0 l0 p _ _ _ (Kd.C_below hC0 X2.b) hc0 hfd).mono ?_
   rintro e W3 ⟨rfl, hb3⟩
   have X3 := X2.below hb3
   clear X2 hb3 hfd m20 m40 f40
   dsimp only
   obtain ⟨m20, m40, f40⟩ := X3.cells
   obtain ⟨i, hi⟩ : ∃ i, i = lowB S42.f0 p l0 := ⟨_, rfl⟩
   rw [← hi] at hlt HAT ⊢
   clear hi
   go_wp2_with (fail)
   have hbase : w.heap.size + 2 ≤ W3.heap.size := by
    have := blk_lt X3.k4
    omega
   have hV3 : Kd.V k42 42 W3 W3.heap.size (fun k => P k ∧ k < w.heap.size) (.slice A0 l0.length c0) l0 := Kd.V_below (Kd.V_bound HS.out) X3.b
   refine (CloneE_calls (fun k => P k ∧ k < w.heap.size) A0 c0 l0 W3 hV3 (by omega)).mono ?_
   rintro e W4 ⟨v4, rfl, hN4, hb4⟩
   have X4 := X3.below hb4
   have hs4 := hb4.size
   clear hV3 X3 hb4 m20 m40 f40
   dsimp only
   obtain ⟨m20, m40, f40⟩ := X4.cells
   obtain ⟨ii, hii⟩ : ∃ ii : Int, ii = (i : Int) := ⟨_, rfl⟩
   have hw : wrap64 (ii + 1) = ((i + 1 : Nat) : Int) := by rw [hii]; exact wr1 (by omega)
   obtain ⟨jj, hjj⟩ : ∃ jj : Int, jj = ((i + 1 : Nat) : Int) := ⟨_, rfl⟩
   rw [← hjj] at hw
   rw [← hii]
   have HII := Aside0.mk hii
   have HJJ := Aside0.mk hjj
   clear hii hjj
   go_wp2_with (fail)
   refine (DeleteE_calls W3.heap.size _ v4 i ii jj l0 W4 hN4 hs4 hlt (by omega) HII.out HJJ.out).mono ?_
   rintro e W5 ⟨v5, rfl, hN5, hb5⟩
   have X5 := X4.belowB hbase hb5
   rw [List.eraseIdx_eq_take_drop_succ, HAT.out] at hN5
   obtain ⟨A5, c5, rfl⟩ := Kd.N_slice hN5
   have HN5 := Aside0.mk hN5
   clear hN4 hN5 X4 m20 m40 f40
   dsimp only
   obtain ⟨m20, m40, f40⟩ := X5.cells
   go_wp2_with (fail)
   refine bodyPost_ret (results_ct rfl _ _ (w.heap.size + 1) 26 #[.slice A5 (delE S42.f0 p l0).length c5] (0, 0) _ rfl (blk_put (cs := #[.slice none 0 0]) X5.k4 0 _ rfl) Tryz.underlying26 rfl (by kernel_rfl)) rfl ?_
   obtain rfl : R = (delE S42.f0 p l0, 0) := by rw [HRR.out, rem0, if_pos HFQ.out.symm, if_neg (by rw [← HKL.out, ← HNK.out]; exact q2)]
   refine ⟨_, rfl, Kd.V_mono (Kd.V_far (p := ⟨w.heap.size + 1, 0, none⟩) (Kd.N_V HN5.out) (fun k hk => ?_) _) (fun k hk => ?_), X5.b.setCell (p := ⟨w.heap.size + 1, 0, none⟩) (by show w.heap.size ≤ w.heap.size + 1; omega) _⟩
   ·show k ≠ w.heap.size + 1
    rcases hk with hk | hk <;> omega
   ·rcases hk with hk | hk
    ·exact .inl hk.1
    ·exact .inr (by omega)
 ·have p1 : (fe != 0) = true := bne_iff_ne.2 q1
  go_wp2_with (fail)
  refine bodyPost_ret (results_ct rfl _ _ (w.heap.size + 1) 26 #[.slice A0 l0.length c0] (0, 0) _ rfl (blk_put (cs := #[.slice none 0 0]) X1.k4 0 _ rfl) Tryz.underlying26 rfl (by kernel_rfl)) rfl ?_
  obtain rfl : R = (l0, fe) := by rw [HRR.out, rem0, if_neg (by rw [← HFQ.out]; exact q1), HFQ.out]
  exact ⟨_, rfl, V_came HS.out X1.b (by omega) _, X1.b.setCell (p := ⟨w.heap.size + 1, 0, none⟩) (by show w.heap.size ≤ w.heap.size + 1; omega) _⟩
theorem tree_Remove.calls (P0_0_ : Nat → Prop) (A0_0 : Option Addr) (c0_0 : Nat) (l0_0 : List S42) (a1 : ByteArray) (r1 : List S42) (r2 : Int) (w : World) (hs0_0 : Kd.V k42 42 w w.heap.size (fun k_ => P0_0_ k_) (.slice A0_0 l0_0.length c0_0) l0_0) (h : tree_Remove.f l0_0 a1 = some (r1, r2)) :
  Calls Tryz.prog 10 #[.agg #[.slice A0_0 l0_0.length c0_0], .string a1] w fun e w' => ∃ v0_ : Value, e = .returned (.tuple #[.agg #[v0_], .int .i64 r2]) ∧ Kd.V k42 42 w' w.heap.size (fun k_ => (P0_0_ k_ ∨ w.heap.size ≤ k_)) v0_ r1 ∧ Below w.heap.size w w' := by
 unfold tree_Remove.f at h
 split at h
 ·rename_i hh
  exact Remove_calls P0_0_ A0_0 c0_0 l0_0 a1 w hs0_0 hh.1 hh.2 (r1, r2) (Option.some.inj h).symm
 ·cases h
theorem toList_ne {s : ByteArray} : s.toList = ([] : List UInt8) ↔ s = ⟨#[]⟩ := by
 rw [Lib.toList_data]
 exact ⟨fun h => ByteArray.ext (Array.toList_inj.1 h), fun h => by rw [h]⟩
def upE (l : List S42) (p : ByteArray) : Int := if upB p = ⟨#[]⟩ then 0 else if ∃ x ∈ l, x.f0 = upB p then if ∃ x ∈ l, x.f0 = upB p ∧ x.f1 = true then 0 else 7 else 5
def upOk (l : List S42) (p : ByteArray) : Prop := upL p.data.toList = [] ∨ ∃ d ∈ l, d.f0 = upB p ∧ d.f1 = true
theorem upE_zero {l : List S42} {p : ByteArray} : upE l p = 0 ↔ upOk l p := by
 unfold upE upOk
 rw [← upB_nil]
 by_cases h1 : upB p = ⟨#[]⟩
 ·simp [h1]
 ·rw [if_neg h1]
  by_cases h2 : ∃ x ∈ l, x.f0 = upB p ∧ x.f1 = true
  ·obtain ⟨x, hx, h3, h4⟩ := h2
   rw [if_pos ⟨x, hx, h3⟩, if_pos ⟨x, hx, h3, h4⟩]
   exact ⟨fun _ => .inr ⟨x, hx, h3, h4⟩, fun _ => rfl⟩
  ·rw [if_neg h2]
   constructor
   ·intro h
    split at h <;> cases h
   ·rintro (h | h)
    ·exact absurd h h1
    ·exact absurd h h2
theorem tree_up.eq {l : List S42} {p : ByteArray} (h : okT l) (hp : p.size < 4294967280) (hs : Srt S42.f0 l) (hg : Gd p.data.toList) : tree_up.f l p = some (upE l p) := by
 unfold tree_up.f upE
 rw [Up_eq (by omega), if_pos hg, Option.bind_some]
 dsimp only
 by_cases h1 : upB p = ⟨#[]⟩
 ·rw [if_pos (toList_ne.2 h1), if_pos h1]
 ·rw [if_neg (fun e => h1 (toList_ne.1 e)), if_neg h1, tree_find.eq h (by have := upB_size hg; omega) hs, Option.bind_some]
  dsimp only
  by_cases h2 : ∃ x ∈ l, x.f0 = upB p
  ·obtain ⟨hlt, hat⟩ := (lowB_at hs).2 h2
   rw [if_pos (decide_eq_true h2), if_pos h2, if_pos (Int.natCast_nonneg _), if_pos (by omega), rdT hlt]
   by_cases h3 : ∃ x ∈ l, x.f0 = upB p ∧ x.f1 = true
   ·obtain ⟨x, hx, h4, h5⟩ := h3
    have e : x = l[lowB S42.f0 (upB p) l] := srt_key hs hx (List.getElem_mem hlt) (h4.trans hat.symm)
    rw [if_pos (by rw [← e]; exact h5), if_pos ⟨x, hx, h4, h5⟩]
   ·rw [if_neg (fun h => h3 ⟨_, List.getElem_mem hlt, hat, h⟩), if_neg h3]
  ·rw [if_neg (by simpa using h2), if_neg h2]
def with1 (l : List S42) (p : ByteArray) (d : Bool) (b : List Int) : List S42 × Int := if upE l p = 0 then with0 l p d b else (l, upE l p)
theorem tree_with.eq {l : List S42} {p : ByteArray} {d : Bool} {b : List Int} (h : okT l) (hp : p.size < 4294967280) (hg : GT30 l) (hd : Gd p.data.toList) (hb : b.length ≤ 1000000000000) : tree_with.f l p d b = some (with1 l p d b) := by
 unfold tree_with.f with1
 rw [if_pos ⟨h.1, hp, hg.2.2.1, hb, h.2, by have := hg.1; omega⟩, tree_up.eq h hp hg.2.2.1 hd, Option.bind_some]
 split
 ·rfl
 ·rfl
def put0 (l : List S42) (p : ByteArray) (b : List Int) : List S42 × Int := if GT30 l then if Gd p.data.toList then with1 l p false b else (l, 4) else (l, 1)
theorem tree_Put.eq {l : List S42} {p : ByteArray} {b : List Int} (h : okT l) (hp : p.size < 4294967280) (hb : b.length ≤ 1000000000000) : tree_Put.f l p b = some (put0 l p b) := by
 unfold tree_Put.f put0
 rw [tree_Good.eq h, Option.bind_some]
 by_cases hg : GT30 l
 ·rw [if_pos (decide_eq_true hg), if_pos hg, Good_eq (by omega), Option.bind_some]
  by_cases hd : Gd p.data.toList
  ·rw [if_pos (decide_eq_true hd), if_pos hd, tree_with.eq h hp hg hd hb]
   rfl
  ·rw [if_neg (by simpa using hd), if_neg hd]
 ·rw [if_neg (by simpa using hg), if_neg hg]
def make0 (l : List S42) (p : ByteArray) : List S42 × Int := if findE l p = 0 then (l, 6) else if findE l p = 5 then with1 l p true [] else (l, findE l p)
theorem findE_five {l : List S42} {p : ByteArray} : findE l p = 5 ↔ GT30 l ∧ Gd p.data.toList ∧ ∀ x ∈ l, x.f0 ≠ p := by
 unfold findE
 constructor
 ·intro h
  split at h
  ·rename_i h1
   split at h
   ·rename_i h2
    split at h
    ·cases h
    ·rename_i h3
     exact ⟨h1, h2, fun x hx e => h3 ⟨x, hx, e⟩⟩
   ·cases h
  ·cases h
 ·rintro ⟨h1, h2, h3⟩
  rw [if_pos h1, if_pos h2, if_neg (fun ⟨x, hx, e⟩ => h3 x hx e)]
theorem findE_zero {l : List S42} {p : ByteArray} : findE l p = 0 ↔ GT30 l ∧ Gd p.data.toList ∧ ∃ x ∈ l, x.f0 = p := by
 unfold findE
 constructor
 ·intro h
  split at h
  ·rename_i h1
   split at h
   ·rename_i h2
    split at h
    ·rename_i h3
     exact ⟨h1, h2, h3⟩
    ·cases h
   ·cases h
  ·cases h
 ·rintro ⟨h1, h2, h3⟩
  rw [if_pos h1, if_pos h2, if_pos h3]
theorem tree_Make.eq {l : List S42} {p : ByteArray} (h : okT l) (hp : p.size < 4294967280) : tree_Make.f l p = some (make0 l p) := by
 unfold tree_Make.f make0
 obtain ⟨r1, r2, r3, he⟩ := tree_Find.eq h hp
 rw [he, Option.bind_some]
 dsimp only
 by_cases h0 : findE l p = 0
 ·rw [if_pos h0, if_pos h0]
 ·rw [if_neg h0, if_neg h0]
  by_cases h5 : findE l p = 5
  ·obtain ⟨hg, hd, _⟩ := findE_five.1 h5
   rw [if_pos h5, if_pos h5, tree_with.eq h hp hg hd (by decide)]
   rfl
  ·rw [if_neg h5, if_neg h5]
theorem tree_Bytes.eq {l : List S42} {k : Nat} (h : okT l) (hk : 40 < k) : tree_Bytes.f k l = some (if GT30 l then (nB30 l : Int) else 0) := by
 unfold tree_Bytes.f
 rw [tree_Good.eq h, Option.bind_some]
 by_cases hg : GT30 l
 ·have hl := hg.1
  rw [if_pos (decide_eq_true hg), if_pos hg, count_eq (by omega) (by omega) (by have := h.2; omega)]
  rfl
 ·rw [if_neg (by simpa using hg), if_neg hg]
theorem tree_Remove.eq {l : List S42} {p : ByteArray} (h : okT l) (hp : p.size < 4294967280) : tree_Remove.f l p = some (rem0 l p) := by
 unfold tree_Remove.f
 rw [if_pos ⟨h, hp⟩]
theorem tree_Same.eq {l l' : List S42} (h : okT l) (h' : okT l') : tree_Same.f l l' = some (decide (GT30 l) && decide (GT30 l') && sameL l l') := by
 unfold tree_Same.f
 rw [if_pos ⟨h, h'⟩]
theorem tree_Same.self {l : List S42} (h : okT l) (hg : GT30 l) : tree_Same.f l l = some true := by
 rw [tree_Same.eq h h, decide_eq_true hg, sameL_self]
 rfl
theorem GT_okT {l : List S42} (h : GT30 l) : okT l := by
 have h1 := h.1
 have h2 : nB30 l ≤ 16384 := h.2.1
 refine ⟨okP_iff.2 ⟨fun x hx => ?_, by omega⟩, by omega⟩
 have := gd_len (h.2.2.2 x hx).1
 rw [D_size]
 omega
theorem GT_ins {l : List S42} {p : ByteArray} {d : Bool} {b : List Int} (h : GT30 l) (hg : Gd p.data.toList) (hu : upOk l p) (hdb : d = true → b = []) (hn : ¬ ∃ x ∈ l, x.f0 = p ∧ x.f1 = true) (h1 : (insT l p d b).length ≤ 40) (h2 : b.length ≤ 2048) (h3 : nB30 (insT l p d b) ≤ 16384) : GT30 (insT l p d b) := by
 have hs := h.2.2.1
 have hmem : ∀ y, y ∈ insT l p d b ↔ y = ⟨p, d, b⟩ ∨ (y ∈ l ∧ y.f0 ≠ p) := fun y => insE_mem hs
 have hup : ∀ q : ByteArray, (∃ x ∈ l, x.f0 = q ∧ x.f1 = true) → ∃ x ∈ insT l p d b, x.f0 = q ∧ x.f1 = true := by
  rintro q ⟨x, hx, e1, e2⟩
  refine ⟨x, (hmem x).2 (.inr ⟨hx, fun e => hn ⟨x, hx, e, e2⟩⟩), e1, e2⟩
 refine ⟨h1, h3, insE_srt hs, fun y hy => ?_⟩
 rcases (hmem y).1 hy with rfl | ⟨hy, hyp⟩
 ·exact ⟨hg, hdb, h2, hu.imp id (fun h => hup _ h)⟩
 ·obtain ⟨a1, a2, a3, a4⟩ := h.2.2.2 y hy
  exact ⟨a1, a2, a3, a4.imp id (fun h => hup _ h)⟩
theorem with1_cases {l : List S42} {p : ByteArray} {d : Bool} {b : List Int} (h : GT30 l) (hg : Gd p.data.toList) (hdb : d = true → b = []) : ((with1 l p d b).1 = l ∧ (with1 l p d b).2 ≠ 0) ∨ (with1 l p d b = (insT l p d b, 0) ∧ GT30 (insT l p d b) ∧ upOk l p ∧ ¬ ∃ x ∈ l, x.f0 = p ∧ x.f1 = true) := by
 unfold with1
 by_cases hu : upE l p = 0
 ·rw [if_pos hu]
  unfold with0
  by_cases h1 : ∃ x ∈ l, x.f0 = p ∧ x.f1 = true
  ·rw [if_pos h1]
   exact .inl ⟨rfl, by show (7 : Int) ≠ 0; decide⟩
  ·rw [if_neg h1]
   by_cases h2 : (insT l p d b).length > 40 ∨ b.length > 2048 ∨ nB30 (insT l p d b) > 16384
   ·rw [if_pos h2]
    exact .inl ⟨rfl, by show (9 : Int) ≠ 0; decide⟩
   ·rw [if_neg h2]
    have hu' := upE_zero.1 hu
    exact .inr ⟨rfl, GT_ins h hg hu' hdb h1 (by omega) (by omega) (by omega), hu', h1⟩
 ·rw [if_neg hu]
  exact .inl ⟨rfl, hu⟩
instance : DecidableEq S42 := fun a b => if h : a.f0 = b.f0 ∧ a.f1 = b.f1 ∧ a.f2 = b.f2 then isTrue (by cases a; cases b; simp_all) else isFalse (by rintro rfl; exact h ⟨rfl, rfl, rfl⟩)
def aw1 : List S42 := [⟨⟨#[97]⟩, true, []⟩]
def aw2 : List S42 := [⟨⟨#[97]⟩, true, []⟩, ⟨⟨#[97, 47, 98]⟩, false, [120]⟩]
theorem aw_make : make0 [] ⟨#[97]⟩ = (aw1, 0) := by decide +kernel
theorem aw_put : put0 aw1 ⟨#[97, 47, 98]⟩ [120] = (aw2, 0) := by decide +kernel
theorem aw_good : GT30 aw2 := by decide +kernel
def tallymanlaw8_awake.f : Option Bool := some true
theorem tallymanlaw8_awake.calls (r : Bool) (w : World) (h : tallymanlaw8_awake.f = some r) :
  Calls Tryz.prog 5 #[] w fun e w' => e = .returned (.bool r) ∧ Below w.heap.size w w' := by
 obtain rfl := Option.some.inj h
 have hu26 := Tryz.underlying26
 have e1 : tree_Make.f [] ⟨#[97]⟩ = some (aw1, 0) := by rw [tree_Make.eq (by decide) (by decide), aw_make]
 have e2 : tree_Put.f aw1 ⟨#[97, 47, 98]⟩ [120] = some (aw2, 0) := by rw [tree_Put.eq (by decide) (by decide) (by decide), aw_put]
 have e3 : tree_Good.f aw2 = some true := by rw [tree_Good.eq (by decide), decide_eq_true aw_good]
 go_enter Tryz.func5, Tryz.ntmps5
 go_wp2_with (fail)
 refine (tree_Make.calls (fun _ => False) none 0 [] ⟨#[97]⟩ aw1 0 w (Kd.V_nil _ _ _ _ _) e1).mono ?_
 rintro e W1 ⟨v1, rfl, hV1, hb1⟩
 have hV1' := hV1
 obtain ⟨A1, c1, rfl⟩ := Kd.V_slice hV1
 clear e1
 dsimp only
 have bk := blk_new W1 (.cells #[.slice A1 aw1.length c1] 26)
 have bB := below_alloc hb1 (.cells #[.slice A1 aw1.length c1] 26)
 have m1 := blk_cell bk 0
 have hbs := hb1.size
 have hVq := Kd.V_alloc (Kd.V_bound hV1) (.cells #[.slice A1 aw1.length c1] 26)
 clear hV1 hV1' hb1
 go_wp2_with (refine gate_dst (N := 11) rfl ?_; refine Stop.out ?_)
 obtain ⟨gb, hgb⟩ : ∃ gb, gb = W1.heap.size := ⟨_, rfl⟩
 rw [← hgb] at bk m1 hVq ⊢
 have hgw : w.heap.size ≤ gb := by rw [hgb]; exact hbs
 clear hgb hbs
 generalize W1.alloc (.cells #[.slice A1 aw1.length c1] 26) = Wq at *
 constructor
 go_wp2_with ((with_reducible refine gate_dst (N := 12) rfl ?_); refine V_mlit (xs := [120]) (n := 1) (N := 12) ?hg ?hd (.tmp 11) (t := 29) (e := 5) rfl rfl Tryz.underlying29 Tryz.underlying5 rfl rfl (by decide) ?_; (case hd => rfl); (case hg => rfl); intro vx wx hv bx hg_ hnew; refine Stop.out ?_)
 obtain ⟨Ax, cx, rfl, hcx, hFx⟩ := hv
 have bk2 := (bx.block _ (blk_lt bk)).trans bk
 have bB2 := bB.trans (bx.mono bB.size)
 have m2 := blk_cell bk2 0
 have hV2 := Kd.V_below hVq bx
 have hxs := bx.size
 clear m1 hg_ hnew bB
 constructor
 go_wp2_with (fail)
 refine (tree_Put.calls _ A1 c1 aw1 ⟨#[97, 47, 98]⟩ Ax cx [120] aw2 0 wx hV2 (Kd.F_now hFx) hcx e2).mono ?_
 rintro e W3 ⟨v3, rfl, hV3, hb3⟩
 obtain ⟨A3, c3, rfl⟩ := Kd.V_slice hV3
 have hc3 := (Kd.V_reads' hV3).2
 have bk3 := (hb3.block _ (blk_lt bk2)).trans bk2
 have bk4 := blk_put (cs := #[.slice A1 aw1.length c1]) bk3 0 (.slice A3 aw2.length c3) rfl
 have bB3 := bB2.trans (hb3.mono bB2.size)
 clear bk2 bB2 m2 hV2 bx
 dsimp only
 have m3 := blk_cell bk3 0
 have f3 := blk_frozen bk3 0
 have hgx : gb < wx.heap.size := Nat.lt_of_lt_of_le (blk_lt bk) hxs
 have hV4 := Kd.V_far (p := ⟨gb, 0, none⟩) hV3 (fun k hk => by show k ≠ gb; rcases hk with hk | hk <;> omega) (.slice A3 aw2.length c3)
 have bB4 := bB3.setCell (p := ⟨gb, 0, none⟩) hgw (.slice A3 aw2.length c3)
 obtain ⟨ad, A5, c5, rfl, k0, k1, k2, k3, k4⟩ := atT (Kd.V_reads' hV4).2.2 0 (by decide)
 obtain ⟨ad', A6, c6, e6, l0, l1, l2, l3, l4⟩ := atT (Kd.V_reads' hV4).2.2 1 (by decide)
 obtain rfl : ad = ad' := by injection e6
 have hcv := Kd.C_string (P := Tryz.prog) (A := A6) (c := c6) Tryz.underlying29 Tryz.underlying5 Tryz.underlying9 l4
 have HV4 := Aside0.mk hV4
 have HC3 := Aside0.mk hc3
 have q1 : (W3.setCell ⟨gb, 0, none⟩ (.slice (some ad) aw2.length c3)).cell? ⟨ad.block, ad.off + 1, none⟩ = some (.bool true) := by
  have h := k1
  rw [show ad.add (0 * 3) = ad by simp [Addr.add]] at h
  exact h
 have q2 : (W3.setCell ⟨gb, 0, none⟩ (.slice (some ad) aw2.length c3)).cell? ⟨ad.block, ad.off + 3 + 2, none⟩ = some (.slice A6 1 c6) := by
  have h := l2
  simp only [Nat.one_mul, Addr.add, show ¬ (3 = 0) by decide, if_false] at h
  exact h
 have q3 : (convert 29 9 (.slice A6 1 c6)).run Tryz.prog (W3.setCell ⟨gb, 0, none⟩ (.slice (some ad) aw2.length c3)) = .ok (.string ⟨#[120]⟩) (W3.setCell ⟨gb, 0, none⟩ (.slice (some ad) aw2.length c3)) := hcv
 clear k1 l2 hcv
 clear k0 k2 l0 l1 e6 hV3 hVq hFx hV4 hc3 l4 k4
 go_wp2_with (fail)
 refine (tree_Good.calls (some ad) c3 aw2 true _ (Kd.V_reads' HV4.out).2.2 HC3.out.1 e3).mono ?_
 rintro e W5 ⟨rfl, hb5⟩
 have bB5 := bB4.trans (hb5.mono bB4.size)
 dsimp only
 go_wp2_with (fail)
 go_ret
 exact ⟨rfl, bB5⟩
end Go.Proofs.YtidlldfghkaeeaaGreatDoor.P
