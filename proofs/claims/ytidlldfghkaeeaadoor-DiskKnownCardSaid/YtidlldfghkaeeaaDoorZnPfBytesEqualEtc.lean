/- Put together by pack2.py: PfBytesEqual, SamE, TreeSam, DelE, PfTreeFind -/
import Derived.Test.YtidlldfghkaeeaaDoorZnOwn53Etc
import Derived.Test.YtidlldfghkaeeaaDoorZnPfTreeEntryOwnEtc
import Derived.Test.YtidlldfghkaeeaaDoorZnTreeOk
import Derived.Test.YtidlldfghkaeeaaDoorZnInsEEtc
import Derived.Test.YtidlldfghkaeeaaDoorZnLaidKEtc
import Derived.Test.YtidlldfghkaeeaaDoorZnPfPathPartsEtc
import Derived.Test.YtidlldfghkaeeaaDoorZnW0
section
namespace Go.Proofs.YtidlldfghkaeeaaDoor.P
open Go.RowKit Go.Proofs.YtidlldfghkaeeaaDoorW.PrintWords Go.Proofs.YtidlldfghkaeeaaDoorW.PrintLast Go.Proofs.YtidlldfghkaeeaaDoorW.PrintMore
attribute [local go_sem] max2_int min2_int max_two min_two max_three min_three max_four min_four   -- for this text's walks alone
set_option linter.unusedVariables false
set_option linter.unusedSimpArgs false
/-! ### bytes_Equal: function 71 -/
def bytes_Equal.f (l0 : List Int) (l1 : List Int) : Option (Bool) := some ((strOfNums l0).toList == (strOfNums l1).toList)
end Go.Proofs.YtidlldfghkaeeaaDoor.P
end
section
namespace Go.Proofs.YtidlldfghkaeeaaDoor.P
open Go.RowKit Go.Proofs.YtidlldfghkaeeaaDoorW.PrintWords Go.Proofs.YtidlldfghkaeeaaDoorW.PrintLast Go.Proofs.YtidlldfghkaeeaaDoorW.PrintMore
set_option linter.unusedVariables false
set_option linter.unusedSimpArgs false

/-- Two entries, as the program tells them alike. -/
def sameE (x y : S30) : Bool := (x.f0.toList == y.f0.toList) && (x.f1 == y.f1) && ((strOfNums x.f2).toList == (strOfNums y.f2).toList)
def sameL (l l' : List S30) : Bool := decide (l.length = l'.length) && (l.zip l').all fun p => sameE p.1 p.2
end Go.Proofs.YtidlldfghkaeeaaDoor.P
end
section
namespace Go.Proofs.YtidlldfghkaeeaaDoor.P
open Go.RowKit Go.Proofs.YtidlldfghkaeeaaDoorW.PrintWords Go.Proofs.YtidlldfghkaeeaaDoorW.PrintLast Go.Proofs.YtidlldfghkaeeaaDoorW.PrintMore
set_option linter.unusedVariables false
set_option linter.unusedSimpArgs false

def okT (l : List S30) : Prop := okP l = true ∧ nB30 l ≤ 1000000000000
instance (l : List S30) : Decidable (okT l) := by unfold okT; exact inferInstance
theorem tree_Good.eq {l : List S30} (h : okT l) : tree_Good.f l = some (decide (GT30 l)) := by
  unfold tree_Good.f
  exact if_pos h
def tree_Same.f (l l' : List S30) : Option Bool := if okT l ∧ okT l' then some (decide (GT30 l) && decide (GT30 l') && sameL l l') else none
end Go.Proofs.YtidlldfghkaeeaaDoor.P
end
section
namespace Go.Proofs.YtidlldfghkaeeaaDoor.P
open Go.RowKit Go.Proofs.YtidlldfghkaeeaaDoorW.PrintWords Go.Proofs.YtidlldfghkaeeaaDoorW.PrintLast Go.Proofs.YtidlldfghkaeeaaDoorW.PrintMore
set_option linter.unusedVariables false
set_option linter.unusedSimpArgs false

/-- Cuts of any row, told out. -/
theorem run_lowX (A : Option Addr) (n c m : Nat) (hn : m ≤ n) (W : World) : (Instr.slice 22 (.slice A n c) (some (.int .i64 (m : Int))) none none).run Tryd.prog W = .ok (.slice (if c = m then A else A.map (·.add (m * 3))) (n - m) (c - m)) W := by
 have hs := sizeE
 cases hq : Tryd.prog.info? 30 with
 | none => simp [hq] at hs
 | some i =>
  have hi : i.size = 3 := by simpa [hq] using hs
  have hel : Tryd.prog.elem 22 = 30 := by simp [Program.elem, Tryd.underlying22]
  have hu : Tryd.prog.underlying 22 = some (.slice (Tryd.prog.elem 22)) := by rw [hel]; exact Tryd.underlying22
  rw [run_slice_l W 22 A n c hu .i64 (m : Int) (Int.natCast_nonneg _) (by omega), hel]
  simp [sizeOf, typeInfo, hq, hi, sliced, Result.andThen]
theorem run_lhm (A : Option Addr) (n c l h m : Nat) (h1 : l ≤ h) (h2 : h ≤ m) (h3 : m ≤ c) : ∃ v : Value, ∀ W : World, (Instr.slice 22 (.slice A n c) (some (.int .i64 (l : Int))) (some (.int .i64 (h : Int))) (some (.int .i64 (m : Int)))).run Tryd.prog W = .ok v W := by
 have hs := sizeE
 cases hq : Tryd.prog.info? 30 with
 | none => simp [hq] at hs
 | some i =>
  have hi : i.size = 3 := by simpa [hq] using hs
  have hel : Tryd.prog.elem 22 = 30 := by simp [Program.elem, Tryd.underlying22]
  have hu : Tryd.prog.underlying 22 = some (.slice (Tryd.prog.elem 22)) := by rw [hel]; exact Tryd.underlying22
  refine ⟨sliced A l h m 3, fun W => ?_⟩
  rw [run_slice_lhm W 22 A n c hu .i64 .i64 .i64 (l : Int) (h : Int) (m : Int) (Int.natCast_nonneg _) (by omega) (by omega) (by omega), hel]
  simp [sizeOf, typeInfo, hq, hi, Result.andThen]
theorem run_lh (g n c l h : Nat) (h1 : l ≤ h) (h2 : h ≤ c) (h3 : l < c) (W : World) : (Instr.slice 22 (.slice (some ⟨g, 0, none⟩) n c) (some (.int .i64 (l : Int))) (some (.int .i64 (h : Int))) none).run Tryd.prog W = .ok (.slice (some ⟨g, l * 3, none⟩) (h - l) (c - l)) W := by
 have hs := sizeE
 cases hq : Tryd.prog.info? 30 with
 | none => simp [hq] at hs
 | some i =>
  have hi : i.size = 3 := by simpa [hq] using hs
  have hel : Tryd.prog.elem 22 = 30 := by simp [Program.elem, Tryd.underlying22]
  have hu : Tryd.prog.underlying 22 = some (.slice (Tryd.prog.elem 22)) := by rw [hel]; exact Tryd.underlying22
  rw [run_slice_lh W 22 _ n c hu .i64 .i64 (l : Int) (h : Int) (Int.natCast_nonneg _) (by omega) (by omega), hel]
  simp [sizeOf, typeInfo, hq, hi, sliced, Result.andThen, show ¬ c = l by omega, add_at]
/-- clear, at elements of three cells. -/
theorem run_clear3 (w : World) (g o n : Nat) (cur : Array Value) (hg : w.heap[g]? = some (.cells cur 30 (0, 0))) (hn : 0 < n) (hfit : o + n * 3 ≤ cur.size) : ∃ zs : List Value, zs.length = n * 3 ∧ ∀ ty c,
  (Builtin.clear_ #[22] ty #[.slice (some ⟨g, o, none⟩) n c]).run Tryd.prog w = .ok (.tuple #[]) (w.setRow g (cur.toList.take o ++ zs ++ cur.toList.drop (o + n * 3)).toArray) := by
 have hz : ∀ W, (zeroValue 30).run Tryd.prog W = .ok (.agg #[.string ⟨#[]⟩, .bool false, .slice none 0 0]) W := fun W => by
  have h := infoE
  cases hh : Tryd.prog.info? 30 with
  | none => rw [hh] at h; cases h
  | some v =>
   rw [hh] at h
   simp only [Option.map_some, Option.some.injEq, Prod.mk.injEq] at h
   simp [zeroValue, typeInfo, hh, h.1]
 obtain ⟨zs, hzs⟩ : ∃ zs, zs = (Builtin.zeroCells (Value.cells (.agg #[.string ⟨#[]⟩, .bool false, .slice none 0 0])) n).toList := ⟨_, rfl⟩
 have hc : Value.cells (.agg #[.string ⟨#[]⟩, .bool false, .slice none 0 0]) = #[.string ⟨#[]⟩, .bool false, .slice none 0 0] := rfl
 have hl : zs.length = n * 3 := by
  rw [hzs, hc]
  simp [Builtin.zeroCells]
 have h1 : ∀ v ∈ zs, v.oneCell' = true := by
  intro v hv
  rw [hzs, hc] at hv
  simp only [Builtin.zeroCells, Array.toList_map, List.mem_map] at hv
  obtain ⟨i, _, rfl⟩ := hv
  have hi : i % 3 = 0 ∨ i % 3 = 1 ∨ i % 3 = 2 := by omega
  show (#[Value.string ⟨#[]⟩, .bool false, .slice none 0 0][i % 3]!).oneCell' = true
  rcases hi with h | h | h <;> rw [h] <;> rfl
 refine ⟨zs, hl, fun ty c => ?_⟩
 have hst := run_storeCells_at Tryd.prog g o 30 zs 0 cur w hg (by rw [hl]; omega) h1
 simp only [Nat.add_zero] at hst
 rw [hl] at hst
 obtain ⟨m, rfl⟩ : ∃ m, n = m + 1 := ⟨n - 1, by omega⟩
 have hu := Tryd.underlying22
 simp [Builtin.clear_, run_underlying hu, hz, ← hzs, hst]
/-- What lies behind a row may turn. -/
theorem NB.tail {W : World} {base : Nat} {ok : Nat → Prop} {g n cap : Nat} {rows : List (List Value)} {tail : List Value} {xs : List S30} (h : NB W base ok g n cap rows tail xs) {tail' : List Value} (ht : tail'.length = tail.length) : NB (W.setRow g (rows.flatten ++ tail').toArray) base ok g n cap rows tail' xs :=
 ⟨setRow_heap _ g _ _ _ _ h.hb, h.hg, h.hok, h.hn, h.hc, h.hm, h.hl, h.hw, by rw [ht]; exact h.ht, fun j x c hx hc => Kd.FK_step (h.hf j x c hx hc) fun k hk hlt => setRow_other _ _ _ _ hk.2⟩
/-- clear of what lies behind a row. -/
theorem clear_tail {W : World} {base : Nat} {ok : Nat → Prop} {g n cap : Nat} {xs : List S30} (h : Kd.N k30 30 W base ok (.slice (some ⟨g, 0, none⟩) n cap) xs) (k : Nat) (hk : 0 < k) (hc : n + k ≤ cap) : ∃ W' : World, (∀ ty c', (Builtin.clear_ #[22] ty #[.slice (some ⟨g, n * 3, none⟩) k c']).run Tryd.prog W = .ok (.tuple #[]) W') ∧ Kd.N k30 30 W' base ok (.slice (some ⟨g, 0, none⟩) n cap) xs ∧ ∀ B w, Below B w W → B ≤ base → Below B w W' := by
 obtain ⟨rows, tail, hNB⟩ := N_NB h
 have hfl := flat_len (fun r hr => (hNB.hw r hr).1)
 have hl := hNB.hl
 have ht := hNB.ht
 have hsz : (rows.flatten ++ tail).toArray.size = cap * 3 := by
  rw [List.size_toArray, List.length_append, hfl, ht, hl]
  have := hNB.hc
  omega
 have e : ∀ zs : List Value, zs.length = k * 3 → ((rows.flatten ++ tail).toArray.toList.take (n * 3) ++ zs ++ (rows.flatten ++ tail).toArray.toList.drop (n * 3 + k * 3)) = rows.flatten ++ (zs ++ tail.drop (k * 3)) := fun zs hz => by
  rw [List.toList_toArray, List.take_append_of_le_length (by rw [hfl, hl]; exact Nat.le_refl _), List.take_of_length_le (by rw [hfl, hl]; exact Nat.le_refl _), List.append_assoc, List.drop_append, List.drop_of_length_le (l := rows.flatten) (by rw [hfl, hl]; omega), List.nil_append, hfl, hl, show n * 3 + k * 3 - n * 3 = k * 3 by omega]
 have hall : ∃ zs : List Value, zs.length = k * 3 ∧ ∀ ty c', (Builtin.clear_ #[22] ty #[.slice (some ⟨g, n * 3, none⟩) k c']).run Tryd.prog W = .ok (.tuple #[]) (W.setRow g (rows.flatten ++ (zs ++ tail.drop (k * 3))).toArray) := by
  obtain ⟨zs, hzl, hrun⟩ := run_clear3 W g (n * 3) k _ hNB.hb hk (by rw [hsz]; omega)
  refine ⟨zs, hzl, fun ty c' => ?_⟩
  rw [← e zs hzl]
  exact hrun ty c'
 obtain ⟨zs, hzl, hrun⟩ := hall
 exact ⟨_, hrun, NB_N (hNB.tail (by rw [List.length_append, hzl, List.length_drop, ht]; have := hNB.hc; omega)), fun B w hb hB => below_setRow hb (Nat.le_trans hB hNB.hg) _⟩
/-- clear of what lies behind a row; no other block turns. -/
theorem clear_tailK {W : World} {base : Nat} {ok : Nat → Prop} {g n cap : Nat} {xs : List S30} (h : Kd.N k30 30 W base ok (.slice (some ⟨g, 0, none⟩) n cap) xs) (k : Nat) (hk : 0 < k) (hc : n + k ≤ cap) : ∃ W' : World, (∀ ty c', (Builtin.clear_ #[22] ty #[.slice (some ⟨g, n * 3, none⟩) k c']).run Tryd.prog W = .ok (.tuple #[]) W') ∧ Kd.N k30 30 W' base ok (.slice (some ⟨g, 0, none⟩) n cap) xs ∧ (∀ B w, Below B w W → B ≤ base → Below B w W') ∧ ∀ j, j ≠ g → W'.heap[j]? = W.heap[j]? := by
 obtain ⟨rows, tail, hNB⟩ := N_NB h
 have hfl := flat_len (fun r hr => (hNB.hw r hr).1)
 have hl := hNB.hl
 have ht := hNB.ht
 have hsz : (rows.flatten ++ tail).toArray.size = cap * 3 := by
  rw [List.size_toArray, List.length_append, hfl, ht, hl]
  have := hNB.hc
  omega
 have e : ∀ zs : List Value, zs.length = k * 3 → ((rows.flatten ++ tail).toArray.toList.take (n * 3) ++ zs ++ (rows.flatten ++ tail).toArray.toList.drop (n * 3 + k * 3)) = rows.flatten ++ (zs ++ tail.drop (k * 3)) := fun zs hz => by
  rw [List.toList_toArray, List.take_append_of_le_length (by rw [hfl, hl]; exact Nat.le_refl _), List.take_of_length_le (by rw [hfl, hl]; exact Nat.le_refl _), List.append_assoc, List.drop_append, List.drop_of_length_le (l := rows.flatten) (by rw [hfl, hl]; omega), List.nil_append, hfl, hl, show n * 3 + k * 3 - n * 3 = k * 3 by omega]
 obtain ⟨zs, hzl, hrun⟩ := run_clear3 W g (n * 3) k _ hNB.hb hk (by rw [hsz]; omega)
 refine ⟨W.setRow g (rows.flatten ++ (zs ++ tail.drop (k * 3))).toArray, fun ty c' => ?_, NB_N (hNB.tail (by rw [List.length_append, hzl, List.length_drop, ht]; have := hNB.hc; omega)), fun B w hb hB => below_setRow hb (Nat.le_trans hB hNB.hg) _, fun j hj => setRow_other _ _ _ _ hj⟩
 rw [← e zs hzl]
 exact hrun ty c'
set_option maxHeartbeats 8000000 in
set_option maxRecDepth 100000 in
theorem DeleteEK_calls (B : Nat) (ok : Nat → Prop) (v0 : Value) (i : Nat) (ii jj : Int) (xs : List S30) (w : World) (h : Kd.N k30 30 w B ok v0 xs) (hB : B ≤ w.heap.size) (hi : i < xs.length) (hn : xs.length ≤ 100000) (hii : ii = (i : Int)) (hjj : jj = ((i + 1 : Nat) : Int)) :
  Calls Tryd.prog 67 #[v0, .int .i64 ii, .int .i64 jj] w fun e w' => ∃ v', e = .returned v' ∧ Kd.N k30 30 w' B ok v' (xs.eraseIdx i) ∧ Below B w w' ∧ ∀ k, k < w.heap.size → some k ≠ v0.ownBlock → w'.heap[k]? = w.heap[k]? := by
 obtain ⟨g, c, rfl, hg1, hg2, _⟩ := Kd.N_form h (by omega)
 obtain ⟨n, hnx⟩ : ∃ n, n = xs.length := ⟨_, rfl⟩
 rw [← hnx] at h hi hn ⊢
 have hnc := (Kd.N_reads' h).2.1
 obtain ⟨v1, hs0⟩ := run_lhm (some ⟨g, 0, none⟩) n c i (i + 1) n (by omega) (by omega) hnc
 have hs1 := fun W => run_high W (some ⟨g, 0, none⟩) n c i (by omega)
 obtain ⟨A', hA'⟩ : ∃ A' : Option Addr, A' = if c = i + 1 then (some ⟨g, 0, none⟩ : Option Addr) else (some (⟨g, 0, none⟩ : Addr)).map (·.add ((i + 1) * 3)) := ⟨_, rfl⟩
 have hs2 := fun W => run_lowX (some ⟨g, 0, none⟩) n c (i + 1) (by omega) W
 rw [← hA'] at hs2
 obtain ⟨q, hq⟩ : ∃ q, q = n - 1 := ⟨_, rfl⟩
 have hs3 := fun W => run_lh g q c q n (by omega) hnc (by omega) W
 rw [show n - q = 1 by omega] at hs3
 have hA2 : A' = if c = i + 1 then (some ⟨g, 0, none⟩ : Option Addr) else (some (⟨g, 0, none⟩ : Addr)).map (·.add ((i + 1) * k30.sz)) := hA'
 rw [← hii] at hs0 hs1
 rw [← hjj] at hs0 hs2
 have g1 : (ii == jj) = false := beq_eq_false_iff_ne.2 (by omega)
 have HQ := Aside0.mk hq
 have HA2 := Aside0.mk hA2
 have HI := Aside0.mk hi
 have HNC := Aside0.mk hnc
 have HS3 := Aside0.mk hs3
 clear hq hA2 hA' hii hjj hnx hnc hs3
 go_enter Tryd.func67, Tryd.ntmps67
 go_wp2_with (fail)
 have hDd : Below w.heap.size w w.drew := below_drew (Below.refl _ _)
 have hNd := Kd.N_below h hDd
 have hBd : B ≤ w.drew.heap.size := hB
 refine start_ (n := 8) (S := fun w' => True) (ds := []) (bs_ 8 0x0) (by kernel_rfl) rfl rfl trivial (fun hHeld => ?_)
 generalize w.drew = wd at hNd hBd hHeld hDd ⊢
 refine pure_ (i := 0) (N := some 20) (v := ?_) (a' := ?_) (bs_ 8 0x1) rfl rfl (by kernel_rfl) (fun _ _ _ h => h) (Or.inl ⟨by rfl, ?_⟩) ?_ ?_; rotate_left; (intro w'; go_simp; with_reducible rfl); rotate_left; (simp only [nm_]; rfl)
 refine pure_ (i := 1) (N := some 21) (v := ?_) (a' := ?_) (bs_ 8 0x3) rfl rfl (by kernel_rfl) (fun _ _ _ h => h) (Or.inl ⟨by rfl, ?_⟩) ?_ ?_; rotate_left; (intro w'; go_simp; with_reducible rfl); rotate_left; (simp only [nm_]; rfl)
 refine pure_ (i := 2) (N := some 22) (v := ?_) (a' := ?_) (bs_ 8 0x7) rfl rfl (by kernel_rfl) (fun _ _ _ h => h) (Or.inl ⟨by rfl, ?_⟩) ?_ ?_; rotate_left; (intro w'; go_simp; with_reducible rfl); rotate_left; (simp only [nm_]; rfl)
 refine pure_ (i := 3) (N := some 23) (v := ?_) (a' := ?_) (bs_ 8 0xf) rfl rfl (by kernel_rfl) (fun _ _ _ h => h) (Or.inl ⟨by rfl, ?_⟩) ?_ ?_; rotate_left; (intro w'; go_simp; with_reducible rfl); rotate_left; (simp only [nm_]; rfl)
 refine pure_ (i := 4) (N := some 24) (v := ?_) (a' := ?_) (bs_ 8 0x1f) rfl rfl (by kernel_rfl) (fun _ _ _ h => h) (Or.inl ⟨by rfl, ?_⟩) ?_ ?_; rotate_left; (intro w'; go_simp; with_reducible rfl); rotate_left; (simp only [nm_]; rfl)
 refine pure_ (i := 5) (N := some 25) (v := ?_) (a' := ?_) (bs_ 8 0x3f) rfl rfl (by kernel_rfl) (fun _ _ _ h => h) (Or.inl ⟨by rfl, ?_⟩) ?_ ?_; rotate_left; (intro w'; go_simp; with_reducible rfl); rotate_left; (simp only [nm_]; rfl)
 refine one_ (i := 6) (N := some 26) (bs_ 8 0x7f) rfl rfl (by kernel_rfl) (by decide) (fun K hK => ?_)
 refine Kd.N_delete_step k30 (w0 := wd) B (by rfl) (.tmp 22) (.tmp 25) 22 30 rfl Tryd.underlying22 sizeE (k := i) (n := n) (g := g) (c := c) rfl rfl HA2.out rfl hNd HI.out (Below.refl _ _) hBd ?_
 intro w2 hr2 hb2 hg2
 refine hK.out _ _ trivial (fun hHeld => ?_)
 clear hK K
 refine norm_ (a' := ?_) ?_ ?_
 rotate_left
 ·show Act.put _ (some 26) _ = _
  simp only [nm_]
  rfl
 refine pure_ (i := 7) (N := some 0) (v := ?_) (a' := ?_) (bs_ 8 0xff) rfl rfl (by kernel_rfl) (fun _ _ _ h => h) (Or.inl ⟨by rfl, ?_⟩) ?_ ?_; rotate_left; (intro w'; go_simp; with_reducible rfl); rotate_left; (simp only [nm_]; rfl)
 refine done_ (by kernel_rfl) ?_

 have hqn : n - 1 = q := HQ.out.symm
 rw [hqn] at hr2 ⊢
 clear hqn
 obtain ⟨W5, hcl, hN5, hB5, hK5⟩ := clear_tailK hr2 1 (by omega) (by have := HNC.out; have := HQ.out; have := HI.out; omega)
 have hs3 := HS3.out
 have HN5 := Aside0.mk hN5
 have HB5 : Aside0 (Below B w W5) := ⟨hB5 B w ((hDd.mono hB).trans hb2) (Nat.le_refl _)⟩
 have HK5 : Aside0 (∀ k, k < w.heap.size → some k ≠ (Value.slice (some ⟨g, 0, none⟩) n c).ownBlock → W5.heap[k]? = w.heap[k]?) := ⟨fun k hk hne => by
  have hkg : k ≠ g := fun e => hne (by rw [e]; rfl)
  exact (hK5 k hkg).trans ((hg2.block k (Nat.lt_of_lt_of_le hk hDd.size) (by intro e; injection e with e; exact hkg e)).trans (hDd.block k hk))⟩
 clear hK5 hN5 hB5 hr2 hb2 hg2 hNd hDd hs0 hs1 hs2 h
 go_wp2_with (fail)
 go_ret
 exact ⟨_, rfl, HN5.out, HB5.out, HK5.out⟩
theorem DeleteE_calls (B : Nat) (ok : Nat → Prop) (v0 : Value) (i : Nat) (ii jj : Int) (xs : List S30) (w : World) (h : Kd.N k30 30 w B ok v0 xs) (hB : B ≤ w.heap.size) (hi : i < xs.length) (hn : xs.length ≤ 100000) (hii : ii = (i : Int)) (hjj : jj = ((i + 1 : Nat) : Int)) :
  Calls Tryd.prog 67 #[v0, .int .i64 ii, .int .i64 jj] w fun e w' => ∃ v', e = .returned v' ∧ Kd.N k30 30 w' B ok v' (xs.eraseIdx i) ∧ Below B w w' :=
 (DeleteEK_calls B ok v0 i ii jj xs w h hB hi hn hii hjj).mono fun _ _ ⟨v', h1, h2, h3, _⟩ => ⟨v', h1, h2, h3⟩
end Go.Proofs.YtidlldfghkaeeaaDoor.P
end
section
namespace Go.Proofs.YtidlldfghkaeeaaDoor.P
open Go.RowKit Go.Proofs.YtidlldfghkaeeaaDoorW.PrintWords Go.Proofs.YtidlldfghkaeeaaDoorW.PrintLast Go.Proofs.YtidlldfghkaeeaaDoorW.PrintMore
attribute [local go_sem] max2_int min2_int max_two min_two max_three min_three max_four min_four   -- for this text's walks alone
set_option linter.unusedVariables false
set_option linter.unusedSimpArgs false
/-! ### tree_Find: function 16 -/
def tree_Find.f (l0_0 : List (S30)) (a1 : ByteArray) : Option (ByteArray × Bool × List Int × Int) := (tree_Good.f l0_0).bind fun t134 => (if t134 = true then ((path_Good.f a1).bind fun t135 => (if t135 = true then ((tree_find.f l0_0 a1).bind fun bt136 => (if bt136.2 = true then (if 0 ≤ bt136.1 then (if bt136.1 < (l0_0.length : Int) then ((tree_Entry_own.f ((rd_T30 l0_0 bt136.1).f0) ((rd_T30 l0_0 bt136.1).f1) ((rd_T30 l0_0 bt136.1).f2)).bind fun bt139 => (some (bt139.1, bt139.2.1, bt139.2.2, 0))) else (none)) else (none)) else (some ((⟨#[]⟩ : ByteArray), false, ([] : List Int), 5)))) else (some ((⟨#[]⟩ : ByteArray), false, ([] : List Int), 4)))) else (some ((⟨#[]⟩ : ByteArray), false, ([] : List Int), 1)))
set_option maxHeartbeats 8000000 in
set_option maxRecDepth 100000 in
theorem tree_Find.calls (A0_0 : Option Addr) (c0_0 : Nat) (l0_0 : List (S30)) (a1 : ByteArray) (r1 : ByteArray) (r2 : Bool) (r3 : List Int) (r4 : Int) (w : World) (hr0_0 : Kd.C k30 w A0_0 l0_0.length l0_0) (hc0_0 : l0_0.length ≤ c0_0) (h : tree_Find.f l0_0 a1 = some (r1, r2, r3, r4)) :
  Calls Tryd.prog 16 #[.agg #[.slice A0_0 l0_0.length c0_0], .string a1] w fun e w' => ∃ v2_ : Value, e = .returned (.tuple #[.agg #[.string r1, .bool r2, v2_], .int .i64 r4]) ∧ Kd.R (Kd.int .u8) 5 w' w.heap.size (fun _ => True) v2_ r3 ∧ Below w.heap.size w w' := by
 have hu26 := Tryd.underlying26
 have hu30 := Tryd.underlying30
 have HR0_0 := Aside0.mk hr0_0
 have HC0_0 := Aside0.mk hc0_0
 clear hr0_0 hc0_0
 have HB := xa_ (Below.refl w.heap.size w)
 have H : ((tree_Good.f l0_0).bind fun t134 => (if t134 = true then ((path_Good.f a1).bind fun t135 => (if t135 = true then ((tree_find.f l0_0 a1).bind fun bt136 => (if bt136.2 = true then (if 0 ≤ bt136.1 then (if bt136.1 < (l0_0.length : Int) then ((tree_Entry_own.f ((rd_T30 l0_0 bt136.1).f0) ((rd_T30 l0_0 bt136.1).f1) ((rd_T30 l0_0 bt136.1).f2)).bind fun bt139 => (some (bt139.1, bt139.2.1, bt139.2.2, 0))) else (none)) else (none)) else (some ((⟨#[]⟩ : ByteArray), false, ([] : List Int), 5)))) else (some ((⟨#[]⟩ : ByteArray), false, ([] : List Int), 4)))) else (some ((⟨#[]⟩ : ByteArray), false, ([] : List Int), 1)))) = some (r1, r2, r3, r4) := h
 clear h
 replace H := Option.bind_eq_some_iff.mp H
 obtain ⟨t134, A30, H⟩ := H
 replace H : (if t134 = true then ((path_Good.f a1).bind fun t135 => (if t135 = true then ((tree_find.f l0_0 a1).bind fun bt136 => (if bt136.2 = true then (if 0 ≤ bt136.1 then (if bt136.1 < (l0_0.length : Int) then ((tree_Entry_own.f ((rd_T30 l0_0 bt136.1).f0) ((rd_T30 l0_0 bt136.1).f1) ((rd_T30 l0_0 bt136.1).f2)).bind fun bt139 => (some (bt139.1, bt139.2.1, bt139.2.2, 0))) else (none)) else (none)) else (some ((⟨#[]⟩ : ByteArray), false, ([] : List Int), 5)))) else (some ((⟨#[]⟩ : ByteArray), false, ([] : List Int), 4)))) else (some ((⟨#[]⟩ : ByteArray), false, ([] : List Int), 1))) = some (r1, r2, r3, r4) := H
 have A3 := Aside0.mk A30
 clear A30
 by_cases c4 : t134 = true
 ·subst c4
  have H1 : ((path_Good.f a1).bind fun t135 => (if t135 = true then ((tree_find.f l0_0 a1).bind fun bt136 => (if bt136.2 = true then (if 0 ≤ bt136.1 then (if bt136.1 < (l0_0.length : Int) then ((tree_Entry_own.f ((rd_T30 l0_0 bt136.1).f0) ((rd_T30 l0_0 bt136.1).f1) ((rd_T30 l0_0 bt136.1).f2)).bind fun bt139 => (some (bt139.1, bt139.2.1, bt139.2.2, 0))) else (none)) else (none)) else (some ((⟨#[]⟩ : ByteArray), false, ([] : List Int), 5)))) else (some ((⟨#[]⟩ : ByteArray), false, ([] : List Int), 4)))) = some (r1, r2, r3, r4) := by rw [if_pos rfl] at H; exact H
  clear H
  have H := H1
  clear H1
  replace H := Option.bind_eq_some_iff.mp H
  obtain ⟨t135, A50, H⟩ := H
  replace H : (if t135 = true then ((tree_find.f l0_0 a1).bind fun bt136 => (if bt136.2 = true then (if 0 ≤ bt136.1 then (if bt136.1 < (l0_0.length : Int) then ((tree_Entry_own.f ((rd_T30 l0_0 bt136.1).f0) ((rd_T30 l0_0 bt136.1).f1) ((rd_T30 l0_0 bt136.1).f2)).bind fun bt139 => (some (bt139.1, bt139.2.1, bt139.2.2, 0))) else (none)) else (none)) else (some ((⟨#[]⟩ : ByteArray), false, ([] : List Int), 5)))) else (some ((⟨#[]⟩ : ByteArray), false, ([] : List Int), 4))) = some (r1, r2, r3, r4) := H
  have A5 := Aside0.mk A50
  clear A50
  by_cases c6 : t135 = true
  ·subst c6
   have H1 : ((tree_find.f l0_0 a1).bind fun bt136 => (if bt136.2 = true then (if 0 ≤ bt136.1 then (if bt136.1 < (l0_0.length : Int) then ((tree_Entry_own.f ((rd_T30 l0_0 bt136.1).f0) ((rd_T30 l0_0 bt136.1).f1) ((rd_T30 l0_0 bt136.1).f2)).bind fun bt139 => (some (bt139.1, bt139.2.1, bt139.2.2, 0))) else (none)) else (none)) else (some ((⟨#[]⟩ : ByteArray), false, ([] : List Int), 5)))) = some (r1, r2, r3, r4) := by rw [if_pos rfl] at H; exact H
   clear H
   have H := H1
   clear H1
   replace H := Option.bind_eq_some_iff.mp H
   obtain ⟨⟨t136, t137⟩, A70, H⟩ := H
   replace H : (if t137 = true then (if 0 ≤ t136 then (if t136 < (l0_0.length : Int) then ((tree_Entry_own.f ((rd_T30 l0_0 t136).f0) ((rd_T30 l0_0 t136).f1) ((rd_T30 l0_0 t136).f2)).bind fun bt139 => (some (bt139.1, bt139.2.1, bt139.2.2, 0))) else (none)) else (none)) else (some ((⟨#[]⟩ : ByteArray), false, ([] : List Int), 5))) = some (r1, r2, r3, r4) := H
   have A7 := Aside0.mk A70
   clear A70
   by_cases c8 : t137 = true
   ·subst c8
    have H1 : (if 0 ≤ t136 then (if t136 < (l0_0.length : Int) then ((tree_Entry_own.f ((rd_T30 l0_0 t136).f0) ((rd_T30 l0_0 t136).f1) ((rd_T30 l0_0 t136).f2)).bind fun bt139 => (some (bt139.1, bt139.2.1, bt139.2.2, 0))) else (none)) else (none)) = some (r1, r2, r3, r4) := by rw [if_pos rfl] at H; exact H
    clear H
    have H := H1
    clear H1
    by_cases c9 : 0 ≤ t136
    ·rw [if_pos c9] at H
     have c9b0 : decide (0 ≤ t136) = true := decide_eq_true c9
     clear c9
     by_cases c10 : t136 < (l0_0.length : Int)
     ·rw [if_pos c10] at H
      have c10b0 : decide (t136 < (l0_0.length : Int)) = true := decide_eq_true c10
      clear c10
      replace H := Option.bind_eq_some_iff.mp H
      obtain ⟨⟨t139, t140, t141⟩, A110, H⟩ := H
      replace H : (some (t139, t140, t141, 0)) = some (r1, r2, r3, r4) := H
      have A11 := Aside0.mk A110
      clear A110
      simp only [Option.some.injEq, Prod.mk.injEq] at H
      obtain ⟨rfl, rfl, rfl, rfl⟩ := H
      go_enter Tryd.func16, Tryd.ntmps16
      go_wp2_with (first | ((with_reducible refine gate_dst (N := 2) rfl ?_); refine box_event ?hg (N := 2) ?hd (cs := #[.slice A0_0 l0_0.length c0_0]) (t := 26) ?hr ?_; (case hd => rfl); (case hg => rfl); (case hr => first | (go_simp; done) | (go_simp; rfl)); intro gb132 hg w12 hbox hb; have n0_ := xa_ (below_step (by repeat (first | (with_reducible first | exact HB.out | apply below_alloc | apply pw_below_drewN | apply below_drew1) | exact HB.out)) hb); have n1_ := xa_ (hbox); have n2_ := xa_ ((by rw [hg]; exact (below_size (by repeat (first | (with_reducible first | exact HB.out | apply below_alloc | apply pw_below_drewN | apply below_drew1) | exact HB.out))) : w.heap.size ≤ gb132)); have n3_ := xa_ ((by rw [hg]; exact (below_size (by repeat (first | (with_reducible first | exact HB.out | apply below_alloc | apply pw_below_drewN | apply below_drew1) | exact HB.out))) : w.heap.size ≤ gb132)); clear HB; have HB := n0_; have BK132 := n1_; have GW132 := n2_; have GE132 := n3_; clear n0_ n1_ n2_ n3_; clear hb hbox hg) | ((with_reducible refine gate_dst (N := 4) rfl ?_); refine box_event ?hg (N := 4) ?hd (cs := #[.string (⟨#[]⟩ : ByteArray), .bool false, .slice none 0 0]) (t := 30) ?hr ?_; (case hd => rfl); (case hg => rfl); (case hr => first | (go_simp; done) | (go_simp; rfl)); intro gb133 hg w13 hbox hb; have n0_ := xa_ (blk_below (xb_ BK132.out) hb); have n1_ := xa_ (below_step (by repeat (first | (with_reducible first | exact HB.out | apply below_alloc | apply pw_below_drewN | apply below_drew1 | refine below_set ?_ GE132.out) | exact HB.out)) hb); have n2_ := xa_ (hbox); have n3_ := xa_ ((by rw [hg]; exact (below_size (by repeat (first | (with_reducible first | exact HB.out | apply below_alloc | apply pw_below_drewN | apply below_drew1 | refine below_set ?_ GE132.out) | exact HB.out))) : w.heap.size ≤ gb133)); have n4_ := xa_ ((by rw [hg]; exact (below_size (by repeat (first | (with_reducible first | exact HB.out | apply below_alloc | apply pw_below_drewN | apply below_drew1 | refine below_set ?_ GE132.out) | exact HB.out))) : w.heap.size ≤ gb133)); have n5_ := xa_ ((by rw [hg]; exact Nat.ne_of_lt (blk_lt (xb_ BK132.out)) : gb132 ≠ gb133)); have n6_ := xa_ ((by rw [hg]; exact Nat.ne_of_gt (blk_lt (xb_ BK132.out)) : gb133 ≠ gb132)); clear BK132; clear HB; have BK132 := n0_; have HB := n1_; have BK133 := n2_; have GW133 := n3_; have GE133 := n4_; have NB132_133 := n5_; have NB133_132 := n6_; clear n0_ n1_ n2_ n3_ n4_ n5_ n6_; clear hb hbox hg; have hnb14 := NB132_133.out; have hnc14 := NB133_132.out; have hcz15_0 : w13.cell? ⟨gb132, 0, none⟩ = some (.slice A0_0 l0_0.length c0_0) := (blk_cell BK132.out 0).trans rfl; have hfz15_0 := blk_frozen BK132.out 0) | ((with_reducible refine gate_callee (f := 14) rfl ?_); refine goesL_ (some 10) rfl rfl Tryd.func14 (by kernel_rfl) rfl #[.agg #[.slice A0_0 l0_0.length c0_0]] rfl (by (try simp only [List.map_toArray, List.map_cons, List.map_nil]); first | done | rfl | (simp only [List.length_drop, List.length_take]; rfl)) ?_; (with_reducible refine (tree_Good.calls _ _ l0_0 true _ ?side1 ?side2 A3.out).mono ?_); (case side1 => exact xC_ (Kd.C_below HR0_0.out HB.out)); (case side2 => exact HC0_0.out); rintro e w16 ⟨rfl, hb⟩; refine ⟨_, rfl, ?_⟩; replace BK132 := xa_ (blk_below (xb_ BK132.out) hb); replace BK133 := xa_ (blk_below (g := gb133) (o := .cells #[.string (⟨#[]⟩ : ByteArray), .bool false, .slice none 0 0] 30 (0, 0)) (xb_ BK133.out) hb); replace HB := xa_ (below_step (by repeat (first | (with_reducible first | exact HB.out | apply below_alloc | apply pw_below_drewN | apply below_drew1 | refine below_set ?_ GE132.out | refine below_set ?_ GE133.out) | exact HB.out)) hb); (try clear hb); (try clear hb2); (try clear hk); (try clear hi)) | ((with_reducible refine gate_callee (f := 41) rfl ?_); refine goesL_ (some 15) rfl rfl Tryd.func41 (by kernel_rfl) rfl #[.string a1] rfl (by (try simp only [List.map_toArray, List.map_cons, List.map_nil]); first | done | rfl | (simp only [List.length_drop, List.length_take]; rfl)) ?_; (with_reducible refine (path_Good.calls a1 true _ A5.out).mono ?_); rintro e w17 ⟨rfl, hb⟩; refine ⟨_, rfl, ?_⟩; replace BK132 := xa_ (blk_below (xb_ BK132.out) hb); replace BK133 := xa_ (blk_below (g := gb133) (o := .cells #[.string (⟨#[]⟩ : ByteArray), .bool false, .slice none 0 0] 30 (0, 0)) (xb_ BK133.out) hb); replace HB := xa_ (below_step (by repeat (first | (with_reducible first | exact HB.out | apply below_alloc | apply pw_below_drewN | apply below_drew1 | refine below_set ?_ GE132.out | refine below_set ?_ GE133.out) | exact HB.out)) hb); (try clear hb); (try clear hb2); (try clear hk); (try clear hi); have hcz18_0 : w17.cell? ⟨gb132, 0, none⟩ = some (.slice A0_0 l0_0.length c0_0) := (blk_cell BK132.out 0).trans rfl; have hfz18_0 := blk_frozen BK132.out 0) | ((with_reducible refine gate_callee (f := 64) rfl ?_); refine goesL_ (some 22) rfl rfl Tryd.func64 (by kernel_rfl) rfl #[.slice A0_0 l0_0.length c0_0, .string a1] rfl (by (try simp only [List.map_toArray, List.map_cons, List.map_nil]); first | done | rfl | (simp only [List.length_drop, List.length_take]; rfl)) ?_; (with_reducible refine (tree_find.calls _ _ l0_0 a1 t136 true _ ?side1 ?side2 A7.out).mono ?_); (case side1 => exact xC_ (Kd.C_below HR0_0.out HB.out)); (case side2 => exact HC0_0.out); rintro e w19 ⟨rfl, hb⟩; refine ⟨_, rfl, ?_⟩; replace BK132 := xa_ (blk_below (xb_ BK132.out) hb); replace BK133 := xa_ (blk_below (g := gb133) (o := .cells #[.string (⟨#[]⟩ : ByteArray), .bool false, .slice none 0 0] 30 (0, 0)) (xb_ BK133.out) hb); replace HB := xa_ (below_step (by repeat (first | (with_reducible first | exact HB.out | apply below_alloc | apply pw_below_drewN | apply below_drew1 | refine below_set ?_ GE132.out | refine below_set ?_ GE133.out) | exact HB.out)) hb); (try clear hb); (try clear hb2); (try clear hk); (try clear hi); have hcz20_0 : w19.cell? ⟨gb132, 0, none⟩ = some (.slice A0_0 l0_0.length c0_0) := (blk_cell BK132.out 0).trans rfl; have hfz20_0 := blk_frozen BK132.out 0; have p138 : 0 ≤ (t136 : Int) := of_decide_eq_true (by first | (with_reducible assumption) | assumption); have q138 : t136 < (l0_0.length : Int) := of_decide_eq_true (by first | (with_reducible assumption) | assumption); obtain ⟨ad138, A138_2, c138_2, e138, hx138_0, hx138_1, hx138_2, hl138_2, hi138_2⟩ := at_T30 HR0_0.out t136 p138 q138; cases e138; replace hx138_0 := (HB.out.cell (World.block_lt_of_cell? w _ hx138_0)).trans hx138_0; replace hx138_1 := (HB.out.cell (World.block_lt_of_cell? w _ hx138_1)).trans hx138_1; replace hx138_2 := (HB.out.cell (World.block_lt_of_cell? w _ hx138_2)).trans hx138_2; have HR138_2 := Aside0.mk hi138_2; have HC138_2 := Aside0.mk hl138_2; clear hi138_2 hl138_2; replace p138 := eq_true p138; replace q138 := eq_true q138) | ((with_reducible refine gate_callee (f := 65) rfl ?_); refine goesL_ (some 33) rfl rfl Tryd.func65 (by kernel_rfl) rfl #[.agg #[.string ((rd_T30 l0_0 t136).f0), .bool ((rd_T30 l0_0 t136).f1), .slice A138_2 ((rd_T30 l0_0 t136).f2).length c138_2]] rfl (by (try simp only [List.map_toArray, List.map_cons, List.map_nil]); first | done | rfl | (simp only [List.length_drop, List.length_take]; rfl)) ?_; (with_reducible refine (tree_Entry_own.calls ((rd_T30 l0_0 t136).f0) ((rd_T30 l0_0 t136).f1) _ _ ((rd_T30 l0_0 t136).f2) t139 t140 t141 _ ?side1 ?side2 A11.out).mono ?_); (case side1 => exact xC_ (Kd.C_below HR138_2.out HB.out)); (case side2 => exact HC138_2.out); rintro e w21 ⟨v142, rfl, ho0, hb⟩; refine ⟨_, rfl, ?_⟩; replace HO143 := xa_ (Kd.R_lower ho0 (below_size (by repeat (first | (with_reducible first | exact HB.out | apply below_alloc | apply pw_below_drewN | apply below_drew1 | refine below_set ?_ GE132.out | refine below_set ?_ GE133.out) | exact HB.out)))); replace BK132 := xa_ (blk_below (xb_ BK132.out) hb); replace BK133 := xa_ (blk_below (g := gb133) (o := .cells #[.string (⟨#[]⟩ : ByteArray), .bool false, .slice none 0 0] 30 (0, 0)) (xb_ BK133.out) hb); replace HB := xa_ (below_step (by repeat (first | (with_reducible first | exact HB.out | apply below_alloc | apply pw_below_drewN | apply below_drew1 | refine below_set ?_ GE132.out | refine below_set ?_ GE133.out) | exact HB.out)) hb); (try clear hb); (try clear hb2); (try clear hk); (try clear hi); (try clear ho0); have hcz22_0 : w21.cell? ⟨gb133, 0, none⟩ = some (.string (⟨#[]⟩ : ByteArray)) := (blk_cell BK133.out 0).trans rfl; have hcz22_1 : w21.cell? ⟨gb133, 1, none⟩ = some (.bool false) := (blk_cell BK133.out 1).trans rfl; have hcz22_2 : w21.cell? ⟨gb133, 2, none⟩ = some (.slice none 0 0) := (blk_cell BK133.out 2).trans rfl; have hfz22_0 := blk_frozen BK133.out 0; have hfz22_1 := blk_frozen BK133.out 1; have hfz22_2 := blk_frozen BK133.out 2; obtain ⟨Ao23, co23, eo23⟩ := Kd.R_slice HO143.out; subst eo23))
      refine bodyPost_ret (results_ct rfl _ _ gb133 30 #[.string t139, .bool t140, .slice Ao23 t141.length co23] (0, 0) _ rfl (by (with_reducible repeat (first | refine blk_drewN ?_ _ | refine blk_drew ?_ | refine blk_alloc ?_ _)); refine blk_put (cs := #[.string t139, .bool t140, .slice none 0 0]) ?_ 2 _ rfl; (with_reducible repeat (first | refine blk_drewN ?_ _ | refine blk_drew ?_ | refine blk_alloc ?_ _)); refine blk_put (cs := #[.string t139, .bool false, .slice none 0 0]) ?_ 1 _ rfl; (with_reducible repeat (first | refine blk_drewN ?_ _ | refine blk_drew ?_ | refine blk_alloc ?_ _)); refine blk_put (cs := #[.string (⟨#[]⟩ : ByteArray), .bool false, .slice none 0 0]) ?_ 0 _ rfl; (with_reducible repeat (first | refine blk_drewN ?_ _ | refine blk_drew ?_ | refine blk_alloc ?_ _)); exact BK133.out) Tryd.underlying30 rfl (by kernel_rfl)) rfl ?_
      exact ⟨_, by first | rfl | (simp [errW_none, errW_some] <;> rfl) | (simp [*, errW_none, errW_some] <;> rfl), by (with_reducible repeat (first | apply Kd.R_alloc | apply Kd.R_drewN | apply Kd.R_drew)); exact Kd.R_mono (Kd.R_far (p := ⟨gb133, 2, none⟩) (Kd.R_far (p := ⟨gb133, 1, none⟩) (Kd.R_far (p := ⟨gb133, 0, none⟩) (Kd.R_types HO143.out BK133.out (by decide)) (fun _ hk => hk.2) (.string t139)) (fun _ hk => hk.2) (.bool t140)) (fun _ hk => hk.2) (.slice Ao23 t141.length co23)) (fun _ hk => trivial), by repeat (first | (with_reducible first | exact HB.out | apply below_alloc | apply pw_below_drewN | apply below_drew1 | refine below_set ?_ GE132.out | refine below_set ?_ GE133.out) | exact HB.out)⟩
     ·rw [if_neg c10] at H
      exact absurd H (by simp)
    ·rw [if_neg c9] at H
     exact absurd H (by simp)
   ·replace c8 := Bool.eq_false_iff.mpr c8
    subst c8
    have H1 : (some ((⟨#[]⟩ : ByteArray), false, ([] : List Int), 5)) = some (r1, r2, r3, r4) := by rw [if_neg (show ¬ (false = true) by decide)] at H; exact H
    clear H
    have H := H1
    clear H1
    simp only [Option.some.injEq, Prod.mk.injEq] at H
    obtain ⟨rfl, rfl, rfl, rfl⟩ := H
    go_enter Tryd.func16, Tryd.ntmps16
    go_wp2_with (first | ((with_reducible refine gate_dst (N := 2) rfl ?_); refine box_event ?hg (N := 2) ?hd (cs := #[.slice A0_0 l0_0.length c0_0]) (t := 26) ?hr ?_; (case hd => rfl); (case hg => rfl); (case hr => first | (go_simp; done) | (go_simp; rfl)); intro gb132 hg w24 hbox hb; have n0_ := xa_ (below_step (by repeat (first | (with_reducible first | exact HB.out | apply below_alloc | apply pw_below_drewN | apply below_drew1) | exact HB.out)) hb); have n1_ := xa_ (hbox); have n2_ := xa_ ((by rw [hg]; exact (below_size (by repeat (first | (with_reducible first | exact HB.out | apply below_alloc | apply pw_below_drewN | apply below_drew1) | exact HB.out))) : w.heap.size ≤ gb132)); have n3_ := xa_ ((by rw [hg]; exact (below_size (by repeat (first | (with_reducible first | exact HB.out | apply below_alloc | apply pw_below_drewN | apply below_drew1) | exact HB.out))) : w.heap.size ≤ gb132)); clear HB; have HB := n0_; have BK132 := n1_; have GW132 := n2_; have GE132 := n3_; clear n0_ n1_ n2_ n3_; clear hb hbox hg) | ((with_reducible refine gate_dst (N := 4) rfl ?_); refine box_event ?hg (N := 4) ?hd (cs := #[.string (⟨#[]⟩ : ByteArray), .bool false, .slice none 0 0]) (t := 30) ?hr ?_; (case hd => rfl); (case hg => rfl); (case hr => first | (go_simp; done) | (go_simp; rfl)); intro gb133 hg w25 hbox hb; have n0_ := xa_ (blk_below (xb_ BK132.out) hb); have n1_ := xa_ (below_step (by repeat (first | (with_reducible first | exact HB.out | apply below_alloc | apply pw_below_drewN | apply below_drew1 | refine below_set ?_ GE132.out) | exact HB.out)) hb); have n2_ := xa_ (hbox); have n3_ := xa_ ((by rw [hg]; exact (below_size (by repeat (first | (with_reducible first | exact HB.out | apply below_alloc | apply pw_below_drewN | apply below_drew1 | refine below_set ?_ GE132.out) | exact HB.out))) : w.heap.size ≤ gb133)); have n4_ := xa_ ((by rw [hg]; exact (below_size (by repeat (first | (with_reducible first | exact HB.out | apply below_alloc | apply pw_below_drewN | apply below_drew1 | refine below_set ?_ GE132.out) | exact HB.out))) : w.heap.size ≤ gb133)); have n5_ := xa_ ((by rw [hg]; exact Nat.ne_of_lt (blk_lt (xb_ BK132.out)) : gb132 ≠ gb133)); have n6_ := xa_ ((by rw [hg]; exact Nat.ne_of_gt (blk_lt (xb_ BK132.out)) : gb133 ≠ gb132)); clear BK132; clear HB; have BK132 := n0_; have HB := n1_; have BK133 := n2_; have GW133 := n3_; have GE133 := n4_; have NB132_133 := n5_; have NB133_132 := n6_; clear n0_ n1_ n2_ n3_ n4_ n5_ n6_; clear hb hbox hg; have hnb26 := NB132_133.out; have hnc26 := NB133_132.out; have hcz27_0 : w25.cell? ⟨gb132, 0, none⟩ = some (.slice A0_0 l0_0.length c0_0) := (blk_cell BK132.out 0).trans rfl; have hfz27_0 := blk_frozen BK132.out 0) | ((with_reducible refine gate_callee (f := 14) rfl ?_); refine goesL_ (some 10) rfl rfl Tryd.func14 (by kernel_rfl) rfl #[.agg #[.slice A0_0 l0_0.length c0_0]] rfl (by (try simp only [List.map_toArray, List.map_cons, List.map_nil]); first | done | rfl | (simp only [List.length_drop, List.length_take]; rfl)) ?_; (with_reducible refine (tree_Good.calls _ _ l0_0 true _ ?side1 ?side2 A3.out).mono ?_); (case side1 => exact xC_ (Kd.C_below HR0_0.out HB.out)); (case side2 => exact HC0_0.out); rintro e w28 ⟨rfl, hb⟩; refine ⟨_, rfl, ?_⟩; replace BK132 := xa_ (blk_below (xb_ BK132.out) hb); replace BK133 := xa_ (blk_below (g := gb133) (o := .cells #[.string (⟨#[]⟩ : ByteArray), .bool false, .slice none 0 0] 30 (0, 0)) (xb_ BK133.out) hb); replace HB := xa_ (below_step (by repeat (first | (with_reducible first | exact HB.out | apply below_alloc | apply pw_below_drewN | apply below_drew1 | refine below_set ?_ GE132.out | refine below_set ?_ GE133.out) | exact HB.out)) hb); (try clear hb); (try clear hb2); (try clear hk); (try clear hi)) | ((with_reducible refine gate_callee (f := 41) rfl ?_); refine goesL_ (some 15) rfl rfl Tryd.func41 (by kernel_rfl) rfl #[.string a1] rfl (by (try simp only [List.map_toArray, List.map_cons, List.map_nil]); first | done | rfl | (simp only [List.length_drop, List.length_take]; rfl)) ?_; (with_reducible refine (path_Good.calls a1 true _ A5.out).mono ?_); rintro e w29 ⟨rfl, hb⟩; refine ⟨_, rfl, ?_⟩; replace BK132 := xa_ (blk_below (xb_ BK132.out) hb); replace BK133 := xa_ (blk_below (g := gb133) (o := .cells #[.string (⟨#[]⟩ : ByteArray), .bool false, .slice none 0 0] 30 (0, 0)) (xb_ BK133.out) hb); replace HB := xa_ (below_step (by repeat (first | (with_reducible first | exact HB.out | apply below_alloc | apply pw_below_drewN | apply below_drew1 | refine below_set ?_ GE132.out | refine below_set ?_ GE133.out) | exact HB.out)) hb); (try clear hb); (try clear hb2); (try clear hk); (try clear hi); have hcz30_0 : w29.cell? ⟨gb132, 0, none⟩ = some (.slice A0_0 l0_0.length c0_0) := (blk_cell BK132.out 0).trans rfl; have hfz30_0 := blk_frozen BK132.out 0) | ((with_reducible refine gate_callee (f := 64) rfl ?_); refine goesL_ (some 22) rfl rfl Tryd.func64 (by kernel_rfl) rfl #[.slice A0_0 l0_0.length c0_0, .string a1] rfl (by (try simp only [List.map_toArray, List.map_cons, List.map_nil]); first | done | rfl | (simp only [List.length_drop, List.length_take]; rfl)) ?_; (with_reducible refine (tree_find.calls _ _ l0_0 a1 t136 false _ ?side1 ?side2 A7.out).mono ?_); (case side1 => exact xC_ (Kd.C_below HR0_0.out HB.out)); (case side2 => exact HC0_0.out); rintro e w31 ⟨rfl, hb⟩; refine ⟨_, rfl, ?_⟩; replace BK132 := xa_ (blk_below (xb_ BK132.out) hb); replace BK133 := xa_ (blk_below (g := gb133) (o := .cells #[.string (⟨#[]⟩ : ByteArray), .bool false, .slice none 0 0] 30 (0, 0)) (xb_ BK133.out) hb); replace HB := xa_ (below_step (by repeat (first | (with_reducible first | exact HB.out | apply below_alloc | apply pw_below_drewN | apply below_drew1 | refine below_set ?_ GE132.out | refine below_set ?_ GE133.out) | exact HB.out)) hb); (try clear hb); (try clear hb2); (try clear hk); (try clear hi); have hcz32_0 : w31.cell? ⟨gb133, 0, none⟩ = some (.string (⟨#[]⟩ : ByteArray)) := (blk_cell BK133.out 0).trans rfl; have hcz32_1 : w31.cell? ⟨gb133, 1, none⟩ = some (.bool false) := (blk_cell BK133.out 1).trans rfl; have hcz32_2 : w31.cell? ⟨gb133, 2, none⟩ = some (.slice none 0 0) := (blk_cell BK133.out 2).trans rfl; have hfz32_0 := blk_frozen BK133.out 0; have hfz32_1 := blk_frozen BK133.out 1; have hfz32_2 := blk_frozen BK133.out 2))
    refine bodyPost_ret (results_ct rfl _ _ gb133 30 #[.string (⟨#[]⟩ : ByteArray), .bool false, .slice none 0 0] (0, 0) _ rfl (by (with_reducible repeat (first | refine blk_drewN ?_ _ | refine blk_drew ?_ | refine blk_alloc ?_ _)); refine blk_put (cs := #[.string (⟨#[]⟩ : ByteArray), .bool false, .slice none 0 0]) ?_ 2 _ rfl; (with_reducible repeat (first | refine blk_drewN ?_ _ | refine blk_drew ?_ | refine blk_alloc ?_ _)); refine blk_put (cs := #[.string (⟨#[]⟩ : ByteArray), .bool false, .slice none 0 0]) ?_ 1 _ rfl; (with_reducible repeat (first | refine blk_drewN ?_ _ | refine blk_drew ?_ | refine blk_alloc ?_ _)); refine blk_put (cs := #[.string (⟨#[]⟩ : ByteArray), .bool false, .slice none 0 0]) ?_ 0 _ rfl; (with_reducible repeat (first | refine blk_drewN ?_ _ | refine blk_drew ?_ | refine blk_alloc ?_ _)); exact BK133.out) Tryd.underlying30 rfl (by kernel_rfl)) rfl ?_
    exact ⟨_, by first | rfl | (simp [errW_none, errW_some] <;> rfl) | (simp [*, errW_none, errW_some] <;> rfl), by first | exact Kd.R_nil _ _ _ _ _ | exact Kd.N_nil _ _ _ _ _ | exact Kd.V_nil _ _ _ _ _ | exact Kd.Q_nil _ _ _ _ _ | exact Kd.S_nil _ _ _ _ _, by repeat (first | (with_reducible first | exact HB.out | apply below_alloc | apply pw_below_drewN | apply below_drew1 | refine below_set ?_ GE132.out | refine below_set ?_ GE133.out) | exact HB.out)⟩
  ·replace c6 := Bool.eq_false_iff.mpr c6
   subst c6
   have H1 : (some ((⟨#[]⟩ : ByteArray), false, ([] : List Int), 4)) = some (r1, r2, r3, r4) := by rw [if_neg (show ¬ (false = true) by decide)] at H; exact H
   clear H
   have H := H1
   clear H1
   simp only [Option.some.injEq, Prod.mk.injEq] at H
   obtain ⟨rfl, rfl, rfl, rfl⟩ := H
   go_enter Tryd.func16, Tryd.ntmps16
   go_wp2_with (first | ((with_reducible refine gate_dst (N := 2) rfl ?_); refine box_event ?hg (N := 2) ?hd (cs := #[.slice A0_0 l0_0.length c0_0]) (t := 26) ?hr ?_; (case hd => rfl); (case hg => rfl); (case hr => first | (go_simp; done) | (go_simp; rfl)); intro gb132 hg w33 hbox hb; have n0_ := xa_ (below_step (by repeat (first | (with_reducible first | exact HB.out | apply below_alloc | apply pw_below_drewN | apply below_drew1) | exact HB.out)) hb); have n1_ := xa_ (hbox); have n2_ := xa_ ((by rw [hg]; exact (below_size (by repeat (first | (with_reducible first | exact HB.out | apply below_alloc | apply pw_below_drewN | apply below_drew1) | exact HB.out))) : w.heap.size ≤ gb132)); have n3_ := xa_ ((by rw [hg]; exact (below_size (by repeat (first | (with_reducible first | exact HB.out | apply below_alloc | apply pw_below_drewN | apply below_drew1) | exact HB.out))) : w.heap.size ≤ gb132)); clear HB; have HB := n0_; have BK132 := n1_; have GW132 := n2_; have GE132 := n3_; clear n0_ n1_ n2_ n3_; clear hb hbox hg) | ((with_reducible refine gate_dst (N := 4) rfl ?_); refine box_event ?hg (N := 4) ?hd (cs := #[.string (⟨#[]⟩ : ByteArray), .bool false, .slice none 0 0]) (t := 30) ?hr ?_; (case hd => rfl); (case hg => rfl); (case hr => first | (go_simp; done) | (go_simp; rfl)); intro gb133 hg w34 hbox hb; have n0_ := xa_ (blk_below (xb_ BK132.out) hb); have n1_ := xa_ (below_step (by repeat (first | (with_reducible first | exact HB.out | apply below_alloc | apply pw_below_drewN | apply below_drew1 | refine below_set ?_ GE132.out) | exact HB.out)) hb); have n2_ := xa_ (hbox); have n3_ := xa_ ((by rw [hg]; exact (below_size (by repeat (first | (with_reducible first | exact HB.out | apply below_alloc | apply pw_below_drewN | apply below_drew1 | refine below_set ?_ GE132.out) | exact HB.out))) : w.heap.size ≤ gb133)); have n4_ := xa_ ((by rw [hg]; exact (below_size (by repeat (first | (with_reducible first | exact HB.out | apply below_alloc | apply pw_below_drewN | apply below_drew1 | refine below_set ?_ GE132.out) | exact HB.out))) : w.heap.size ≤ gb133)); have n5_ := xa_ ((by rw [hg]; exact Nat.ne_of_lt (blk_lt (xb_ BK132.out)) : gb132 ≠ gb133)); have n6_ := xa_ ((by rw [hg]; exact Nat.ne_of_gt (blk_lt (xb_ BK132.out)) : gb133 ≠ gb132)); clear BK132; clear HB; have BK132 := n0_; have HB := n1_; have BK133 := n2_; have GW133 := n3_; have GE133 := n4_; have NB132_133 := n5_; have NB133_132 := n6_; clear n0_ n1_ n2_ n3_ n4_ n5_ n6_; clear hb hbox hg; have hnb35 := NB132_133.out; have hnc35 := NB133_132.out; have hcz36_0 : w34.cell? ⟨gb132, 0, none⟩ = some (.slice A0_0 l0_0.length c0_0) := (blk_cell BK132.out 0).trans rfl; have hfz36_0 := blk_frozen BK132.out 0) | ((with_reducible refine gate_callee (f := 14) rfl ?_); refine goesL_ (some 10) rfl rfl Tryd.func14 (by kernel_rfl) rfl #[.agg #[.slice A0_0 l0_0.length c0_0]] rfl (by (try simp only [List.map_toArray, List.map_cons, List.map_nil]); first | done | rfl | (simp only [List.length_drop, List.length_take]; rfl)) ?_; (with_reducible refine (tree_Good.calls _ _ l0_0 true _ ?side1 ?side2 A3.out).mono ?_); (case side1 => exact xC_ (Kd.C_below HR0_0.out HB.out)); (case side2 => exact HC0_0.out); rintro e w37 ⟨rfl, hb⟩; refine ⟨_, rfl, ?_⟩; replace BK132 := xa_ (blk_below (xb_ BK132.out) hb); replace BK133 := xa_ (blk_below (g := gb133) (o := .cells #[.string (⟨#[]⟩ : ByteArray), .bool false, .slice none 0 0] 30 (0, 0)) (xb_ BK133.out) hb); replace HB := xa_ (below_step (by repeat (first | (with_reducible first | exact HB.out | apply below_alloc | apply pw_below_drewN | apply below_drew1 | refine below_set ?_ GE132.out | refine below_set ?_ GE133.out) | exact HB.out)) hb); (try clear hb); (try clear hb2); (try clear hk); (try clear hi)) | ((with_reducible refine gate_callee (f := 41) rfl ?_); refine goesL_ (some 15) rfl rfl Tryd.func41 (by kernel_rfl) rfl #[.string a1] rfl (by (try simp only [List.map_toArray, List.map_cons, List.map_nil]); first | done | rfl | (simp only [List.length_drop, List.length_take]; rfl)) ?_; (with_reducible refine (path_Good.calls a1 false _ A5.out).mono ?_); rintro e w38 ⟨rfl, hb⟩; refine ⟨_, rfl, ?_⟩; replace BK132 := xa_ (blk_below (xb_ BK132.out) hb); replace BK133 := xa_ (blk_below (g := gb133) (o := .cells #[.string (⟨#[]⟩ : ByteArray), .bool false, .slice none 0 0] 30 (0, 0)) (xb_ BK133.out) hb); replace HB := xa_ (below_step (by repeat (first | (with_reducible first | exact HB.out | apply below_alloc | apply pw_below_drewN | apply below_drew1 | refine below_set ?_ GE132.out | refine below_set ?_ GE133.out) | exact HB.out)) hb); (try clear hb); (try clear hb2); (try clear hk); (try clear hi); have hcz39_0 : w38.cell? ⟨gb133, 0, none⟩ = some (.string (⟨#[]⟩ : ByteArray)) := (blk_cell BK133.out 0).trans rfl; have hcz39_1 : w38.cell? ⟨gb133, 1, none⟩ = some (.bool false) := (blk_cell BK133.out 1).trans rfl; have hcz39_2 : w38.cell? ⟨gb133, 2, none⟩ = some (.slice none 0 0) := (blk_cell BK133.out 2).trans rfl; have hfz39_0 := blk_frozen BK133.out 0; have hfz39_1 := blk_frozen BK133.out 1; have hfz39_2 := blk_frozen BK133.out 2))
   refine bodyPost_ret (results_ct rfl _ _ gb133 30 #[.string (⟨#[]⟩ : ByteArray), .bool false, .slice none 0 0] (0, 0) _ rfl (by (with_reducible repeat (first | refine blk_drewN ?_ _ | refine blk_drew ?_ | refine blk_alloc ?_ _)); refine blk_put (cs := #[.string (⟨#[]⟩ : ByteArray), .bool false, .slice none 0 0]) ?_ 2 _ rfl; (with_reducible repeat (first | refine blk_drewN ?_ _ | refine blk_drew ?_ | refine blk_alloc ?_ _)); refine blk_put (cs := #[.string (⟨#[]⟩ : ByteArray), .bool false, .slice none 0 0]) ?_ 1 _ rfl; (with_reducible repeat (first | refine blk_drewN ?_ _ | refine blk_drew ?_ | refine blk_alloc ?_ _)); refine blk_put (cs := #[.string (⟨#[]⟩ : ByteArray), .bool false, .slice none 0 0]) ?_ 0 _ rfl; (with_reducible repeat (first | refine blk_drewN ?_ _ | refine blk_drew ?_ | refine blk_alloc ?_ _)); exact BK133.out) Tryd.underlying30 rfl (by kernel_rfl)) rfl ?_
   exact ⟨_, by first | rfl | (simp [errW_none, errW_some] <;> rfl) | (simp [*, errW_none, errW_some] <;> rfl), by first | exact Kd.R_nil _ _ _ _ _ | exact Kd.N_nil _ _ _ _ _ | exact Kd.V_nil _ _ _ _ _ | exact Kd.Q_nil _ _ _ _ _ | exact Kd.S_nil _ _ _ _ _, by repeat (first | (with_reducible first | exact HB.out | apply below_alloc | apply pw_below_drewN | apply below_drew1 | refine below_set ?_ GE132.out | refine below_set ?_ GE133.out) | exact HB.out)⟩
 ·replace c4 := Bool.eq_false_iff.mpr c4
  subst c4
  have H1 : (some ((⟨#[]⟩ : ByteArray), false, ([] : List Int), 1)) = some (r1, r2, r3, r4) := by rw [if_neg (show ¬ (false = true) by decide)] at H; exact H
  clear H
  have H := H1
  clear H1
  simp only [Option.some.injEq, Prod.mk.injEq] at H
  obtain ⟨rfl, rfl, rfl, rfl⟩ := H
  go_enter Tryd.func16, Tryd.ntmps16
  go_wp2_with (first | ((with_reducible refine gate_dst (N := 2) rfl ?_); refine box_event ?hg (N := 2) ?hd (cs := #[.slice A0_0 l0_0.length c0_0]) (t := 26) ?hr ?_; (case hd => rfl); (case hg => rfl); (case hr => first | (go_simp; done) | (go_simp; rfl)); intro gb132 hg w40 hbox hb; have n0_ := xa_ (below_step (by repeat (first | (with_reducible first | exact HB.out | apply below_alloc | apply pw_below_drewN | apply below_drew1) | exact HB.out)) hb); have n1_ := xa_ (hbox); have n2_ := xa_ ((by rw [hg]; exact (below_size (by repeat (first | (with_reducible first | exact HB.out | apply below_alloc | apply pw_below_drewN | apply below_drew1) | exact HB.out))) : w.heap.size ≤ gb132)); have n3_ := xa_ ((by rw [hg]; exact (below_size (by repeat (first | (with_reducible first | exact HB.out | apply below_alloc | apply pw_below_drewN | apply below_drew1) | exact HB.out))) : w.heap.size ≤ gb132)); clear HB; have HB := n0_; have BK132 := n1_; have GW132 := n2_; have GE132 := n3_; clear n0_ n1_ n2_ n3_; clear hb hbox hg) | ((with_reducible refine gate_dst (N := 4) rfl ?_); refine box_event ?hg (N := 4) ?hd (cs := #[.string (⟨#[]⟩ : ByteArray), .bool false, .slice none 0 0]) (t := 30) ?hr ?_; (case hd => rfl); (case hg => rfl); (case hr => first | (go_simp; done) | (go_simp; rfl)); intro gb133 hg w41 hbox hb; have n0_ := xa_ (blk_below (xb_ BK132.out) hb); have n1_ := xa_ (below_step (by repeat (first | (with_reducible first | exact HB.out | apply below_alloc | apply pw_below_drewN | apply below_drew1 | refine below_set ?_ GE132.out) | exact HB.out)) hb); have n2_ := xa_ (hbox); have n3_ := xa_ ((by rw [hg]; exact (below_size (by repeat (first | (with_reducible first | exact HB.out | apply below_alloc | apply pw_below_drewN | apply below_drew1 | refine below_set ?_ GE132.out) | exact HB.out))) : w.heap.size ≤ gb133)); have n4_ := xa_ ((by rw [hg]; exact (below_size (by repeat (first | (with_reducible first | exact HB.out | apply below_alloc | apply pw_below_drewN | apply below_drew1 | refine below_set ?_ GE132.out) | exact HB.out))) : w.heap.size ≤ gb133)); have n5_ := xa_ ((by rw [hg]; exact Nat.ne_of_lt (blk_lt (xb_ BK132.out)) : gb132 ≠ gb133)); have n6_ := xa_ ((by rw [hg]; exact Nat.ne_of_gt (blk_lt (xb_ BK132.out)) : gb133 ≠ gb132)); clear BK132; clear HB; have BK132 := n0_; have HB := n1_; have BK133 := n2_; have GW133 := n3_; have GE133 := n4_; have NB132_133 := n5_; have NB133_132 := n6_; clear n0_ n1_ n2_ n3_ n4_ n5_ n6_; clear hb hbox hg; have hnb42 := NB132_133.out; have hnc42 := NB133_132.out; have hcz43_0 : w41.cell? ⟨gb132, 0, none⟩ = some (.slice A0_0 l0_0.length c0_0) := (blk_cell BK132.out 0).trans rfl; have hfz43_0 := blk_frozen BK132.out 0) | ((with_reducible refine gate_callee (f := 14) rfl ?_); refine goesL_ (some 10) rfl rfl Tryd.func14 (by kernel_rfl) rfl #[.agg #[.slice A0_0 l0_0.length c0_0]] rfl (by (try simp only [List.map_toArray, List.map_cons, List.map_nil]); first | done | rfl | (simp only [List.length_drop, List.length_take]; rfl)) ?_; (with_reducible refine (tree_Good.calls _ _ l0_0 false _ ?side1 ?side2 A3.out).mono ?_); (case side1 => exact xC_ (Kd.C_below HR0_0.out HB.out)); (case side2 => exact HC0_0.out); rintro e w44 ⟨rfl, hb⟩; refine ⟨_, rfl, ?_⟩; replace BK132 := xa_ (blk_below (xb_ BK132.out) hb); replace BK133 := xa_ (blk_below (g := gb133) (o := .cells #[.string (⟨#[]⟩ : ByteArray), .bool false, .slice none 0 0] 30 (0, 0)) (xb_ BK133.out) hb); replace HB := xa_ (below_step (by repeat (first | (with_reducible first | exact HB.out | apply below_alloc | apply pw_below_drewN | apply below_drew1 | refine below_set ?_ GE132.out | refine below_set ?_ GE133.out) | exact HB.out)) hb); (try clear hb); (try clear hb2); (try clear hk); (try clear hi); have hcz45_0 : w44.cell? ⟨gb133, 0, none⟩ = some (.string (⟨#[]⟩ : ByteArray)) := (blk_cell BK133.out 0).trans rfl; have hcz45_1 : w44.cell? ⟨gb133, 1, none⟩ = some (.bool false) := (blk_cell BK133.out 1).trans rfl; have hcz45_2 : w44.cell? ⟨gb133, 2, none⟩ = some (.slice none 0 0) := (blk_cell BK133.out 2).trans rfl; have hfz45_0 := blk_frozen BK133.out 0; have hfz45_1 := blk_frozen BK133.out 1; have hfz45_2 := blk_frozen BK133.out 2))
  refine bodyPost_ret (results_ct rfl _ _ gb133 30 #[.string (⟨#[]⟩ : ByteArray), .bool false, .slice none 0 0] (0, 0) _ rfl (by (with_reducible repeat (first | refine blk_drewN ?_ _ | refine blk_drew ?_ | refine blk_alloc ?_ _)); refine blk_put (cs := #[.string (⟨#[]⟩ : ByteArray), .bool false, .slice none 0 0]) ?_ 2 _ rfl; (with_reducible repeat (first | refine blk_drewN ?_ _ | refine blk_drew ?_ | refine blk_alloc ?_ _)); refine blk_put (cs := #[.string (⟨#[]⟩ : ByteArray), .bool false, .slice none 0 0]) ?_ 1 _ rfl; (with_reducible repeat (first | refine blk_drewN ?_ _ | refine blk_drew ?_ | refine blk_alloc ?_ _)); refine blk_put (cs := #[.string (⟨#[]⟩ : ByteArray), .bool false, .slice none 0 0]) ?_ 0 _ rfl; (with_reducible repeat (first | refine blk_drewN ?_ _ | refine blk_drew ?_ | refine blk_alloc ?_ _)); exact BK133.out) Tryd.underlying30 rfl (by kernel_rfl)) rfl ?_
  exact ⟨_, by first | rfl | (simp [errW_none, errW_some] <;> rfl) | (simp [*, errW_none, errW_some] <;> rfl), by first | exact Kd.R_nil _ _ _ _ _ | exact Kd.N_nil _ _ _ _ _ | exact Kd.V_nil _ _ _ _ _ | exact Kd.Q_nil _ _ _ _ _ | exact Kd.S_nil _ _ _ _ _, by repeat (first | (with_reducible first | exact HB.out | apply below_alloc | apply pw_below_drewN | apply below_drew1 | refine below_set ?_ GE132.out | refine below_set ?_ GE133.out) | exact HB.out)⟩


end Go.Proofs.YtidlldfghkaeeaaDoor.P
end
