/- Put together by pack2.py: DelE, PfTreeKids, TreeRem, PfTreePut, TreeLaws, TreeAwk -/
import Derived.Test.YtidlldfghkaeeaaDoorZsTreeFindEtc
import Derived.Test.YtidlldfghkaeeaaDoorZsRefNamesEtc
import Derived.Test.YtidlldfghkaeeaaDoorZsPthUpEtc
import Derived.Test.YtidlldfghkaeeaaDoorZsTreeOk
import Derived.Test.YtidlldfghkaeeaaDoorZsPfTreeMakeEtc
import Derived.Test.YtidlldfghkaeeaaDoorZsPfTreeBytesEtc
import Derived.Test.YtidlldfghkaeeaaDoorZsLaidKEtc
import Derived.Test.YtidlldfghkaeeaaDoorZsPfBytesCloneEtc
import Derived.Test.YtidlldfghkaeeaaDoorZsW0
section
namespace Go.Proofs.YtidlldfghkaeeaaDoor.P
open Go.RowKit Go.Proofs.YtidlldfghkaeeaaDoorW.PrintWords Go.Proofs.YtidlldfghkaeeaaDoorW.PrintLast Go.Proofs.YtidlldfghkaeeaaDoorW.PrintMore
set_option linter.unusedVariables false
set_option linter.unusedSimpArgs false

/-- clear, at elements of three cells. -/
theorem run_clear3 (w : World) (g o n : Nat) (cur : Array Value) (hg : w.heap[g]? = some (.cells cur 30 (0, 0))) (hn : 0 < n) (hfit : o + n * 3 ≤ cur.size) : ∃ zs : List Value, zs.length = n * 3 ∧ ∀ ty c,
  (Builtin.clear_ #[22] ty #[.slice (some ⟨g, o, none⟩) n c]).run Tryd.prog w = .ok (.tuple #[]) (w.setRow g (cur.toList.take o ++ zs ++ cur.toList.drop (o + n * 3)).toArray) := by
 have hz : ∀ W, (zeroValue 30).run Tryd.prog W = .ok (.agg #[.string ⟨#[]⟩, .bool false, .slice none 0 0]) W := fun W => by
  have h := infoE
  cases hh : Tryd.prog.info? 30 with
  | none => rw [hh] at h; cases h
  | some v =>
   rw [hh] at h
   simp only [Option.map_some, Option.some.injEq, Prod.mk.injEq] at h
   simp [zeroValue, typeInfo, hh, h.1]
 obtain ⟨zs, hzs⟩ : ∃ zs, zs = (Builtin.zeroCells (Value.cells (.agg #[.string ⟨#[]⟩, .bool false, .slice none 0 0])) n).toList := ⟨_, rfl⟩
 have hc : Value.cells (.agg #[.string ⟨#[]⟩, .bool false, .slice none 0 0]) = #[.string ⟨#[]⟩, .bool false, .slice none 0 0] := rfl
 have hl : zs.length = n * 3 := by
  rw [hzs, hc]
  simp [Builtin.zeroCells]
 have h1 : ∀ v ∈ zs, v.oneCell' = true := by
  intro v hv
  rw [hzs, hc] at hv
  simp only [Builtin.zeroCells, Array.toList_map, List.mem_map] at hv
  obtain ⟨i, _, rfl⟩ := hv
  have hi : i % 3 = 0 ∨ i % 3 = 1 ∨ i % 3 = 2 := by omega
  show (#[Value.string ⟨#[]⟩, .bool false, .slice none 0 0][i % 3]!).oneCell' = true
  rcases hi with h | h | h <;> rw [h] <;> rfl
 refine ⟨zs, hl, fun ty c => ?_⟩
 have hst := run_storeCells_at Tryd.prog g o 30 zs 0 cur w hg (by rw [hl]; omega) h1
 simp only [Nat.add_zero] at hst
 rw [hl] at hst
 obtain ⟨m, rfl⟩ : ∃ m, n = m + 1 := ⟨n - 1, by omega⟩
 have hu := Tryd.underlying22
 simp [Builtin.clear_, run_underlying hu, hz, ← hzs, hst]
/-- What lies behind a row may turn. -/
theorem NB.tail {W : World} {base : Nat} {ok : Nat → Prop} {g n cap : Nat} {rows : List (List Value)} {tail : List Value} {xs : List S30} (h : NB W base ok g n cap rows tail xs) {tail' : List Value} (ht : tail'.length = tail.length) : NB (W.setRow g (rows.flatten ++ tail').toArray) base ok g n cap rows tail' xs :=
 ⟨setRow_heap _ g _ _ _ _ h.hb, h.hg, h.hok, h.hn, h.hc, h.hm, h.hl, h.hw, by rw [ht]; exact h.ht, fun j x c hx hc => Kd.FK_step (h.hf j x c hx hc) fun k hk hlt => setRow_other _ _ _ _ hk.2⟩
/-- clear of what lies behind a row. -/
theorem clear_tail {W : World} {base : Nat} {ok : Nat → Prop} {g n cap : Nat} {xs : List S30} (h : Kd.N k30 30 W base ok (.slice (some ⟨g, 0, none⟩) n cap) xs) (k : Nat) (hk : 0 < k) (hc : n + k ≤ cap) : ∃ W' : World, (∀ ty c', (Builtin.clear_ #[22] ty #[.slice (some ⟨g, n * 3, none⟩) k c']).run Tryd.prog W = .ok (.tuple #[]) W') ∧ Kd.N k30 30 W' base ok (.slice (some ⟨g, 0, none⟩) n cap) xs ∧ ∀ B w, Below B w W → B ≤ base → Below B w W' := by
 obtain ⟨rows, tail, hNB⟩ := N_NB h
 have hfl := flat_len (fun r hr => (hNB.hw r hr).1)
 have hl := hNB.hl
 have ht := hNB.ht
 have hsz : (rows.flatten ++ tail).toArray.size = cap * 3 := by
  rw [List.size_toArray, List.length_append, hfl, ht, hl]
  have := hNB.hc
  omega
 have e : ∀ zs : List Value, zs.length = k * 3 → ((rows.flatten ++ tail).toArray.toList.take (n * 3) ++ zs ++ (rows.flatten ++ tail).toArray.toList.drop (n * 3 + k * 3)) = rows.flatten ++ (zs ++ tail.drop (k * 3)) := fun zs hz => by
  rw [List.toList_toArray, List.take_append_of_le_length (by rw [hfl, hl]; exact Nat.le_refl _), List.take_of_length_le (by rw [hfl, hl]; exact Nat.le_refl _), List.append_assoc, List.drop_append, List.drop_of_length_le (l := rows.flatten) (by rw [hfl, hl]; omega), List.nil_append, hfl, hl, show n * 3 + k * 3 - n * 3 = k * 3 by omega]
 have hall : ∃ zs : List Value, zs.length = k * 3 ∧ ∀ ty c', (Builtin.clear_ #[22] ty #[.slice (some ⟨g, n * 3, none⟩) k c']).run Tryd.prog W = .ok (.tuple #[]) (W.setRow g (rows.flatten ++ (zs ++ tail.drop (k * 3))).toArray) := by
  obtain ⟨zs, hzl, hrun⟩ := run_clear3 W g (n * 3) k _ hNB.hb hk (by rw [hsz]; omega)
  refine ⟨zs, hzl, fun ty c' => ?_⟩
  rw [← e zs hzl]
  exact hrun ty c'
 obtain ⟨zs, hzl, hrun⟩ := hall
 exact ⟨_, hrun, NB_N (hNB.tail (by rw [List.length_append, hzl, List.length_drop, ht]; have := hNB.hc; omega)), fun B w hb hB => below_setRow hb (Nat.le_trans hB hNB.hg) _⟩
/-- clear of what lies behind a row; no other block turns. -/
theorem clear_tailK {W : World} {base : Nat} {ok : Nat → Prop} {g n cap : Nat} {xs : List S30} (h : Kd.N k30 30 W base ok (.slice (some ⟨g, 0, none⟩) n cap) xs) (k : Nat) (hk : 0 < k) (hc : n + k ≤ cap) : ∃ W' : World, (∀ ty c', (Builtin.clear_ #[22] ty #[.slice (some ⟨g, n * 3, none⟩) k c']).run Tryd.prog W = .ok (.tuple #[]) W') ∧ Kd.N k30 30 W' base ok (.slice (some ⟨g, 0, none⟩) n cap) xs ∧ (∀ B w, Below B w W → B ≤ base → Below B w W') ∧ ∀ j, j ≠ g → W'.heap[j]? = W.heap[j]? := by
 obtain ⟨rows, tail, hNB⟩ := N_NB h
 have hfl := flat_len (fun r hr => (hNB.hw r hr).1)
 have hl := hNB.hl
 have ht := hNB.ht
 have hsz : (rows.flatten ++ tail).toArray.size = cap * 3 := by
  rw [List.size_toArray, List.length_append, hfl, ht, hl]
  have := hNB.hc
  omega
 have e : ∀ zs : List Value, zs.length = k * 3 → ((rows.flatten ++ tail).toArray.toList.take (n * 3) ++ zs ++ (rows.flatten ++ tail).toArray.toList.drop (n * 3 + k * 3)) = rows.flatten ++ (zs ++ tail.drop (k * 3)) := fun zs hz => by
  rw [List.toList_toArray, List.take_append_of_le_length (by rw [hfl, hl]; exact Nat.le_refl _), List.take_of_length_le (by rw [hfl, hl]; exact Nat.le_refl _), List.append_assoc, List.drop_append, List.drop_of_length_le (l := rows.flatten) (by rw [hfl, hl]; omega), List.nil_append, hfl, hl, show n * 3 + k * 3 - n * 3 = k * 3 by omega]
 obtain ⟨zs, hzl, hrun⟩ := run_clear3 W g (n * 3) k _ hNB.hb hk (by rw [hsz]; omega)
 refine ⟨W.setRow g (rows.flatten ++ (zs ++ tail.drop (k * 3))).toArray, fun ty c' => ?_, NB_N (hNB.tail (by rw [List.length_append, hzl, List.length_drop, ht]; have := hNB.hc; omega)), fun B w hb hB => below_setRow hb (Nat.le_trans hB hNB.hg) _, fun j hj => setRow_other _ _ _ _ hj⟩
 rw [← e zs hzl]
 exact hrun ty c'
end Go.Proofs.YtidlldfghkaeeaaDoor.P
end
section
namespace Go.Proofs.YtidlldfghkaeeaaDoor.P
open Go.RowKit Go.Proofs.YtidlldfghkaeeaaDoorW.PrintWords Go.Proofs.YtidlldfghkaeeaaDoorW.PrintLast Go.Proofs.YtidlldfghkaeeaaDoorW.PrintMore
attribute [local go_sem] max2_int min2_int max_two min_two max_three min_three max_four min_four   -- for this text's walks alone
set_option linter.unusedVariables false
set_option linter.unusedSimpArgs false
/-! ### tree_Kids: function 29 -/
def tree_Kids.l0 : Nat → ByteArray → List ByteArray → List (S30) → Int → Int → Option (List ByteArray)
 | 0, _, _, _, _, _ => none
 | k + 1, x1, x5, x14, x15, x16 => if x16 < x15 then (if 0 ≤ x16 then (if x16 < (x14.length : Int) then ((path_Up.f ((rd_T30 x14 x16).f0)).bind fun bt164 => (if bt164.1.toList = x1.toList then (if x5.length < 8796093022208 then (tree_Kids.l0 k x1 (x5 ++ [(rd_T30 x14 x16).f0]) x14 x15 (wrap64 (x16 + 1))) else (none)) else (tree_Kids.l0 k x1 x5 x14 x15 (wrap64 (x16 + 1))))) else (none)) else (none)) else (some x5)
def tree_Kids.f (k : Nat) (l0_0 : List (S30)) (a1 : ByteArray) : Option (List ByteArray) := (tree_Good.f l0_0).bind fun t161 => (if t161 = true then (tree_Kids.l0 k a1 ([] : List ByteArray) l0_0 (l0_0.length : Int) 0) else (some ([] : List ByteArray)))
end Go.Proofs.YtidlldfghkaeeaaDoor.P
end
section
namespace Go.Proofs.YtidlldfghkaeeaaDoor.P
open Go.RowKit Go.Proofs.YtidlldfghkaeeaaDoorW.PrintWords Go.Proofs.YtidlldfghkaeeaaDoorW.PrintLast Go.Proofs.YtidlldfghkaeeaaDoorW.PrintMore
set_option linter.unusedVariables false
set_option linter.unusedSimpArgs false

/-- What tree.Find says of a path. -/
def findE (l : List S30) (p : ByteArray) : Int := if GT30 l then if Gd p.data.toList then if ∃ x ∈ l, x.f0 = p then 0 else 5 else 4 else 1
theorem tree_find.eq {l : List S30} {p : ByteArray} (h : okT l) (hp : p.size < 4294967280) (hs : Srt S30.f0 l) : tree_find.f l p = some ((lowB S30.f0 p l : Int), decide (∃ x ∈ l, x.f0 = p)) := by
  unfold tree_find.f
  rw [if_pos ⟨h.1, hp, hs⟩]
theorem nB_mem {l : List S30} : ∀ {x : S30}, x ∈ l → x.f2.length ≤ nB30 l := by
  induction l with
  | nil => intro x h; cases h
  | cons y l ih =>
    intro x h
    rw [nB30, nB_cons]
    rcases List.mem_cons.1 h with rfl | h
    · omega
    · have := ih h
      unfold nB30 at this
      omega
theorem tree_Find.eq {l : List S30} {p : ByteArray} (h : okT l) (hp : p.size < 4294967280) : ∃ r1 r2 r3, tree_Find.f l p = some (r1, r2, r3, findE l p) := by
  unfold tree_Find.f findE
  rw [tree_Good.eq h, Option.bind_some]
  by_cases hg : GT30 l
  · rw [if_pos (decide_eq_true hg), if_pos hg, Good_eq (by omega), Option.bind_some]
    by_cases hd : Gd p.data.toList
    · rw [if_pos (decide_eq_true hd), if_pos hd, tree_find.eq h hp hg.2.2.1, Option.bind_some]
      by_cases hx : ∃ x ∈ l, x.f0 = p
      · obtain ⟨hlt, _⟩ := (lowB_at hg.2.2.1).2 hx
        have hm := nB_mem (List.getElem_mem hlt)
        have hn := h.2
        dsimp only
        rw [if_pos (decide_eq_true hx), if_pos hx, if_pos (Int.natCast_nonneg _), if_pos (by omega), rdT hlt, own_eq (by omega), Option.bind_some]
        exact ⟨_, _, _, rfl⟩
      · dsimp only
        rw [if_neg (by simpa using hx), if_neg hx]
        exact ⟨_, _, _, rfl⟩
    · rw [if_neg (by simpa using hd), if_neg hd]
      exact ⟨_, _, _, rfl⟩
  · rw [if_neg (by simpa using hg), if_neg hg]
    exact ⟨_, _, _, rfl⟩
/-- What stands just within a path. -/
def kidsL (l : List S30) (p : ByteArray) : List ByteArray := if GT30 l then (l.filter fun x => decide (upB x.f0 = p)).map S30.f0 else []
def rem0 (l : List S30) (p : ByteArray) : List S30 × Int := if findE l p = 0 then if (kidsL l p).length > 0 then (l, 8) else (delE S30.f0 p l, 0) else (l, findE l p)
def tree_Remove.f (l : List S30) (p : ByteArray) : Option (List S30 × Int) := if okT l ∧ p.size < 4294967280 then some (rem0 l p) else none
/-- The two boxes: the tree, the result. -/
structure By (w W : World) (v : Value) : Prop where
  b : Below w.heap.size w W
  k2 : W.heap[w.heap.size]? = some (.cells #[v] 26 (0, 0))
  k4 : W.heap[w.heap.size + 1]? = some (.cells #[.slice none 0 0] 26 (0, 0))
theorem By.below {w W W' : World} {v : Value} (h : By w W v) (hb : Below W.heap.size W W') : By w W' v :=
  ⟨h.b.trans (hb.mono h.b.size), (hb.block _ (blk_lt h.k2)).trans h.k2, (hb.block _ (blk_lt h.k4)).trans h.k4⟩
theorem By.belowB {w W W' : World} {v : Value} {B : Nat} (h : By w W v) (hB : w.heap.size + 2 ≤ B) (hb : Below B W W') : By w W' v :=
  ⟨h.b.trans (hb.mono (by omega)), (hb.block _ (by omega)).trans h.k2, (hb.block _ (by omega)).trans h.k4⟩
theorem By.new (w : World) (v : Value) : By w ((w.alloc (.cells #[v] 26)).alloc (.cells #[.slice none 0 0] 26)) v := by
  refine ⟨below_alloc (below_alloc (Below.refl _ _) _) _, blk_alloc (blk_new w _) _, ?_⟩
  have h := blk_new (w.alloc (.cells #[v] 26)) (.cells #[.slice none 0 0] 26)
  rw [World.size_alloc] at h
  exact h
theorem By.cells {w W : World} {v : Value} (h : By w W v) : W.cell? ⟨w.heap.size, 0, none⟩ = some v ∧ W.cell? ⟨w.heap.size + 1, 0, none⟩ = some (.slice none 0 0) ∧ W.frozen? ⟨w.heap.size + 1, 0, none⟩ = false :=
  ⟨blk_cell h.k2 0, blk_cell h.k4 0, blk_frozen h.k4 0⟩
end Go.Proofs.YtidlldfghkaeeaaDoor.P
end
section
namespace Go.Proofs.YtidlldfghkaeeaaDoor.P
open Go.RowKit Go.Proofs.YtidlldfghkaeeaaDoorW.PrintWords Go.Proofs.YtidlldfghkaeeaaDoorW.PrintLast Go.Proofs.YtidlldfghkaeeaaDoorW.PrintMore
attribute [local go_sem] max2_int min2_int max_two min_two max_three min_three max_four min_four   -- for this text's walks alone
set_option linter.unusedVariables false
set_option linter.unusedSimpArgs false
/-! ### tree_Put: function 17 -/
def tree_Put.f (l0_0 : List (S30)) (a1 : ByteArray) (l2 : List Int) : Option ((List (S30)) × Int) := (tree_Good.f l0_0).bind fun t126 => (if t126 = true then ((path_Good.f a1).bind fun t127 => (if t127 = true then ((tree_with.f l0_0 a1 false l2).bind fun bt128 => (some (bt128.1, bt128.2))) else (some (l0_0, 4)))) else (some (l0_0, 1)))
set_option maxHeartbeats 8000000 in
set_option maxRecDepth 100000 in
theorem tree_Put.calls (P0_0_ : Nat → Prop) (A0_0 : Option Addr) (c0_0 : Nat) (l0_0 : List (S30)) (a1 : ByteArray) (A2 : Option Addr) (c2 : Nat) (l2 : List Int) (r1 : List (S30)) (r2 : Int) (w : World) (hs0_0 : Kd.V k30 30 w w.heap.size (fun k_ => P0_0_ k_) (.slice A0_0 l0_0.length c0_0) l0_0) (hr2 : Kd.C (Kd.int .u8) w A2 l2.length l2) (hc2 : l2.length ≤ c2) (h : tree_Put.f l0_0 a1 l2 = some (r1, r2)) :
  Calls Tryd.prog 17 #[.agg #[.slice A0_0 l0_0.length c0_0], .string a1, .slice A2 l2.length c2] w fun e w' => ∃ v0_ : Value, e = .returned (.tuple #[.agg #[v0_], .int .i64 r2]) ∧ Kd.V k30 30 w' w.heap.size (fun k_ => (P0_0_ k_ ∨ w.heap.size ≤ k_)) v0_ r1 ∧ Below w.heap.size w w' := by
 have hu26 := Tryd.underlying26
 have hu30 := Tryd.underlying30
 have HO0_0 := xa_ (show Kd.V k30 30 w w.heap.size (fun k_ => (P0_0_ k_ ∨ w.heap.size ≤ k_)) (.slice A0_0 l0_0.length c0_0) l0_0 from Kd.V_mono hs0_0 (fun k_ hk => .inl hk))
 have HR2 := Aside0.mk hr2
 have HC2 := Aside0.mk hc2
 clear hr2 hc2
 have HB := xa_ (Below.refl w.heap.size w)
 have H : ((tree_Good.f l0_0).bind fun t126 => (if t126 = true then ((path_Good.f a1).bind fun t127 => (if t127 = true then ((tree_with.f l0_0 a1 false l2).bind fun bt128 => (some (bt128.1, bt128.2))) else (some (l0_0, 4)))) else (some (l0_0, 1)))) = some (r1, r2) := h
 clear h
 replace H := Option.bind_eq_some_iff.mp H
 obtain ⟨t126, A40, H⟩ := H
 replace H : (if t126 = true then ((path_Good.f a1).bind fun t127 => (if t127 = true then ((tree_with.f l0_0 a1 false l2).bind fun bt128 => (some (bt128.1, bt128.2))) else (some (l0_0, 4)))) else (some (l0_0, 1))) = some (r1, r2) := H
 have A4 := Aside0.mk A40
 clear A40
 by_cases c5 : t126 = true
 ·subst c5
  have H1 : ((path_Good.f a1).bind fun t127 => (if t127 = true then ((tree_with.f l0_0 a1 false l2).bind fun bt128 => (some (bt128.1, bt128.2))) else (some (l0_0, 4)))) = some (r1, r2) := by rw [if_pos rfl] at H; exact H
  clear H
  have H := H1
  clear H1
  replace H := Option.bind_eq_some_iff.mp H
  obtain ⟨t127, A60, H⟩ := H
  replace H : (if t127 = true then ((tree_with.f l0_0 a1 false l2).bind fun bt128 => (some (bt128.1, bt128.2))) else (some (l0_0, 4))) = some (r1, r2) := H
  have A6 := Aside0.mk A60
  clear A60
  by_cases c7 : t127 = true
  ·subst c7
   have H1 : ((tree_with.f l0_0 a1 false l2).bind fun bt128 => (some (bt128.1, bt128.2))) = some (r1, r2) := by rw [if_pos rfl] at H; exact H
   clear H
   have H := H1
   clear H1
   replace H := Option.bind_eq_some_iff.mp H
   obtain ⟨⟨t128, t131⟩, A80, H⟩ := H
   replace H : (some (t128, t131)) = some (r1, r2) := H
   have A8 := Aside0.mk A80
   clear A80
   simp only [Option.some.injEq, Prod.mk.injEq] at H
   obtain ⟨rfl, rfl⟩ := H
   go_enter Tryd.func17, Tryd.ntmps17
   go_wp2_with (first | ((with_reducible refine gate_dst (N := 3) rfl ?_); refine box_event ?hg (N := 3) ?hd (cs := #[.slice A0_0 l0_0.length c0_0]) (t := 26) ?hr ?_; (case hd => rfl); (case hg => rfl); (case hr => first | (go_simp; done) | (go_simp; rfl)); intro gb124 hg w9 hbox hb; have n0_ := xa_ (Kd.V_below (Kd.V_elderB (xV_ HO0_0.out) gb124 (Nat.le_of_eq hg.symm)) hb); have n1_ := xa_ (below_step (by repeat (first | (with_reducible first | exact HB.out | apply below_alloc | apply pw_below_drewN | apply below_drew1) | exact HB.out)) hb); have n2_ := xa_ (hbox); have n3_ := xa_ ((by rw [hg]; exact (below_size (by repeat (first | (with_reducible first | exact HB.out | apply below_alloc | apply pw_below_drewN | apply below_drew1) | exact HB.out))) : w.heap.size ≤ gb124)); have n4_ := xa_ ((by rw [hg]; exact (below_size (by repeat (first | (with_reducible first | exact HB.out | apply below_alloc | apply pw_below_drewN | apply below_drew1) | exact HB.out))) : w.heap.size ≤ gb124)); clear HO0_0; clear HB; have HO0_0 := n0_; have HB := n1_; have BK124 := n2_; have GW124 := n3_; have GE124 := n4_; clear n0_ n1_ n2_ n3_ n4_; clear hb hbox hg) | ((with_reducible refine gate_dst (N := 6) rfl ?_); refine box_event ?hg (N := 6) ?hd (cs := #[.slice none 0 0]) (t := 26) ?hr ?_; (case hd => rfl); (case hg => rfl); (case hr => first | (go_simp; done) | (go_simp; rfl)); intro gb125 hg w10 hbox hb; have n0_ := xa_ (Kd.V_below (Kd.V_elderB (xV_ HO0_0.out) gb125 (Nat.le_of_eq hg.symm)) hb); have n1_ := xa_ (blk_below (xb_ BK124.out) hb); have n2_ := xa_ (below_step (by repeat (first | (with_reducible first | exact HB.out | apply below_alloc | apply pw_below_drewN | apply below_drew1 | refine below_set ?_ GE124.out) | exact HB.out)) hb); have n3_ := xa_ (hbox); have n4_ := xa_ ((by rw [hg]; exact (below_size (by repeat (first | (with_reducible first | exact HB.out | apply below_alloc | apply pw_below_drewN | apply below_drew1 | refine below_set ?_ GE124.out) | exact HB.out))) : w.heap.size ≤ gb125)); have n5_ := xa_ ((by rw [hg]; exact (below_size (by repeat (first | (with_reducible first | exact HB.out | apply below_alloc | apply pw_below_drewN | apply below_drew1 | refine below_set ?_ GE124.out) | exact HB.out))) : w.heap.size ≤ gb125)); have n6_ := xa_ ((by rw [hg]; exact Nat.ne_of_lt (blk_lt (xb_ BK124.out)) : gb124 ≠ gb125)); have n7_ := xa_ ((by rw [hg]; exact Nat.ne_of_gt (blk_lt (xb_ BK124.out)) : gb125 ≠ gb124)); clear HO0_0; clear BK124; clear HB; have HO0_0 := n0_; have BK124 := n1_; have HB := n2_; have BK125 := n3_; have GW125 := n4_; have GE125 := n5_; have NB124_125 := n6_; have NB125_124 := n7_; clear n0_ n1_ n2_ n3_ n4_ n5_ n6_ n7_; clear hb hbox hg; have hnb11 := NB124_125.out; have hnc11 := NB125_124.out; have hcz12_0 : w10.cell? ⟨gb124, 0, none⟩ = some (.slice A0_0 l0_0.length c0_0) := (blk_cell BK124.out 0).trans rfl; have hfz12_0 := blk_frozen BK124.out 0) | ((with_reducible refine gate_callee (f := 14) rfl ?_); refine goesL_ (some 10) rfl rfl Tryd.func14 (by kernel_rfl) rfl #[.agg #[.slice A0_0 l0_0.length c0_0]] rfl (by (try simp only [List.map_toArray, List.map_cons, List.map_nil]); first | done | rfl | (simp only [List.length_drop, List.length_take]; rfl)) ?_; (with_reducible refine (tree_Good.calls _ _ l0_0 true _ ?side1 ?side2 A4.out).mono ?_); (case side1 => exact xC_ (Kd.V_reads' HO0_0.out).2.2); (case side2 => exact (Kd.V_reads' HO0_0.out).2.1); rintro e w13 ⟨rfl, hb⟩; refine ⟨_, rfl, ?_⟩; replace HO0_0 := xa_ (Kd.V_below (xV_ HO0_0.out) hb); replace BK124 := xa_ (blk_below (xb_ BK124.out) hb); replace BK125 := xa_ (blk_below (xb_ BK125.out) hb); replace HB := xa_ (below_step (by repeat (first | (with_reducible first | exact HB.out | apply below_alloc | apply pw_below_drewN | apply below_drew1 | refine below_set ?_ GE124.out | refine below_set ?_ GE125.out) | exact HB.out)) hb); (try clear hb); (try clear hb2); (try clear hk); (try clear hi)) | ((with_reducible refine gate_callee (f := 41) rfl ?_); refine goesL_ (some 15) rfl rfl Tryd.func41 (by kernel_rfl) rfl #[.string a1] rfl (by (try simp only [List.map_toArray, List.map_cons, List.map_nil]); first | done | rfl | (simp only [List.length_drop, List.length_take]; rfl)) ?_; (with_reducible refine (path_Good.calls a1 true _ A6.out).mono ?_); rintro e w14 ⟨rfl, hb⟩; refine ⟨_, rfl, ?_⟩; replace HO0_0 := xa_ (Kd.V_below (xV_ HO0_0.out) hb); replace BK124 := xa_ (blk_below (xb_ BK124.out) hb); replace BK125 := xa_ (blk_below (xb_ BK125.out) hb); replace HB := xa_ (below_step (by repeat (first | (with_reducible first | exact HB.out | apply below_alloc | apply pw_below_drewN | apply below_drew1 | refine below_set ?_ GE124.out | refine below_set ?_ GE125.out) | exact HB.out)) hb); (try clear hb); (try clear hb2); (try clear hk); (try clear hi); have hcz15_0 : w14.cell? ⟨gb124, 0, none⟩ = some (.slice A0_0 l0_0.length c0_0) := (blk_cell BK124.out 0).trans rfl; have hfz15_0 := blk_frozen BK124.out 0) | ((with_reducible refine gate_callee (f := 66) rfl ?_); refine goesL_ (some 22) rfl rfl Tryd.func66 (by kernel_rfl) rfl #[.agg #[.slice A0_0 l0_0.length c0_0], .agg #[.string a1, .bool false, .slice A2 l2.length c2]] rfl (by (try simp only [List.map_toArray, List.map_cons, List.map_nil]); first | done | rfl | (simp only [List.length_drop, List.length_take]; rfl)) ?_; (with_reducible refine (tree_with.calls (fun k_ => (((P0_0_ k_ ∨ w.heap.size ≤ k_) ∧ k_ ≠ gb124) ∧ k_ ≠ gb125)) _ _ l0_0 a1 false _ _ l2 t128 t131 _ ?side1 ?side2 ?side3 A8.out).mono ?_); (case side1 => exact HO0_0.out); (case side2 => exact xC_ (Kd.C_below HR2.out HB.out)); (case side3 => exact HC2.out); rintro e w16 ⟨v129, rfl, ho0, hb⟩; refine ⟨_, rfl, ?_⟩; replace HO0_0 := xa_ (Kd.V_below (xV_ HO0_0.out) hb); replace HO130 := xa_ (Kd.V_lower (Kd.V_mono (ok' := fun k_ => (P0_0_ k_ ∨ w.heap.size ≤ k_) ∧ k_ ≠ gb124 ∧ k_ ≠ gb125) ho0 (fun k_ hk_ => ⟨Or.elim hk_ (fun hs_ => hs_.1.1) (fun hn_ => (.inr (Nat.le_trans (below_size (by repeat (first | (with_reducible first | exact HB.out | apply below_alloc | apply pw_below_drewN | apply below_drew1 | refine below_set ?_ GE124.out | refine below_set ?_ GE125.out) | exact HB.out))) hn_))), Or.elim hk_ (fun hs_ => hs_.1.2) (fun hn_ => (Kd.freshB (xb_ BK124.out) k_ hn_)), Or.elim hk_ (fun hs_ => hs_.2) (fun hn_ => (Kd.freshB (xb_ BK125.out) k_ hn_))⟩)) (below_size (by repeat (first | (with_reducible first | exact HB.out | apply below_alloc | apply pw_below_drewN | apply below_drew1 | refine below_set ?_ GE124.out | refine below_set ?_ GE125.out) | exact HB.out)))); replace BK124 := xa_ (blk_below (xb_ BK124.out) hb); replace BK125 := xa_ (blk_below (xb_ BK125.out) hb); replace HB := xa_ (below_step (by repeat (first | (with_reducible first | exact HB.out | apply below_alloc | apply pw_below_drewN | apply below_drew1 | refine below_set ?_ GE124.out | refine below_set ?_ GE125.out) | exact HB.out)) hb); (try clear hb); (try clear hb2); (try clear hk); (try clear hi); (try clear ho0); obtain ⟨Ao17, co17, eo17⟩ := Kd.V_slice HO130.out; subst eo17; have hcz18_0 : w16.cell? ⟨gb125, 0, none⟩ = some (.slice none 0 0) := (blk_cell BK125.out 0).trans rfl; have hfz18_0 := blk_frozen BK125.out 0))
   refine bodyPost_ret (results_ct rfl _ _ gb125 26 #[.slice Ao17 t128.length co17] (0, 0) _ rfl (by (with_reducible repeat (first | refine blk_drewN ?_ _ | refine blk_drew ?_ | refine blk_alloc ?_ _)); refine blk_put (cs := #[.slice none 0 0]) ?_ 0 _ rfl; (with_reducible repeat (first | refine blk_drewN ?_ _ | refine blk_drew ?_ | refine blk_alloc ?_ _)); exact BK125.out) Tryd.underlying26 rfl (by kernel_rfl)) rfl ?_
   exact ⟨_, by first | rfl | (simp [errW_none, errW_some] <;> rfl) | (simp [*, errW_none, errW_some] <;> rfl), by (with_reducible repeat (first | apply Kd.V_alloc | apply Kd.V_drewN | apply Kd.V_drew)); exact Kd.V_mono (Kd.V_far (p := ⟨gb125, 0, none⟩) (Kd.V_mono HO130.out (fun k_ hk => (⟨hk, hk.2.2⟩ : _ ∧ k_ ≠ gb125))) (fun _ hk => hk.2) (.slice Ao17 t128.length co17)) (fun _ hk => hk.1.1), by repeat (first | (with_reducible first | exact HB.out | apply below_alloc | apply pw_below_drewN | apply below_drew1 | refine below_set ?_ GE124.out | refine below_set ?_ GE125.out) | exact HB.out)⟩
  ·replace c7 := Bool.eq_false_iff.mpr c7
   subst c7
   have H1 : (some (l0_0, 4)) = some (r1, r2) := by rw [if_neg (show ¬ (false = true) by decide)] at H; exact H
   clear H
   have H := H1
   clear H1
   simp only [Option.some.injEq, Prod.mk.injEq] at H
   obtain ⟨rfl, rfl⟩ := H
   go_enter Tryd.func17, Tryd.ntmps17
   go_wp2_with (first | ((with_reducible refine gate_dst (N := 3) rfl ?_); refine box_event ?hg (N := 3) ?hd (cs := #[.slice A0_0 l0_0.length c0_0]) (t := 26) ?hr ?_; (case hd => rfl); (case hg => rfl); (case hr => first | (go_simp; done) | (go_simp; rfl)); intro gb124 hg w19 hbox hb; have n0_ := xa_ (Kd.V_below (Kd.V_elderB (xV_ HO0_0.out) gb124 (Nat.le_of_eq hg.symm)) hb); have n1_ := xa_ (below_step (by repeat (first | (with_reducible first | exact HB.out | apply below_alloc | apply pw_below_drewN | apply below_drew1) | exact HB.out)) hb); have n2_ := xa_ (hbox); have n3_ := xa_ ((by rw [hg]; exact (below_size (by repeat (first | (with_reducible first | exact HB.out | apply below_alloc | apply pw_below_drewN | apply below_drew1) | exact HB.out))) : w.heap.size ≤ gb124)); have n4_ := xa_ ((by rw [hg]; exact (below_size (by repeat (first | (with_reducible first | exact HB.out | apply below_alloc | apply pw_below_drewN | apply below_drew1) | exact HB.out))) : w.heap.size ≤ gb124)); clear HO0_0; clear HB; have HO0_0 := n0_; have HB := n1_; have BK124 := n2_; have GW124 := n3_; have GE124 := n4_; clear n0_ n1_ n2_ n3_ n4_; clear hb hbox hg) | ((with_reducible refine gate_dst (N := 6) rfl ?_); refine box_event ?hg (N := 6) ?hd (cs := #[.slice none 0 0]) (t := 26) ?hr ?_; (case hd => rfl); (case hg => rfl); (case hr => first | (go_simp; done) | (go_simp; rfl)); intro gb125 hg w20 hbox hb; have n0_ := xa_ (Kd.V_below (Kd.V_elderB (xV_ HO0_0.out) gb125 (Nat.le_of_eq hg.symm)) hb); have n1_ := xa_ (blk_below (xb_ BK124.out) hb); have n2_ := xa_ (below_step (by repeat (first | (with_reducible first | exact HB.out | apply below_alloc | apply pw_below_drewN | apply below_drew1 | refine below_set ?_ GE124.out) | exact HB.out)) hb); have n3_ := xa_ (hbox); have n4_ := xa_ ((by rw [hg]; exact (below_size (by repeat (first | (with_reducible first | exact HB.out | apply below_alloc | apply pw_below_drewN | apply below_drew1 | refine below_set ?_ GE124.out) | exact HB.out))) : w.heap.size ≤ gb125)); have n5_ := xa_ ((by rw [hg]; exact (below_size (by repeat (first | (with_reducible first | exact HB.out | apply below_alloc | apply pw_below_drewN | apply below_drew1 | refine below_set ?_ GE124.out) | exact HB.out))) : w.heap.size ≤ gb125)); have n6_ := xa_ ((by rw [hg]; exact Nat.ne_of_lt (blk_lt (xb_ BK124.out)) : gb124 ≠ gb125)); have n7_ := xa_ ((by rw [hg]; exact Nat.ne_of_gt (blk_lt (xb_ BK124.out)) : gb125 ≠ gb124)); clear HO0_0; clear BK124; clear HB; have HO0_0 := n0_; have BK124 := n1_; have HB := n2_; have BK125 := n3_; have GW125 := n4_; have GE125 := n5_; have NB124_125 := n6_; have NB125_124 := n7_; clear n0_ n1_ n2_ n3_ n4_ n5_ n6_ n7_; clear hb hbox hg; have hnb21 := NB124_125.out; have hnc21 := NB125_124.out; have hcz22_0 : w20.cell? ⟨gb124, 0, none⟩ = some (.slice A0_0 l0_0.length c0_0) := (blk_cell BK124.out 0).trans rfl; have hfz22_0 := blk_frozen BK124.out 0) | ((with_reducible refine gate_callee (f := 14) rfl ?_); refine goesL_ (some 10) rfl rfl Tryd.func14 (by kernel_rfl) rfl #[.agg #[.slice A0_0 l0_0.length c0_0]] rfl (by (try simp only [List.map_toArray, List.map_cons, List.map_nil]); first | done | rfl | (simp only [List.length_drop, List.length_take]; rfl)) ?_; (with_reducible refine (tree_Good.calls _ _ l0_0 true _ ?side1 ?side2 A4.out).mono ?_); (case side1 => exact xC_ (Kd.V_reads' HO0_0.out).2.2); (case side2 => exact (Kd.V_reads' HO0_0.out).2.1); rintro e w23 ⟨rfl, hb⟩; refine ⟨_, rfl, ?_⟩; replace HO0_0 := xa_ (Kd.V_below (xV_ HO0_0.out) hb); replace BK124 := xa_ (blk_below (xb_ BK124.out) hb); replace BK125 := xa_ (blk_below (xb_ BK125.out) hb); replace HB := xa_ (below_step (by repeat (first | (with_reducible first | exact HB.out | apply below_alloc | apply pw_below_drewN | apply below_drew1 | refine below_set ?_ GE124.out | refine below_set ?_ GE125.out) | exact HB.out)) hb); (try clear hb); (try clear hb2); (try clear hk); (try clear hi)) | ((with_reducible refine gate_callee (f := 41) rfl ?_); refine goesL_ (some 15) rfl rfl Tryd.func41 (by kernel_rfl) rfl #[.string a1] rfl (by (try simp only [List.map_toArray, List.map_cons, List.map_nil]); first | done | rfl | (simp only [List.length_drop, List.length_take]; rfl)) ?_; (with_reducible refine (path_Good.calls a1 false _ A6.out).mono ?_); rintro e w24 ⟨rfl, hb⟩; refine ⟨_, rfl, ?_⟩; replace HO0_0 := xa_ (Kd.V_below (xV_ HO0_0.out) hb); replace BK124 := xa_ (blk_below (xb_ BK124.out) hb); replace BK125 := xa_ (blk_below (xb_ BK125.out) hb); replace HB := xa_ (below_step (by repeat (first | (with_reducible first | exact HB.out | apply below_alloc | apply pw_below_drewN | apply below_drew1 | refine below_set ?_ GE124.out | refine below_set ?_ GE125.out) | exact HB.out)) hb); (try clear hb); (try clear hb2); (try clear hk); (try clear hi); have hcz25_0 : w24.cell? ⟨gb124, 0, none⟩ = some (.slice A0_0 l0_0.length c0_0) := (blk_cell BK124.out 0).trans rfl; have hfz25_0 := blk_frozen BK124.out 0; have hcz26_0 : w24.cell? ⟨gb125, 0, none⟩ = some (.slice none 0 0) := (blk_cell BK125.out 0).trans rfl; have hfz26_0 := blk_frozen BK125.out 0))
   refine bodyPost_ret (results_ct rfl _ _ gb125 26 #[.slice A0_0 l0_0.length c0_0] (0, 0) _ rfl (by (with_reducible repeat (first | refine blk_drewN ?_ _ | refine blk_drew ?_ | refine blk_alloc ?_ _)); refine blk_put (cs := #[.slice none 0 0]) ?_ 0 _ rfl; (with_reducible repeat (first | refine blk_drewN ?_ _ | refine blk_drew ?_ | refine blk_alloc ?_ _)); exact BK125.out) Tryd.underlying26 rfl (by kernel_rfl)) rfl ?_
   exact ⟨_, by first | rfl | (simp [errW_none, errW_some] <;> rfl) | (simp [*, errW_none, errW_some] <;> rfl), by (with_reducible repeat (first | apply Kd.V_alloc | apply Kd.V_drewN | apply Kd.V_drew)); exact Kd.V_mono (Kd.V_far (p := ⟨gb125, 0, none⟩) (Kd.V_mono HO0_0.out (fun k_ hk => (⟨hk, hk.2⟩ : _ ∧ k_ ≠ gb125))) (fun _ hk => hk.2) (.slice A0_0 l0_0.length c0_0)) (fun _ hk => hk.1.1.1), by repeat (first | (with_reducible first | exact HB.out | apply below_alloc | apply pw_below_drewN | apply below_drew1 | refine below_set ?_ GE124.out | refine below_set ?_ GE125.out) | exact HB.out)⟩
 ·replace c5 := Bool.eq_false_iff.mpr c5
  subst c5
  have H1 : (some (l0_0, 1)) = some (r1, r2) := by rw [if_neg (show ¬ (false = true) by decide)] at H; exact H
  clear H
  have H := H1
  clear H1
  simp only [Option.some.injEq, Prod.mk.injEq] at H
  obtain ⟨rfl, rfl⟩ := H
  go_enter Tryd.func17, Tryd.ntmps17
  go_wp2_with (first | ((with_reducible refine gate_dst (N := 3) rfl ?_); refine box_event ?hg (N := 3) ?hd (cs := #[.slice A0_0 l0_0.length c0_0]) (t := 26) ?hr ?_; (case hd => rfl); (case hg => rfl); (case hr => first | (go_simp; done) | (go_simp; rfl)); intro gb124 hg w27 hbox hb; have n0_ := xa_ (Kd.V_below (Kd.V_elderB (xV_ HO0_0.out) gb124 (Nat.le_of_eq hg.symm)) hb); have n1_ := xa_ (below_step (by repeat (first | (with_reducible first | exact HB.out | apply below_alloc | apply pw_below_drewN | apply below_drew1) | exact HB.out)) hb); have n2_ := xa_ (hbox); have n3_ := xa_ ((by rw [hg]; exact (below_size (by repeat (first | (with_reducible first | exact HB.out | apply below_alloc | apply pw_below_drewN | apply below_drew1) | exact HB.out))) : w.heap.size ≤ gb124)); have n4_ := xa_ ((by rw [hg]; exact (below_size (by repeat (first | (with_reducible first | exact HB.out | apply below_alloc | apply pw_below_drewN | apply below_drew1) | exact HB.out))) : w.heap.size ≤ gb124)); clear HO0_0; clear HB; have HO0_0 := n0_; have HB := n1_; have BK124 := n2_; have GW124 := n3_; have GE124 := n4_; clear n0_ n1_ n2_ n3_ n4_; clear hb hbox hg) | ((with_reducible refine gate_dst (N := 6) rfl ?_); refine box_event ?hg (N := 6) ?hd (cs := #[.slice none 0 0]) (t := 26) ?hr ?_; (case hd => rfl); (case hg => rfl); (case hr => first | (go_simp; done) | (go_simp; rfl)); intro gb125 hg w28 hbox hb; have n0_ := xa_ (Kd.V_below (Kd.V_elderB (xV_ HO0_0.out) gb125 (Nat.le_of_eq hg.symm)) hb); have n1_ := xa_ (blk_below (xb_ BK124.out) hb); have n2_ := xa_ (below_step (by repeat (first | (with_reducible first | exact HB.out | apply below_alloc | apply pw_below_drewN | apply below_drew1 | refine below_set ?_ GE124.out) | exact HB.out)) hb); have n3_ := xa_ (hbox); have n4_ := xa_ ((by rw [hg]; exact (below_size (by repeat (first | (with_reducible first | exact HB.out | apply below_alloc | apply pw_below_drewN | apply below_drew1 | refine below_set ?_ GE124.out) | exact HB.out))) : w.heap.size ≤ gb125)); have n5_ := xa_ ((by rw [hg]; exact (below_size (by repeat (first | (with_reducible first | exact HB.out | apply below_alloc | apply pw_below_drewN | apply below_drew1 | refine below_set ?_ GE124.out) | exact HB.out))) : w.heap.size ≤ gb125)); have n6_ := xa_ ((by rw [hg]; exact Nat.ne_of_lt (blk_lt (xb_ BK124.out)) : gb124 ≠ gb125)); have n7_ := xa_ ((by rw [hg]; exact Nat.ne_of_gt (blk_lt (xb_ BK124.out)) : gb125 ≠ gb124)); clear HO0_0; clear BK124; clear HB; have HO0_0 := n0_; have BK124 := n1_; have HB := n2_; have BK125 := n3_; have GW125 := n4_; have GE125 := n5_; have NB124_125 := n6_; have NB125_124 := n7_; clear n0_ n1_ n2_ n3_ n4_ n5_ n6_ n7_; clear hb hbox hg; have hnb29 := NB124_125.out; have hnc29 := NB125_124.out; have hcz30_0 : w28.cell? ⟨gb124, 0, none⟩ = some (.slice A0_0 l0_0.length c0_0) := (blk_cell BK124.out 0).trans rfl; have hfz30_0 := blk_frozen BK124.out 0) | ((with_reducible refine gate_callee (f := 14) rfl ?_); refine goesL_ (some 10) rfl rfl Tryd.func14 (by kernel_rfl) rfl #[.agg #[.slice A0_0 l0_0.length c0_0]] rfl (by (try simp only [List.map_toArray, List.map_cons, List.map_nil]); first | done | rfl | (simp only [List.length_drop, List.length_take]; rfl)) ?_; (with_reducible refine (tree_Good.calls _ _ l0_0 false _ ?side1 ?side2 A4.out).mono ?_); (case side1 => exact xC_ (Kd.V_reads' HO0_0.out).2.2); (case side2 => exact (Kd.V_reads' HO0_0.out).2.1); rintro e w31 ⟨rfl, hb⟩; refine ⟨_, rfl, ?_⟩; replace HO0_0 := xa_ (Kd.V_below (xV_ HO0_0.out) hb); replace BK124 := xa_ (blk_below (xb_ BK124.out) hb); replace BK125 := xa_ (blk_below (xb_ BK125.out) hb); replace HB := xa_ (below_step (by repeat (first | (with_reducible first | exact HB.out | apply below_alloc | apply pw_below_drewN | apply below_drew1 | refine below_set ?_ GE124.out | refine below_set ?_ GE125.out) | exact HB.out)) hb); (try clear hb); (try clear hb2); (try clear hk); (try clear hi); have hcz32_0 : w31.cell? ⟨gb124, 0, none⟩ = some (.slice A0_0 l0_0.length c0_0) := (blk_cell BK124.out 0).trans rfl; have hfz32_0 := blk_frozen BK124.out 0; have hcz33_0 : w31.cell? ⟨gb125, 0, none⟩ = some (.slice none 0 0) := (blk_cell BK125.out 0).trans rfl; have hfz33_0 := blk_frozen BK125.out 0))
  refine bodyPost_ret (results_ct rfl _ _ gb125 26 #[.slice A0_0 l0_0.length c0_0] (0, 0) _ rfl (by (with_reducible repeat (first | refine blk_drewN ?_ _ | refine blk_drew ?_ | refine blk_alloc ?_ _)); refine blk_put (cs := #[.slice none 0 0]) ?_ 0 _ rfl; (with_reducible repeat (first | refine blk_drewN ?_ _ | refine blk_drew ?_ | refine blk_alloc ?_ _)); exact BK125.out) Tryd.underlying26 rfl (by kernel_rfl)) rfl ?_
  exact ⟨_, by first | rfl | (simp [errW_none, errW_some] <;> rfl) | (simp [*, errW_none, errW_some] <;> rfl), by (with_reducible repeat (first | apply Kd.V_alloc | apply Kd.V_drewN | apply Kd.V_drew)); exact Kd.V_mono (Kd.V_far (p := ⟨gb125, 0, none⟩) (Kd.V_mono HO0_0.out (fun k_ hk => (⟨hk, hk.2⟩ : _ ∧ k_ ≠ gb125))) (fun _ hk => hk.2) (.slice A0_0 l0_0.length c0_0)) (fun _ hk => hk.1.1.1), by repeat (first | (with_reducible first | exact HB.out | apply below_alloc | apply pw_below_drewN | apply below_drew1 | refine below_set ?_ GE124.out | refine below_set ?_ GE125.out) | exact HB.out)⟩

end Go.Proofs.YtidlldfghkaeeaaDoor.P
end
section
namespace Go.Proofs.YtidlldfghkaeeaaDoor.P
open Go.RowKit Go.Proofs.YtidlldfghkaeeaaDoorW.PrintWords Go.Proofs.YtidlldfghkaeeaaDoorW.PrintLast Go.Proofs.YtidlldfghkaeeaaDoorW.PrintMore
set_option linter.unusedVariables false
set_option linter.unusedSimpArgs false

theorem toList_ne {s : ByteArray} : s.toList = ([] : List UInt8) ↔ s = ⟨#[]⟩ := by
  rw [Lib.toList_data]
  exact ⟨fun h => ByteArray.ext (Array.toList_inj.1 h), fun h => by rw [h]⟩
/-- Whether something may stand in a path's Up: the errno. -/
def upE (l : List S30) (p : ByteArray) : Int := if upB p = ⟨#[]⟩ then 0 else if ∃ x ∈ l, x.f0 = upB p then if ∃ x ∈ l, x.f0 = upB p ∧ x.f1 = true then 0 else 7 else 5
def upOk (l : List S30) (p : ByteArray) : Prop := upL p.data.toList = [] ∨ ∃ d ∈ l, d.f0 = upB p ∧ d.f1 = true
theorem upE_zero {l : List S30} {p : ByteArray} : upE l p = 0 ↔ upOk l p := by
  unfold upE upOk
  rw [← upB_nil]
  by_cases h1 : upB p = ⟨#[]⟩
  · simp [h1]
  · rw [if_neg h1]
    by_cases h2 : ∃ x ∈ l, x.f0 = upB p ∧ x.f1 = true
    · obtain ⟨x, hx, h3, h4⟩ := h2
      rw [if_pos ⟨x, hx, h3⟩, if_pos ⟨x, hx, h3, h4⟩]
      exact ⟨fun _ => .inr ⟨x, hx, h3, h4⟩, fun _ => rfl⟩
    · rw [if_neg h2]
      constructor
      · intro h
        split at h <;> cases h
      · rintro (h | h)
        · exact absurd h h1
        · exact absurd h h2
theorem tree_up.eq {l : List S30} {p : ByteArray} (h : okT l) (hp : p.size < 4294967280) (hs : Srt S30.f0 l) (hg : Gd p.data.toList) : tree_up.f l p = some (upE l p) := by
  unfold tree_up.f upE
  rw [Up_eq (by omega), if_pos hg, Option.bind_some]
  dsimp only
  by_cases h1 : upB p = ⟨#[]⟩
  · rw [if_pos (toList_ne.2 h1), if_pos h1]
  · rw [if_neg (fun e => h1 (toList_ne.1 e)), if_neg h1, tree_find.eq h (by have := upB_size hg; omega) hs, Option.bind_some]
    dsimp only
    by_cases h2 : ∃ x ∈ l, x.f0 = upB p
    · obtain ⟨hlt, hat⟩ := (lowB_at hs).2 h2
      rw [if_pos (decide_eq_true h2), if_pos h2, if_pos (Int.natCast_nonneg _), if_pos (by omega), rdT hlt]
      by_cases h3 : ∃ x ∈ l, x.f0 = upB p ∧ x.f1 = true
      · obtain ⟨x, hx, h4, h5⟩ := h3
        have e : x = l[lowB S30.f0 (upB p) l] := srt_key hs hx (List.getElem_mem hlt) (h4.trans hat.symm)
        rw [if_pos (by rw [← e]; exact h5), if_pos ⟨x, hx, h4, h5⟩]
      · rw [if_neg (fun h => h3 ⟨_, List.getElem_mem hlt, hat, h⟩), if_neg h3]
    · rw [if_neg (by simpa using h2), if_neg h2]
def with1 (l : List S30) (p : ByteArray) (d : Bool) (b : List Int) : List S30 × Int := if upE l p = 0 then with0 l p d b else (l, upE l p)
theorem tree_with.eq {l : List S30} {p : ByteArray} {d : Bool} {b : List Int} (h : okT l) (hp : p.size < 4294967280) (hg : GT30 l) (hd : Gd p.data.toList) (hb : b.length ≤ 1000000000000) : tree_with.f l p d b = some (with1 l p d b) := by
  unfold tree_with.f with1
  rw [if_pos ⟨h.1, hp, hg.2.2.1, hb, h.2, by have := hg.1; omega⟩, tree_up.eq h hp hg.2.2.1 hd, Option.bind_some]
  split
  · rfl
  · rfl
def put0 (l : List S30) (p : ByteArray) (b : List Int) : List S30 × Int := if GT30 l then if Gd p.data.toList then with1 l p false b else (l, 4) else (l, 1)
theorem tree_Put.eq {l : List S30} {p : ByteArray} {b : List Int} (h : okT l) (hp : p.size < 4294967280) (hb : b.length ≤ 1000000000000) : tree_Put.f l p b = some (put0 l p b) := by
  unfold tree_Put.f put0
  rw [tree_Good.eq h, Option.bind_some]
  by_cases hg : GT30 l
  · rw [if_pos (decide_eq_true hg), if_pos hg, Good_eq (by omega), Option.bind_some]
    by_cases hd : Gd p.data.toList
    · rw [if_pos (decide_eq_true hd), if_pos hd, tree_with.eq h hp hg hd hb]
      rfl
    · rw [if_neg (by simpa using hd), if_neg hd]
  · rw [if_neg (by simpa using hg), if_neg hg]
def make0 (l : List S30) (p : ByteArray) : List S30 × Int := if findE l p = 0 then (l, 6) else if findE l p = 5 then with1 l p true [] else (l, findE l p)
theorem findE_five {l : List S30} {p : ByteArray} : findE l p = 5 ↔ GT30 l ∧ Gd p.data.toList ∧ ∀ x ∈ l, x.f0 ≠ p := by
  unfold findE
  constructor
  · intro h
    split at h
    · rename_i h1
      split at h
      · rename_i h2
        split at h
        · cases h
        · rename_i h3
          exact ⟨h1, h2, fun x hx e => h3 ⟨x, hx, e⟩⟩
      · cases h
    · cases h
  · rintro ⟨h1, h2, h3⟩
    rw [if_pos h1, if_pos h2, if_neg (fun ⟨x, hx, e⟩ => h3 x hx e)]
theorem findE_zero {l : List S30} {p : ByteArray} : findE l p = 0 ↔ GT30 l ∧ Gd p.data.toList ∧ ∃ x ∈ l, x.f0 = p := by
  unfold findE
  constructor
  · intro h
    split at h
    · rename_i h1
      split at h
      · rename_i h2
        split at h
        · rename_i h3
          exact ⟨h1, h2, h3⟩
        · cases h
      · cases h
    · cases h
  · rintro ⟨h1, h2, h3⟩
    rw [if_pos h1, if_pos h2, if_pos h3]
theorem tree_Make.eq {l : List S30} {p : ByteArray} (h : okT l) (hp : p.size < 4294967280) : tree_Make.f l p = some (make0 l p) := by
  unfold tree_Make.f make0
  obtain ⟨r1, r2, r3, he⟩ := tree_Find.eq h hp
  rw [he, Option.bind_some]
  dsimp only
  by_cases h0 : findE l p = 0
  · rw [if_pos h0, if_pos h0]
  · rw [if_neg h0, if_neg h0]
    by_cases h5 : findE l p = 5
    · obtain ⟨hg, hd, _⟩ := findE_five.1 h5
      rw [if_pos h5, if_pos h5, tree_with.eq h hp hg hd (by decide)]
      rfl
    · rw [if_neg h5, if_neg h5]
theorem tree_Bytes.eq {l : List S30} {k : Nat} (h : okT l) (hk : 40 < k) : tree_Bytes.f k l = some (if GT30 l then (nB30 l : Int) else 0) := by
  unfold tree_Bytes.f
  rw [tree_Good.eq h, Option.bind_some]
  by_cases hg : GT30 l
  · have hl := hg.1
    rw [if_pos (decide_eq_true hg), if_pos hg, count_eq (by omega) (by omega) (by have := h.2; omega)]
    rfl
  · rw [if_neg (by simpa using hg), if_neg hg]
theorem tree_Same.eq {l l' : List S30} (h : okT l) (h' : okT l') : tree_Same.f l l' = some (decide (GT30 l) && decide (GT30 l') && sameL l l') := by
  unfold tree_Same.f
  rw [if_pos ⟨h, h'⟩]
/-- A tree is small. -/
theorem GT_okT {l : List S30} (h : GT30 l) : okT l := by
  have h1 := h.1
  have h2 : nB30 l ≤ 16384 := h.2.1
  refine ⟨okP_iff.2 ⟨fun x hx => ?_, by omega⟩, by omega⟩
  have := gd_len (h.2.2.2 x hx).1
  rw [D_size]
  omega
/-- An entry more is a tree. -/
theorem GT_ins {l : List S30} {p : ByteArray} {d : Bool} {b : List Int} (h : GT30 l) (hg : Gd p.data.toList) (hu : upOk l p) (hdb : d = true → b = []) (hn : ¬ ∃ x ∈ l, x.f0 = p ∧ x.f1 = true) (h1 : (insT l p d b).length ≤ 40) (h2 : b.length ≤ 2048) (h3 : nB30 (insT l p d b) ≤ 16384) : GT30 (insT l p d b) := by
  have hs := h.2.2.1
  have hmem : ∀ y, y ∈ insT l p d b ↔ y = ⟨p, d, b⟩ ∨ (y ∈ l ∧ y.f0 ≠ p) := fun y => insE_mem hs
  have hup : ∀ q : ByteArray, (∃ x ∈ l, x.f0 = q ∧ x.f1 = true) → ∃ x ∈ insT l p d b, x.f0 = q ∧ x.f1 = true := by
    rintro q ⟨x, hx, e1, e2⟩
    refine ⟨x, (hmem x).2 (.inr ⟨hx, fun e => hn ⟨x, hx, e, e2⟩⟩), e1, e2⟩
  refine ⟨h1, h3, insE_srt hs, fun y hy => ?_⟩
  rcases (hmem y).1 hy with rfl | ⟨hy, hyp⟩
  · exact ⟨hg, hdb, h2, hu.imp id (fun h => hup _ h)⟩
  · obtain ⟨a1, a2, a3, a4⟩ := h.2.2.2 y hy
    exact ⟨a1, a2, a3, a4.imp id (fun h => hup _ h)⟩
/-- What tree.with comes to, on trees. -/
theorem with1_cases {l : List S30} {p : ByteArray} {d : Bool} {b : List Int} (h : GT30 l) (hg : Gd p.data.toList) (hdb : d = true → b = []) : ((with1 l p d b).1 = l ∧ (with1 l p d b).2 ≠ 0) ∨ (with1 l p d b = (insT l p d b, 0) ∧ GT30 (insT l p d b) ∧ upOk l p ∧ ¬ ∃ x ∈ l, x.f0 = p ∧ x.f1 = true) := by
  unfold with1
  by_cases hu : upE l p = 0
  · rw [if_pos hu]
    unfold with0
    by_cases h1 : ∃ x ∈ l, x.f0 = p ∧ x.f1 = true
    · rw [if_pos h1]
      exact .inl ⟨rfl, by show (7 : Int) ≠ 0; decide⟩
    · rw [if_neg h1]
      by_cases h2 : (insT l p d b).length > 40 ∨ b.length > 2048 ∨ nB30 (insT l p d b) > 16384
      · rw [if_pos h2]
        exact .inl ⟨rfl, by show (9 : Int) ≠ 0; decide⟩
      · rw [if_neg h2]
        have hu' := upE_zero.1 hu
        exact .inr ⟨rfl, GT_ins h hg hu' hdb h1 (by omega) (by omega) (by omega), hu', h1⟩
  · rw [if_neg hu]
    exact .inl ⟨rfl, hu⟩
end Go.Proofs.YtidlldfghkaeeaaDoor.P
end
section
namespace Go.Proofs.YtidlldfghkaeeaaDoor.P
open Go.RowKit Go.Proofs.YtidlldfghkaeeaaDoorW.PrintWords Go.Proofs.YtidlldfghkaeeaaDoorW.PrintLast Go.Proofs.YtidlldfghkaeeaaDoorW.PrintMore
set_option linter.unusedVariables false
set_option linter.unusedSimpArgs false
instance : DecidableEq S30 := fun a b => if h : a.f0 = b.f0 ∧ a.f1 = b.f1 ∧ a.f2 = b.f2 then isTrue (by cases a; cases b; simp_all) else isFalse (by rintro rfl; exact h ⟨rfl, rfl, rfl⟩)
def aw1 : List S30 := [⟨⟨#[97]⟩, true, []⟩]
def aw2 : List S30 := [⟨⟨#[97]⟩, true, []⟩, ⟨⟨#[97, 47, 98]⟩, false, [120]⟩]
theorem aw_make : make0 [] ⟨#[97]⟩ = (aw1, 0) := by decide +kernel
theorem aw_put : put0 aw1 ⟨#[97, 47, 98]⟩ [120] = (aw2, 0) := by decide +kernel
theorem aw_good : GT30 aw2 := by decide +kernel
def tallymanlaw8_awake.f : Option Bool := some true
set_option maxHeartbeats 8000000 in
set_option maxRecDepth 100000 in
theorem tallymanlaw8_awake.calls (r : Bool) (w : World) (h : tallymanlaw8_awake.f = some r) :
    Calls Tryd.prog 13 #[] w fun e w' => e = .returned (.bool r) ∧ Below w.heap.size w w' := by
  obtain rfl := Option.some.inj h
  have hu26 := Tryd.underlying26
  have e1 : tree_Make.f [] ⟨#[97]⟩ = some (aw1, 0) := by rw [tree_Make.eq (by decide) (by decide), aw_make]
  have e2 : tree_Put.f aw1 ⟨#[97, 47, 98]⟩ [120] = some (aw2, 0) := by rw [tree_Put.eq (by decide) (by decide) (by decide), aw_put]
  have e3 : tree_Good.f aw2 = some true := by rw [tree_Good.eq (by decide), decide_eq_true aw_good]
  go_enter Tryd.func13, Tryd.ntmps13
  go_wp2_with (fail)
  refine (tree_Make.calls (fun _ => False) none 0 [] ⟨#[97]⟩ aw1 0 w (Kd.V_nil _ _ _ _ _) e1).mono ?_
  rintro e W1 ⟨v1, rfl, hV1, hb1⟩
  have hV1' := hV1
  obtain ⟨A1, c1, rfl⟩ := Kd.V_slice hV1
  clear e1
  dsimp only
  have bk := blk_new W1 (.cells #[.slice A1 aw1.length c1] 26)
  have bB := below_alloc hb1 (.cells #[.slice A1 aw1.length c1] 26)
  have m1 := blk_cell bk 0
  have hbs := hb1.size
  have hVq := Kd.V_alloc (Kd.V_bound hV1) (.cells #[.slice A1 aw1.length c1] 26)
  clear hV1 hV1' hb1
  go_wp2_with (refine gate_dst (N := 11) rfl ?_; refine Stop.out ?_)
  obtain ⟨gb, hgb⟩ : ∃ gb, gb = W1.heap.size := ⟨_, rfl⟩
  rw [← hgb] at bk m1 hVq ⊢
  have hgw : w.heap.size ≤ gb := by rw [hgb]; exact hbs
  clear hgb hbs
  generalize W1.alloc (.cells #[.slice A1 aw1.length c1] 26) = Wq at *
  constructor
  go_wp2_with ((with_reducible refine gate_dst (N := 12) rfl ?_); refine V_mlit (xs := [120]) (n := 1) (N := 12) ?hg ?hd (.tmp 11) (t := 23) (e := 5) rfl rfl Tryd.underlying23 Tryd.underlying5 rfl rfl (by decide) ?_; (case hd => rfl); (case hg => rfl); intro vx wx hv bx hg_ hnew; refine Stop.out ?_)
  obtain ⟨Ax, cx, rfl, hcx, hFx⟩ := hv
  have bk2 := (bx.block _ (blk_lt bk)).trans bk
  have bB2 := bB.trans (bx.mono bB.size)
  have m2 := blk_cell bk2 0
  have hV2 := Kd.V_below hVq bx
  have hxs := bx.size
  clear m1 hg_ hnew bB
  constructor
  go_wp2_with (fail)
  refine (tree_Put.calls _ A1 c1 aw1 ⟨#[97, 47, 98]⟩ Ax cx [120] aw2 0 wx hV2 (Kd.F_now hFx) hcx e2).mono ?_
  rintro e W3 ⟨v3, rfl, hV3, hb3⟩
  obtain ⟨A3, c3, rfl⟩ := Kd.V_slice hV3
  have hc3 := (Kd.V_reads' hV3).2
  have bk3 := (hb3.block _ (blk_lt bk2)).trans bk2
  have bk4 := blk_put (cs := #[.slice A1 aw1.length c1]) bk3 0 (.slice A3 aw2.length c3) rfl
  have bB3 := bB2.trans (hb3.mono bB2.size)
  clear bk2 bB2 m2 hV2 bx
  dsimp only
  have m3 := blk_cell bk3 0
  have f3 := blk_frozen bk3 0
  have hgx : gb < wx.heap.size := Nat.lt_of_lt_of_le (blk_lt bk) hxs
  have hV4 := Kd.V_far (p := ⟨gb, 0, none⟩) hV3 (fun k hk => by show k ≠ gb; rcases hk with hk | hk <;> omega) (.slice A3 aw2.length c3)
  have bB4 := bB3.setCell (p := ⟨gb, 0, none⟩) hgw (.slice A3 aw2.length c3)
  obtain ⟨ad, A5, c5, rfl, k0, k1, k2, k3, k4⟩ := atT (Kd.V_reads' hV4).2.2 0 (by decide)
  obtain ⟨ad', A6, c6, e6, l0, l1, l2, l3, l4⟩ := atT (Kd.V_reads' hV4).2.2 1 (by decide)
  obtain rfl : ad = ad' := by injection e6
  have hcv := Kd.C_string (P := Tryd.prog) (A := A6) (c := c6) Tryd.underlying23 Tryd.underlying5 Tryd.underlying9 l4
  have HV4 := Aside0.mk hV4
  have HC3 := Aside0.mk hc3
  have q1 : (W3.setCell ⟨gb, 0, none⟩ (.slice (some ad) aw2.length c3)).cell? ⟨ad.block, ad.off + 1, none⟩ = some (.bool true) := by
    have h := k1
    rw [show ad.add (0 * 3) = ad by simp [Addr.add]] at h
    exact h
  have q2 : (W3.setCell ⟨gb, 0, none⟩ (.slice (some ad) aw2.length c3)).cell? ⟨ad.block, ad.off + 3 + 2, none⟩ = some (.slice A6 1 c6) := by
    have h := l2
    simp only [Nat.one_mul, Addr.add, show ¬ (3 = 0) by decide, if_false] at h
    exact h
  have q3 : (convert 23 9 (.slice A6 1 c6)).run Tryd.prog (W3.setCell ⟨gb, 0, none⟩ (.slice (some ad) aw2.length c3)) = .ok (.string ⟨#[120]⟩) (W3.setCell ⟨gb, 0, none⟩ (.slice (some ad) aw2.length c3)) := hcv
  clear k1 l2 hcv
  clear k0 k2 l0 l1 e6 hV3 hVq hFx hV4 hc3 l4 k4
  go_wp2_with (fail)
  refine (tree_Good.calls (some ad) c3 aw2 true _ (Kd.V_reads' HV4.out).2.2 HC3.out.1 e3).mono ?_
  rintro e W5 ⟨rfl, hb5⟩
  have bB5 := bB4.trans (hb5.mono bB4.size)
  dsimp only
  go_wp2_with (fail)
  go_ret
  exact ⟨rfl, bB5⟩
end Go.Proofs.YtidlldfghkaeeaaDoor.P
end
