/- Put together by pack.py: EntRow -/
import Derived.Test.YtidlldfghkaeeaaDoorZmPx0
import Derived.Lib.AppendZerosOnto
import Derived.Lib.Overlaps
import Derived.Laws.CopyRow
namespace Go.Proofs.YtidlldfghkaeeaaDoor.P
open Go.RowKit Go.Proofs.YtidlldfghkaeeaaDoorW.PrintWords Go.Proofs.YtidlldfghkaeeaaDoorW.PrintLast Go.Proofs.YtidlldfghkaeeaaDoorW.PrintMore
set_option linter.unusedVariables false
set_option linter.unusedSimpArgs false

theorem infoE : (Tryd.prog.info? 30).map (fun i => (i.zero, i.size, i.bytes)) = some (some (.agg #[.string ⟨#[]⟩, .bool false, .slice none 0 0]), 3, 48) := by kernel_rfl
theorem sizeE : (Tryd.prog.info? 30).map (·.size) = some 3 := by kernel_rfl
/-- An element's three cells. -/
def Rw (r : List Value) : Prop := r.length = 3 ∧ ∀ u ∈ r, u.oneCell' = true
theorem flat_len : ∀ {rows : List (List Value)}, (∀ r ∈ rows, r.length = 3) → rows.flatten.length = rows.length * 3
  | [], _ => rfl
  | r :: rows, h => by
    have h1 := h r List.mem_cons_self
    have h2 := flat_len (rows := rows) fun x hx => h x (List.mem_cons_of_mem _ hx)
    rw [List.flatten_cons, List.length_append, h1, h2, List.length_cons]
    omega
theorem flat_take : ∀ {rows : List (List Value)} (i : Nat), (∀ r ∈ rows, r.length = 3) → rows.flatten.take (i * 3) = (rows.take i).flatten
  | rows, 0, _ => by simp
  | [], i + 1, _ => by simp
  | r :: rows, i + 1, h => by
    have h1 := h r List.mem_cons_self
    rw [List.flatten_cons, List.take_succ_cons, List.flatten_cons, List.take_append, List.take_of_length_le (by omega), show (i + 1) * 3 - r.length = i * 3 by omega, flat_take i fun x hx => h x (List.mem_cons_of_mem _ hx)]
theorem flat_drop : ∀ {rows : List (List Value)} (i : Nat), (∀ r ∈ rows, r.length = 3) → rows.flatten.drop (i * 3) = (rows.drop i).flatten
  | rows, 0, _ => by simp
  | [], i + 1, _ => by simp
  | r :: rows, i + 1, h => by
    have h1 := h r List.mem_cons_self
    rw [List.flatten_cons, List.drop_succ_cons, List.drop_append, List.drop_eq_nil_of_le (by omega), List.nil_append, show (i + 1) * 3 - r.length = i * 3 by omega, flat_drop i fun x hx => h x (List.mem_cons_of_mem _ hx)]
theorem reps_flat : ∀ {rows : List (List Value)} {inner : List Value}, Reps (fun x cs => cs = x ∧ cs.length = 3 ∧ ∀ u ∈ cs, u.oneCell' = true) 3 rows inner → inner = rows.flatten ∧ ∀ r ∈ rows, Rw r
  | [], inner, h => by
    have := h.1
    rw [List.length_nil, Nat.zero_mul] at this
    exact ⟨List.length_eq_zero_iff.1 this, by simp⟩
  | r :: rows, inner, h => by
    have h0 := h.2 0 r rfl
    rw [Nat.zero_mul, List.drop_zero] at h0
    have h1 : Reps (fun x cs => cs = x ∧ cs.length = 3 ∧ ∀ u ∈ cs, u.oneCell' = true) 3 rows (inner.drop 3) := by
      refine ⟨by rw [List.length_drop, h.1, List.length_cons]; omega, fun j p hj => ?_⟩
      have := h.2 (j + 1) p (by simpa using hj)
      rwa [show (j + 1) * 3 = 3 + j * 3 by omega, ← List.drop_drop] at this
    obtain ⟨e, hr⟩ := reps_flat h1
    refine ⟨?_, fun x hx => ?_⟩
    · rw [List.flatten_cons, ← e, ← h0.1, List.take_append_drop]
    · rcases List.mem_cons.1 hx with rfl | hx
      · exact ⟨by rw [← h0.1]; exact h0.2.1, by rw [← h0.1]; exact h0.2.2⟩
      · exact hr x hx
theorem flat_reps {rows : List (List Value)} (h : ∀ r ∈ rows, Rw r) : Reps (fun x cs => cs = x ∧ cs.length = 3 ∧ ∀ u ∈ cs, u.oneCell' = true) 3 rows rows.flatten := by
  have h3 : ∀ r ∈ rows, r.length = 3 := fun r hr => (h r hr).1
  refine ⟨flat_len h3, fun j p hj => ?_⟩
  obtain ⟨hl, hp⟩ := List.getElem?_eq_some_iff.1 hj
  have hm : p ∈ rows := hp ▸ List.getElem_mem hl
  have hpw := h p hm
  have e : (rows.flatten.drop (j * 3)).take 3 = p := by
    rw [flat_drop j h3, List.drop_eq_getElem_cons hl, hp, List.flatten_cons, List.take_append, List.take_of_length_le (by rw [hpw.1]; exact Nat.le_refl _), hpw.1]
    simp
  rw [e]
  exact ⟨rfl, hpw⟩
/-- A row of entries, its block written out. -/
structure NB (W : World) (base : Nat) (ok : Nat → Prop) (g n cap : Nat) (rows : List (List Value)) (tail : List Value) (xs : List S30) : Prop where
  hb : W.heap[g]? = some (.cells (rows.flatten ++ tail).toArray 30 (0, 0))
  hg : base ≤ g
  hok : ok g
  hn : n = xs.length
  hc : n ≤ cap
  hm : cap ≤ maxLen
  hl : rows.length = n
  hw : ∀ r ∈ rows, Rw r
  ht : tail.length = (cap - n) * 3
  hf : ∀ (j : Nat) (x : S30) (c : List Value), xs[j]? = some x → rows[j]? = some c → Kd.FK k30 W (fun k => ok k ∧ k ≠ g) x c
theorem N_NB {W : World} {base : Nat} {ok : Nat → Prop} {g n cap : Nat} {xs : List S30} (h : Kd.N k30 30 W base ok (.slice (some ⟨g, 0, none⟩) n cap) xs) : ∃ rows tail, NB W base ok g n cap rows tail xs := by
  have hn := (Kd.N_reads' h).1
  obtain ⟨h0, rows, hl, hR, hf⟩ := h
  obtain ⟨_, inner, ⟨hil, hv⟩, hr⟩ := hR
  obtain ⟨e, hw⟩ := reps_flat hr
  rcases hv with ⟨hv, _⟩ | ⟨g', cap', cur, hv, hB, hb, h1, h2, h3, h4⟩
  · cases hv
  · injection hv with hg _ hc
    injection hg with hg
    injection hg with hg
    subst hg
    subst hc
    refine ⟨rows, cur.toList.drop (rows.length * 3), ?_, hB, h0 _ rfl, hn, by omega, h2, by omega, hw, ?_, fun j x c hx hc => Kd.FK_mono (hf j x c hx hc) fun k hk => ⟨hk.1, fun e => hk.2 (by rw [e]; rfl)⟩⟩
    · rw [← e, ← h4]
      have : cur.toList.take (rows.length * (Kd.raw k30.sz).sz) ++ cur.toList.drop (rows.length * 3) = cur.toList := List.take_append_drop _ _
      rw [this]
      exact hb
    · have : cur.size = cap * 3 := h3
      rw [List.length_drop, Array.length_toList, this]
      omega
theorem NB_N {W : World} {base : Nat} {ok : Nat → Prop} {g n cap : Nat} {rows : List (List Value)} {tail : List Value} {xs : List S30} (h : NB W base ok g n cap rows tail xs) : Kd.N k30 30 W base ok (.slice (some ⟨g, 0, none⟩) n cap) xs := by
  have h3 : ∀ r ∈ rows, r.length = 3 := fun r hr => (h.hw r hr).1
  have hfl := flat_len h3
  have hl := h.hl
  have hc := h.hc
  refine ⟨fun k hk => ?_, rows, by rw [h.hl, h.hn], ⟨fun k hk => hk.symm, rows.flatten, ⟨hfl, .inr ⟨g, cap, _, by rw [h.hl], h.hg, h.hb, by omega, h.hm, ?_, ?_⟩⟩, flat_reps h.hw⟩, fun j x c hx hc => Kd.FK_mono (h.hf j x c hx hc) fun k hk => ⟨hk.1, fun e => hk.2 ?_⟩⟩
  · have : k = g := by simpa [Value.ownBlock] using hk.symm
    rw [this]
    exact h.hok
  · rw [List.size_toArray, List.length_append, hfl, h.ht, hl]
    show n * 3 + (cap - n) * 3 = cap * 3
    omega
  · show (rows.flatten ++ tail).take (rows.length * 3) = rows.flatten
    rw [← hfl]
    exact List.take_left
  · have : g = k := by simpa [Value.ownBlock] using e.symm
    exact this.symm
/-- Go's copy, at elements of three cells, into a block of one's own. -/
theorem run_copy3 (w : World) (ty : TypeId) (g o dLen dCap : Nat) (a : Addr) (sLen sCap : Nat) (cur : Array Value) (cs : List Value)
    (hg : w.heap[g]? = some (.cells cur 30 (0, 0))) (hn : cs.length = Nat.min sLen dLen * 3)
    (hsrc : ∀ j v, cs[j]? = some v → w.cell? (a.add j) = some v) (hfit : o + cs.length ≤ cur.size) (h1 : ∀ v ∈ cs, v.oneCell' = true) :
    (Builtin.copy_ #[22, 22] ty #[.slice (some ⟨g, o, none⟩) dLen dCap, .slice (some a) sLen sCap]).run Tryd.prog w =
      .ok (goInt (Nat.min sLen dLen)) (w.setRow g (cur.toList.take o ++ cs ++ cur.toList.drop (o + cs.length)).toArray) := by
  have hl := run_loadCells_list (P := Tryd.prog) w a cs hsrc
  have hst := run_storeCells_at Tryd.prog g o 30 cs 0 cur w hg (by simpa using hfit) h1
  have hs := sizeE
  cases hq : Tryd.prog.info? 30 with
  | none => simp [hq] at hs
  | some i =>
    have hi : i.size = 3 := by simpa [hq] using hs
    simp [Builtin.copy_, run_underlying Tryd.underlying22, Builtin.lenOf, Builtin.firstCells, sizeOf, typeInfo, hq, hi, ← hn, hl, hst]
/-- Slices of a row of entries. -/
theorem run_low (W : World) (g n c m : Nat) (hm : m < c) (hn : m ≤ n) : (Instr.slice 22 (.slice (some ⟨g, 0, none⟩) n c) (some (.int .i64 (m : Int))) none none).run Tryd.prog W = .ok (.slice (some ⟨g, m * 3, none⟩) (n - m) (c - m)) W := by
  have hs := sizeE
  cases hq : Tryd.prog.info? 30 with
  | none => simp [hq] at hs
  | some i =>
    have hi : i.size = 3 := by simpa [hq] using hs
    have hel : Tryd.prog.elem 22 = 30 := by simp [Program.elem, Tryd.underlying22]
    have hu : Tryd.prog.underlying 22 = some (.slice (Tryd.prog.elem 22)) := by rw [hel]; exact Tryd.underlying22
    rw [run_slice_l W 22 _ n c hu .i64 (m : Int) (Int.natCast_nonneg _) (by omega), hel]
    simp [sizeOf, typeInfo, hq, hi, sliced, Result.andThen, show ¬ c = m by omega, add_at]
theorem run_high (W : World) (A : Option Addr) (n c m : Nat) (hm : m ≤ c) : (Instr.slice 22 (.slice A n c) none (some (.int .i64 (m : Int))) none).run Tryd.prog W = .ok (.slice A m c) W := by
  have hs := sizeE
  cases hq : Tryd.prog.info? 30 with
  | none => simp [hq] at hs
  | some i =>
    have hi : i.size = 3 := by simpa [hq] using hs
    have hel : Tryd.prog.elem 22 = 30 := by simp [Program.elem, Tryd.underlying22]
    have hu : Tryd.prog.underlying 22 = some (.slice (Tryd.prog.elem 22)) := by rw [hel]; exact Tryd.underlying22
    rw [run_slice_h W 22 A n c hu .i64 (m : Int) (by omega) (by omega), hel]
    have h0 : (fun x : Addr => x.add 0) = id := funext fun x => by simp [Addr.add]
    simp [sizeOf, typeInfo, hq, hi, sliced, Result.andThen, h0]
end Go.Proofs.YtidlldfghkaeeaaDoor.P
