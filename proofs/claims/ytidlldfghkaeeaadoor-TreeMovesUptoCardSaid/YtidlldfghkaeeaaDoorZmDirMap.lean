/- Put together by pack.py: DirMap -/
import Derived.Test.YtidlldfghkaeeaaDoorZmEntRow
import Derived.Maps.Own
import Derived.Maps.OwnOps
import Derived.Maps.Views
import Derived.StringKeys
namespace Go.Proofs.YtidlldfghkaeeaaDoor.P
open Go.RowKit Go.Proofs.YtidlldfghkaeeaaDoorW.PrintWords Go.Proofs.YtidlldfghkaeeaaDoorW.PrintLast Go.Proofs.YtidlldfghkaeeaaDoorW.PrintMore
set_option linter.unusedVariables false
set_option linter.unusedSimpArgs false

theorem ks : Go.Maps.Keyed Tryd.prog 9 := Go.Maps.string_keyed Tryd.underlying9
/-- The block's map tells g of the texts that a map may hold. -/
def MapIs (W : World) (b n : Nat) (g : ByteArray → Bool) : Prop := ∃ D : DataW Unit, W.ownsMap Tryd.prog 9 (plainElem Tryd.prog 4) b n D ∧ ∀ s : ByteArray, D.atKey (.string s.data.toList) (.lit (.bool false)) = .lit (.bool (g s))
theorem MapIs.keep {W W' : World} {b n : Nat} {g : ByteArray → Bool} (h : MapIs W b n g) (hk : W'.heap[b]? = W.heap[b]?) : MapIs W' b n g := by
  obtain ⟨D, ⟨es, clock, hb, F, hs, hD⟩, h2⟩ := h
  exact ⟨D, ⟨es, clock, hk.trans hb, F, hs, hD⟩, h2⟩
theorem MapIs.lt {W : World} {b n : Nat} {g : ByteArray → Bool} (h : MapIs W b n g) : b < W.heap.size := by
  obtain ⟨D, h1, _⟩ := h
  exact h1.lt
theorem MapIs.below {W W' : World} {b n : Nat} {g : ByteArray → Bool} (h : MapIs W b n g) (hb : Below W.heap.size W W') : MapIs W' b n g := h.keep (hb.block b h.lt)
theorem MapIs.made (W : World) : MapIs (W.alloc (.map #[] 0)) W.heap.size 0 (fun _ => false) := ⟨_, World.ownsMap_made W _ _ _, fun s => rfl⟩
theorem MapIs.congr {W : World} {b n : Nat} {g g' : ByteArray → Bool} (h : MapIs W b n g) (hg : ∀ s, g s = g' s) : MapIs W b n g' := by
  obtain ⟨D, h1, h2⟩ := h
  exact ⟨D, h1, fun s => by rw [h2, hg]⟩
theorem MapIs.look {W : World} {b n : Nat} {g : ByteArray → Bool} (h : MapIs W b n g) {s : ByteArray} (hs : s.size ≤ maxLen) : (Instr.lookup 82 (.map (some b)) (.string s) false).run Tryd.prog W = .ok (.bool (g s)) W := by
  obtain ⟨D, h1, h2⟩ := h
  have hz : (zeroValue 4).run Tryd.prog W = .ok (.bool false) W := by
    have h4 : (Tryd.prog.info? 4).map (·.zero) = some (some (.bool false)) := by kernel_rfl
    cases hq : Tryd.prog.info? 4 with
    | none => simp [hq] at h4
    | some i =>
      have hi : i.zero = some (.bool false) := by simpa [hq] using h4
      simp [zeroValue, typeInfo, hq, hi]
  obtain ⟨v, ps, hrun, hv⟩ := h1.lookup ks Tryd.underlying82 hz (plainElem_bool Tryd.underlying4 false) (Go.WideMaps.keyOf_string_mk Tryd.underlying9 hs)
  rw [h2] at hv
  rw [hrun]
  have hu := Tryd.underlying4
  cases v <;> simp [plainElem, hu] at hv
  rw [hv.1]
theorem MapIs.update {W : World} {b n : Nat} {g : ByteArray → Bool} (h : MapIs W b n g) {s : ByteArray} (hs : s.size ≤ maxLen) (hn : n < maxLen) (x : Bool) : ∃ W', (Instr.mapUpdate 82 (.map (some b)) (.string s) (.bool x)).run Tryd.prog W = .ok () W' ∧ MapIs W' b (n + 1) (fun z => if z = s then x else g z) ∧ W.grownBy W' (some b) := by
  obtain ⟨D, h1, h2⟩ := h
  obtain ⟨W', hrun, hown, hg⟩ := h1.update ks Tryd.underlying82 hn (Go.WideMaps.keyOf_string_mk Tryd.underlying9 hs) (plainElem_bool Tryd.underlying4 x)
  refine ⟨W', hrun, ⟨_, hown, fun z => ?_⟩, hg⟩
  have hm : Go.Maps.IsMap D := by
    obtain ⟨es, clock, _, _, _, rfl⟩ := h1
    exact ⟨_, rfl⟩
  by_cases hz : z = s
  · subst hz
    show _ = DataW.lit (Lit.bool (if z = z then x else g z))
    rw [if_pos rfl]
    exact Go.Maps.atKey_put_same (k := .string z.data.toList) hm (show Go.WideAt.IsKeyLit (.string z.data.toList) from trivial) _ _
  · show _ = DataW.lit (Lit.bool (if z = s then x else g z))
    have hne : (Lit.string z.data.toList) ≠ .string s.data.toList := by
      intro e
      injection e with e
      exact hz (ByteArray.ext (Array.toList_inj.1 e))
    rw [if_neg hz, Go.Maps.atKey_put_other hne, h2]
section
variable {ops : Array Oper} {op : Oper} {rest : List Oper} {a : Act} {Q : Exit → Act → World → Prop}
theorem insert_dir {W : World} {b n : Nat} {g : ByteArray → Bool} (h : MapIs W b n g) (hgd : op.guard = none) (m x v : Operand) (hop : op.op = Op.insert 82 m x v) {s : ByteArray} {y : Bool} (hm : a.eval m = .map (some b)) (hx : a.eval x = .string s) (hv : a.eval v = .bool y) (hs : s.size ≤ maxLen) (hn : n < maxLen)
    (hK : ∀ W', MapIs W' b (n + 1) (fun z => if z = s then y else g z) → W.grownBy W' (some b) → wpList Tryd.prog ops Q rest (a.put op.dst undef) W') : wpList Tryd.prog ops Q (op :: rest) a W := by
  refine wpList_plain hgd fun K' hK' => ?_
  obtain ⟨W', hrun, r1, r2⟩ := h.update hs hn y
  unfold Oper.wp
  simp [execOp, hop, hm, hx, hv, hrun, Result.andThen]
  exact hK' _ _ (hK W' r1 r2)
theorem update_dir {W : World} {b n : Nat} {g : ByteArray → Bool} (h : MapIs W b n g) (hgd : op.guard = none) (m x v : Operand) (hop : op.op = Op.mapUpdate 82 m x v) {s : ByteArray} {y : Bool} (hm : a.eval m = .map (some b)) (hx : a.eval x = .string s) (hv : a.eval v = .bool y) (hs : s.size ≤ maxLen) (hn : n < maxLen)
    (hK : ∀ W', MapIs W' b (n + 1) (fun z => if z = s then y else g z) → W.grownBy W' (some b) → wpList Tryd.prog ops Q rest (a.put op.dst undef) W') : wpList Tryd.prog ops Q (op :: rest) a W := by
  refine wpList_plain hgd fun K' hK' => ?_
  obtain ⟨W', hrun, r1, r2⟩ := h.update hs hn y
  unfold Oper.wp
  simp [execOp, hop, hm, hx, hv, hrun, Result.andThen]
  exact hK' _ _ (hK W' r1 r2)
end
end Go.Proofs.YtidlldfghkaeeaaDoor.P
