/- LinkOrder: its row: true whatever the input, without a condition. -/
import Derived.Test.YtlaojndlelcdaaaRows
import Derived.Test.YtlaojndlelcdaaaLinkK
import Derived.Test.YtlaojndlelcdaaaOpens
import Derived.WalkKit
import Derived.ProofKit
import Derived.OpenShut
import Derived.ShutString
import Derived.ChangeOld
import Derived.Below
import Derived.SizedLaws
import Derived.Lib.SmallJoins
namespace Go.Proofs.Ytlaojndlelcdaaa.linkOrder
open Go.ChangeShapes Go.WideShapes Go.ChangeAt Go.RowKit Go.Proofs.YtlaojndlelcdaaaW.PrintWords
open Go.ChangeMaps (open_string shut_string)
set_option linter.unusedVariables false
set_option linter.unusedSimpArgs false
theorem own : ownKnob Try.prog.godebug = none := by kernel_rfl
theorem laidOut : laidOutB Try.prog = true := by kernel_rfl
theorem opn3 : Opn Try.prog 3 (Kd.int .i64) (fun x => (Lit.int .i64 x).wf = true) := Opn.int Try.underlying3 (by kernel_rfl)
theorem opn88 : Opn Try.prog 88 Links.k88 (fun _ => True) := by
  refine ⟨by kernel_rfl, fun {H enc W base spare held fuel cs x} hf => ?_⟩
  obtain ⟨xs, n, _, _, hl, hn, hx⟩ := DataW.trod_struct Try.underlying88 hf
  have hl' : cs.length = 2 := hl.trans (by kernel_rfl)
  have g0 : DataW.trod enc Try.prog W base spare held n 3 ((cs.drop 0).take (Try.prog.cellsOf 3)) = xs[0]? := hx 0 _ rfl
  rw [show Try.prog.cellsOf 3 = 1 from by kernel_rfl, List.getElem?_eq_getElem (show 0 < xs.length by rw [hn]; decide)] at g0
  obtain ⟨y0, q0, r0⟩ := opn3.opens g0
  have g1 : DataW.trod enc Try.prog W base spare held n 3 ((cs.drop 1).take (Try.prog.cellsOf 3)) = xs[1]? := hx 1 _ rfl
  rw [show Try.prog.cellsOf 3 = 1 from by kernel_rfl, List.getElem?_eq_getElem (show 1 < xs.length by rw [hn]; decide)] at g1
  obtain ⟨y1, q1, r1⟩ := opn3.opens g1
  exact ⟨⟨y0, y1⟩, (show (Links.k88).K W ⟨y0, y1⟩ (cs.drop 0) from (pairK (o := 0) (s := 1) rfl q0 (lastK (o := 1) (s := 1) q1 hl'))), trivial⟩
theorem opn84 : Opn Try.prog 84 (Kd.slice 88 Links.k88) (fun x => (x.length ≤ maxLen ∧ ∀ x1_ ∈ x, True)) := Opn.slice Try.underlying84 (by kernel_rfl) opn88
set_option maxRecDepth 100000 in
theorem lifted (os : Os) (started : os.Started) (H : Type) (enc : TypeId × Value → H) :
    ReturnsInHanded {} Try.checked os 17 .any (Rows.linkOrderSpec.pre6 enc Try.prog Try.f17 Rows.linkOrderRow.domain false) (Rows.linkOrderSpec.post enc Try.prog Try.f17 false true false false) := by
  refine returnsInHanded_of_change_sized (C := Try.checked) own started (by kernel_rfl) Try.func17
    (ChangeSpec.witness6 (enc := enc) (C := Try.checked) false ⟨#[], #[.slice none 0 0], []⟩ 8 (by kernel_rfl) (by kernel_rfl) (by kernel_rfl) (by kernel_rfl)) ?_
  intro W base args ds gs before hval0 hW hcnd hsz0 _
  have hval : ∀ (j : Nat) t v, Try.f17.params[j]? = some t → args[j]? = some v → Value.okWide Try.prog W .any base t v := hval0
  have hW' := hW
  obtain ⟨p, q, hA0, hV, rfl, hfz, hnd⟩ := hW
  have hA : DataW.TrodAll enc Try.prog W 0 (fun _ => true) true Try.f17.params.toList args.toList ds p := hA0
  rw [Try.params17] at hA hval
  obtain ⟨v0, vs0, d0, ds0, p0, q0, hargs, rfl, rfl, h0, r0⟩ := trodAll_cons hA
  obtain ⟨rfl, rfl, rfl⟩ := trodAll_nil r0
  obtain rfl : args = #[v0] := by cases args; simp_all
  obtain ⟨rfl, rfl⟩ := trodVars_none hV
  have k0 := h0
  have lt0 : ∀ x ∈ p0, x.block < W.heap.size := by obtain ⟨m, hm⟩ := k0; exact DataW.trod_lt m _ _ _ hm
  obtain ⟨A0, len0, c0, rfl⟩ := okWide_slice Try.underlying84 (hval 0 84 v0 rfl rfl)
  obtain ⟨l0, hC0, hl0, ok0⟩ : ∃ l : List Links.S88, Kd.C Links.k88 W A0 len0 l ∧ l.length ≤ c0 ∧ (len0 = l.length ∧ (l.length ≤ maxLen ∧ ∀ x1_ ∈ l, True)) := by
    obtain ⟨fuel, hf⟩ := h0
    obtain ⟨l, ⟨A', c', hcs, hl, hC⟩, hok⟩ := opn84.opens hf
    simp [Value.cells] at hcs
    obtain ⟨rfl, rfl, rfl⟩ := hcs
    exact ⟨l, hC, hl, rfl, hok⟩
  obtain ⟨rfl, ok0⟩ := ok0
  clear hA0 hval0 hsz0
  refine (Links.LinkOrder_calls A0 c0 l0 W hC0 hl0).mono fun e W' ⟨he, bel⟩ => ?_
  subst he
  exact ⟨_, rfl, _, _, _, [], _, [], hW', trodAll_mk1 (shut_bool Try.underlying4 _), (trodAll_cons_mk (Below.trod laidOut (by kernel_rfl) (of_decide_eq_true (by kernel_rfl)) k0 bel lt0) trodAll_mk0), rfl, bel.frame _, fun h => by cases h⟩
theorem over : Rows.linkOrderRow.holds Try.pinned (OpenSpec.ofChange Rows.linkOrderSpec) :=
  OpenClaim.holds_of_wide 17 Try.f17 rfl rfl rfl rfl rfl rfl rfl ⟨rfl, rfl, rfl, rfl, rfl⟩ rfl rfl rfl rfl rfl (by kernel_rfl) Try.func17 (by kernel_rfl)
    (of_decide_eq_true (by kernel_rfl)) (by unfold Func.isWrapper; first | (rw [if_pos (by decide +kernel)]; kernel_rfl) | (rw [if_neg (by decide +kernel)]; exact ⟨rfl, rfl⟩))
    (fun os started H enc _ => lifted os started H enc)
theorem proved : Rows.LinkOrderSaid := over
#print axioms proved
end Go.Proofs.Ytlaojndlelcdaaa.linkOrder
namespace Go.Proofs.Ytlaojndlelcdaaa
/-- The row, under a short name, for the claim. -/
theorem linkOrder_holds : Rows.LinkOrderSaid := linkOrder.proved
end Go.Proofs.Ytlaojndlelcdaaa
