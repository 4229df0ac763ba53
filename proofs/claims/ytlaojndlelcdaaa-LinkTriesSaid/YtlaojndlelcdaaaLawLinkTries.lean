/- LinkTries: its row: true whatever the input, without a condition. -/
import Derived.Test.YtlaojndlelcdaaaRows
import Derived.Test.YtlaojndlelcdaaaLinkE
import Derived.Test.YtlaojndlelcdaaaOpens
import Derived.WalkKit
import Derived.ProofKit
import Derived.OpenShut
import Derived.ShutString
import Derived.ChangeOld
import Derived.Below
import Derived.SizedLaws
import Derived.Lib.SmallJoins
namespace Go.Proofs.Ytlaojndlelcdaaa.linkTries
open Go.ChangeShapes Go.WideShapes Go.ChangeAt Go.RowKit Go.Proofs.YtlaojndlelcdaaaW.PrintWords
open Go.ChangeMaps (open_string shut_string)
set_option linter.unusedVariables false
set_option linter.unusedSimpArgs false
theorem own : ownKnob Try.prog.godebug = none := by kernel_rfl
theorem laidOut : laidOutB Try.prog = true := by kernel_rfl
theorem opn5 : Opn Try.prog 5 (Kd.int .u8) (fun x => (Lit.int .u8 x).wf = true) := Opn.int Try.underlying5 (by kernel_rfl)
theorem opn24 : Opn Try.prog 24 (Kd.slice 5 (Kd.int .u8)) (fun x => (x.length ≤ maxLen ∧ ∀ x0_ ∈ x, (Lit.int .u8 x0_).wf = true)) := Opn.slice Try.underlying24 (by kernel_rfl) opn5
set_option maxRecDepth 100000 in
theorem lifted (os : Os) (started : os.Started) (H : Type) (enc : TypeId × Value → H) :
    ReturnsInHanded {} Try.checked os 20 .any (Rows.linkTriesSpec.pre6 enc Try.prog Try.f20 Rows.linkTriesRow.domain false) (Rows.linkTriesSpec.post enc Try.prog Try.f20 false true false false) := by
  refine returnsInHanded_of_change_sized (C := Try.checked) own started (by kernel_rfl) Try.func20
    (ChangeSpec.witness6 (enc := enc) (C := Try.checked) false ⟨#[], #[.slice none 0 0, .int .i64 0], []⟩ 8 (by kernel_rfl) (by kernel_rfl) (by kernel_rfl) (by kernel_rfl)) ?_
  intro W base args ds gs before hval0 hW hcnd hsz0 _
  have hval : ∀ (j : Nat) t v, Try.f20.params[j]? = some t → args[j]? = some v → Value.okWide Try.prog W .any base t v := hval0
  have hW' := hW
  obtain ⟨p, q, hA0, hV, rfl, hfz, hnd⟩ := hW
  have hA : DataW.TrodAll enc Try.prog W 0 (fun _ => true) true Try.f20.params.toList args.toList ds p := hA0
  rw [Try.params20] at hA hval
  obtain ⟨v0, vs0, d0, ds0, p0, q0, hargs, rfl, rfl, h0, r0⟩ := trodAll_cons hA
  obtain ⟨v1, vs1, d1, ds1, p1, q1, rfl, rfl, rfl, h1, r1⟩ := trodAll_cons r0
  obtain ⟨rfl, rfl, rfl⟩ := trodAll_nil r1
  obtain rfl : args = #[v0, v1] := by cases args; simp_all
  obtain ⟨rfl, rfl⟩ := trodVars_none hV
  have k0 := h0
  have lt0 : ∀ x ∈ p0, x.block < W.heap.size := by obtain ⟨m, hm⟩ := k0; exact DataW.trod_lt m _ _ _ hm
  obtain ⟨A0, len0, c0, rfl⟩ := okWide_slice Try.underlying24 (hval 0 24 v0 rfl rfl)
  obtain ⟨l0, hC0, hl0, ok0⟩ : ∃ l : List Int, Kd.C (Kd.int .u8) W A0 len0 l ∧ l.length ≤ c0 ∧ (len0 = l.length ∧ (l.length ≤ maxLen ∧ ∀ x0_ ∈ l, (Lit.int .u8 x0_).wf = true)) := by
    obtain ⟨fuel, hf⟩ := h0
    obtain ⟨l, ⟨A', c', hcs, hl, hC⟩, hok⟩ := opn24.opens hf
    simp [Value.cells] at hcs
    obtain ⟨rfl, rfl, rfl⟩ := hcs
    exact ⟨l, hC, hl, rfl, hok⟩
  obtain ⟨rfl, ok0⟩ := ok0
  obtain ⟨a1, rfl, rfl, rfl, ok1⟩ := open_int Try.underlying3 (hval 1 3 v1 rfl rfl) h1
  clear hA0 hval0 hsz0
  refine (Links.LinkTries_calls A0 c0 l0 a1 W hC0 hl0).mono fun e W' ⟨he, bel⟩ => ?_
  subst he
  exact ⟨_, rfl, _, _, _, [], _, [], hW', trodAll_mk1 (shut_bool Try.underlying4 _), (trodAll_cons_mk (Below.trod laidOut (by kernel_rfl) (of_decide_eq_true (by kernel_rfl)) k0 bel lt0) (trodAll_cons_mk (shut_int Try.underlying3 ok1) trodAll_mk0)), rfl, bel.frame _, fun h => by cases h⟩
theorem over : Rows.linkTriesRow.holds Try.pinned (OpenSpec.ofChange Rows.linkTriesSpec) :=
  OpenClaim.holds_of_wide 20 Try.f20 rfl rfl rfl rfl rfl rfl rfl ⟨rfl, rfl, rfl, rfl, rfl⟩ rfl rfl rfl rfl rfl (by kernel_rfl) Try.func20 (by kernel_rfl)
    (of_decide_eq_true (by kernel_rfl)) (by unfold Func.isWrapper; first | (rw [if_pos (by decide +kernel)]; kernel_rfl) | (rw [if_neg (by decide +kernel)]; exact ⟨rfl, rfl⟩))
    (fun os started H enc _ => lifted os started H enc)
theorem proved : Rows.LinkTriesSaid := over
#print axioms proved
end Go.Proofs.Ytlaojndlelcdaaa.linkTries
namespace Go.Proofs.Ytlaojndlelcdaaa
/-- The row, under a short name, for the claim. -/
theorem linkTries_holds : Rows.LinkTriesSaid := linkTries.proved
end Go.Proofs.Ytlaojndlelcdaaa
