/- Written by pp.py, a program of this session over the printer of the kit: what the functions of the program compute, and that they do so; of a law: its row, without a condition. -/
import Derived.Test.YtoedkhoddiefoaaDoorRows
import Derived.Test.YtoedkhoddiefoaaDoorLaidK
import Derived.SevenTiedAt
import Derived.Test.YtoedkhoddiefoaaDoorPx3
import Derived.Test.YtoedkhoddiefoaaDoorPurePathSorts
import Derived.Test.YtoedkhoddiefoaaDoorOpens
import Derived.WalkKit
import Derived.ProofKit
import Derived.OpenShut
import Derived.ShutString
import Derived.ChangeOld
import Derived.Below
import Derived.SizedLaws
import Derived.Lib.SmallJoins
namespace Go.Proofs.YtoedkhoddiefoaaDoor.pathSorts
open Go.ChangeShapes Go.WideShapes Go.ChangeAt Go.RowKit Go.Proofs.YtoedkhoddiefoaaDoorW.PrintWords Go.Proofs.YtoedkhoddiefoaaDoor.P
open Go.ChangeMaps (open_string shut_string)
set_option linter.unusedVariables false
set_option linter.unusedSimpArgs false
theorem own : ownKnob Tryd.prog.godebug = none := by kernel_rfl
theorem laidOut : laidOutB Tryd.prog = true := by kernel_rfl
theorem opn9 : Opn Tryd.prog 9 Kd.string (fun x => x.size ≤ maxLen) := Opn.string Tryd.underlying9 (by kernel_rfl)
theorem opn22 : Opn Tryd.prog 22 (Kd.slice 9 Kd.string) (fun x => (x.length ≤ maxLen ∧ ∀ x0_ ∈ x, x0_.size ≤ maxLen)) := Opn.slice Tryd.underlying22 (by kernel_rfl) opn9
theorem reads (os : Os) {H : Type} (enc : TypeId × Value → H) : ∃ places, DataW.whole enc Tryd.prog ((LaidK.laidWorld os).forCall (fun _ _ => 0) ⟨#[], #[.slice none 0 0], []⟩).memory Tryd.f11.params.toList Rows.pathSortsSpec.vars false (#[.slice none 0 0] : Array Value).toList 8 = some ([.nil], [], places) :=
  ⟨[], by kernel_rfl⟩
set_option maxRecDepth 100000 in
theorem lifted (os : Os) (started : os.Started) (H : Type) (enc : TypeId × Value → H) (F : Stop.Interp) :
    ReturnsInHanded {} Tryd.checked os 11 .any ((OpenSpec.ofChange Rows.pathSortsSpec).preRow enc Tryd.prog Tryd.f11 Rows.pathSortsRow.domain false Rows.pathSortsRow.laid) (((OpenSpec.ofChange Rows.pathSortsSpec).at F).post enc Tryd.prog Tryd.f11 false true false false) := by
  obtain ⟨places, hx⟩ := reads os enc
  refine returnsInHanded_of_row (C := Tryd.checked) (s := (OpenSpec.ofChange Rows.pathSortsSpec)) own started (by kernel_rfl) Tryd.func11
    (witness_row_at (enc := enc) (C := Tryd.checked) false (LaidK.laidWorld os) #[.slice none 0 0] rfl (by kernel_rfl) (by kernel_rfl) (by kernel_rfl)
      (OpenSpec.preRow_of_cond 8 hx (by kernel_rfl) (fun k hk => by cases hk) (by kernel_rfl) (LaidK.laid_met os _))) ?_
  intro W base args ds gs before hval0 hW _ hcond hsz0 hL _ _
  have hval : ∀ (j : Nat) t v, Tryd.f11.params[j]? = some t → args[j]? = some v → Value.okWide Tryd.prog W .any base t v := hval0
  have hW' := hW
  obtain ⟨p, q, hA0, hV, rfl, hfz, hnd⟩ := hW
  have hA : DataW.TrodAll enc Tryd.prog W 0 (fun _ => true) true Tryd.f11.params.toList args.toList ds p := hA0
  rw [Tryd.params11] at hA hval
  obtain ⟨v0, vs0, d0, ds0, p0, q0, hargs, rfl, rfl, h0, r0⟩ := trodAll_cons hA
  obtain ⟨rfl, rfl, rfl⟩ := trodAll_nil r0
  obtain rfl : args = #[v0] := by cases args; simp_all
  obtain ⟨rfl, rfl⟩ := trodVars_none hV
  have k0 := h0
  have lt0 : ∀ x ∈ p0, x.block < W.heap.size := by obtain ⟨m, hm⟩ := k0; exact DataW.trod_lt m _ _ _ hm
  obtain ⟨A0, len0, c0, rfl⟩ := okWide_slice Tryd.underlying22 (hval 0 22 v0 rfl rfl)
  obtain ⟨l0, hC0, hl0, ok0⟩ : ∃ l : List ByteArray, Kd.C Kd.string W A0 len0 l ∧ l.length ≤ c0 ∧ (len0 = l.length ∧ (l.length ≤ maxLen ∧ ∀ x0_ ∈ l, x0_.size ≤ maxLen)) := by
    obtain ⟨fuel, hf⟩ := h0
    obtain ⟨l, ⟨A', c', hcs, hl, hC⟩, hok⟩ := opn22.opens hf
    simp [Value.cells] at hcs
    obtain ⟨rfl, rfl, rfl⟩ := hcs
    exact ⟨l, hC, hl, rfl, hok⟩
  obtain ⟨rfl, ok0⟩ := ok0
  clear hA0 hval0 hsz0
  obtain ⟨k, hP⟩ := Pure.PathSorts l0 ok0
  refine (tallymanlaw7_PathSorts.calls k _ _ l0 true W hC0 hl0 hP rfl).mono fun e W' ⟨he, bel0⟩ => ?_
  have bel : Below W.heap.size W W' := bel0
  subst he
  exact ⟨_, rfl, _, _, _, [], _, [], hW', trodAll_mk1 (shut_bool Tryd.underlying4 _), (trodAll_cons_mk (Below.trod laidOut (by kernel_rfl) (of_decide_eq_true (by kernel_rfl)) k0 bel lt0) trodAll_mk0), rfl, bel.frame _, fun h => by cases h⟩
theorem over : Rows.pathSortsRow.holds Tryd.pinned (OpenSpec.ofChange Rows.pathSortsSpec) :=
  OpenClaim.holds_of_cond 11 Tryd.f11 rfl rfl rfl rfl rfl rfl rfl ⟨rfl, rfl, rfl, rfl, rfl⟩ rfl rfl rfl rfl rfl (by kernel_rfl) Tryd.func11 (by kernel_rfl)
    (of_decide_eq_true (by kernel_rfl)) (by unfold Func.isWrapper; first | (rw [if_pos (by decide +kernel)]; kernel_rfl) | (rw [if_neg (by decide +kernel)]; exact ⟨rfl, rfl⟩))
    (fun os started H enc _ F => by rw [OpenClaim.pre_eq_preRow]; exact lifted os started H enc F)
theorem plain (f : FuncId) (fn : Func) (hf : Tryd.pinned.checked.prog.funcNamed Rows.pathSortsRow.func = some f) (hfn : Tryd.pinned.checked.prog.funcs[f]? = some fn) :
    false = Tryd.pinned.checked.prog.looks [] ∧ ∀ (j : Nat) t, fn.params[j]? = some t → Tryd.pinned.checked.prog.wantsStandIn t = false := by
  obtain rfl : f = 11 := Option.some.inj ((show Tryd.prog.funcNamed Rows.pathSortsRow.func = some 11 by kernel_rfl).symm.trans hf) |>.symm
  obtain rfl : fn = Tryd.f11 := (Option.some.inj (Tryd.func11.symm.trans hfn)).symm
  refine ⟨by kernel_rfl, fun j t ht => ?_⟩
  rw [Tryd.params11] at ht
  have hm := Array.mem_of_getElem? ht
  have hm2 : t = 22 := by simpa using hm
  rcases hm2 with rfl
  · exact (show Tryd.prog.wantsStandIn 22 = false by kernel_rfl)
theorem card : Rows.PathSortsCardSaid :=
  Claim7.holds_tied_plain_at .later [] _ _ _ _ over (fun _ h => by cases h) (by kernel_rfl) (fun _ h => by cases h) pathSorts_row_tie rfl ⟨rfl, rfl⟩ (by kernel_rfl) rfl plain (by kernel_rfl)
#print axioms card
end Go.Proofs.YtoedkhoddiefoaaDoor.pathSorts
namespace Go.Proofs.YtoedkhoddiefoaaDoor
/-- The card, under a short name, for the claim. -/
theorem pathSorts_holds : Rows.PathSortsCardSaid := pathSorts.card
end Go.Proofs.YtoedkhoddiefoaaDoor
