/- Written by pp.py, a program of this session over the printer of the kit: what the functions of the program compute, and that they do so; of a law: its row, without a condition. -/
import Derived.Test.YtidlldfghkaeeaaDoorRows
import Derived.Test.YtidlldfghkaeeaaDoorLaidK
import Derived.SevenTiedAt
import Derived.Test.YtidlldfghkaeeaaDoorPx4
import Derived.Test.YtidlldfghkaeeaaDoorPurePathSays
import Derived.Test.YtidlldfghkaeeaaDoorOpenU
import Derived.WalkKit
import Derived.ProofKit
import Derived.OpenShut
import Derived.ShutString
import Derived.ChangeOld
import Derived.Below
import Derived.SizedLaws
import Derived.Lib.SmallJoins
namespace Go.Proofs.YtidlldfghkaeeaaDoor.pathSays
open Go.ChangeShapes Go.WideShapes Go.ChangeAt Go.RowKit Go.Proofs.YtidlldfghkaeeaaDoorW.PrintWords Go.Proofs.YtidlldfghkaeeaaDoor.P
open Go.ChangeMaps (open_string shut_string)
set_option linter.unusedVariables false
set_option linter.unusedSimpArgs false
theorem own : ownKnob Tryd.prog.godebug = none := by kernel_rfl
theorem laidOut : laidOutB Tryd.prog = true := by kernel_rfl
theorem opn9 : OpnU Tryd.prog 9 Kd.string (fun x => x.size ≤ 1048576) := OpnU.string Tryd.underlying9 (by kernel_rfl)
theorem opn52 : OpnU Tryd.prog 52 (Kd.slice 9 Kd.string) (fun x => (x.length ≤ 1048576 ∧ ∀ x0_ ∈ x, x0_.size ≤ 1048576)) := OpnU.slice Tryd.underlying52 (by kernel_rfl) opn9
theorem reads (os : Os) {H : Type} (enc : TypeId × Value → H) : ∃ places, DataW.whole enc Tryd.prog ((LaidK.laidWorld os).forCall (fun _ _ => 0) ⟨#[], #[.string ByteArray.empty, .string ByteArray.empty, .slice none 0 0], []⟩).memory Tryd.f9.params.toList Rows.pathSaysSpec.vars false (#[.string ByteArray.empty, .string ByteArray.empty, .slice none 0 0] : Array Value).toList 8 = some ([.lit (.string []), .lit (.string []), .nil], [], places) :=
  ⟨[], by kernel_rfl⟩
set_option maxRecDepth 100000 in
theorem lifted (os : Os) (started : os.Started) (H : Type) (enc : TypeId × Value → H) (F : Stop.Interp) :
    ReturnsInHanded {} Tryd.checked os 9 .any ((Rows.OpenSpec.upto Rows.pathSaysSpec).preRow enc Tryd.prog Tryd.f9 Rows.pathSaysUptoRow.domain false Rows.pathSaysUptoRow.laid) (((Rows.OpenSpec.upto Rows.pathSaysSpec).at F).post enc Tryd.prog Tryd.f9 false true false false) := by
  obtain ⟨places, hx⟩ := reads os enc
  refine returnsInHanded_of_row (C := Tryd.checked) (s := (Rows.OpenSpec.upto Rows.pathSaysSpec)) own started (by kernel_rfl) Tryd.func9
    (witness_row_at (enc := enc) (C := Tryd.checked) false (LaidK.laidWorld os) #[.string ByteArray.empty, .string ByteArray.empty, .slice none 0 0] rfl (by kernel_rfl) (by kernel_rfl) (by kernel_rfl)
      (OpenSpec.preRow_of_cond 8 hx (by kernel_rfl) (fun k hk => by cases hk; kernel_rfl) (by kernel_rfl) (LaidK.laid_met os _))) ?_
  intro W base args ds gs before hval0 hW _ hcond hsz0 hL _ _
  have hval : ∀ (j : Nat) t v, Tryd.f9.params[j]? = some t → args[j]? = some v → Value.okWide Tryd.prog W .any base t v := hval0
  have hW' := hW
  obtain ⟨p, q, hA0, hV, rfl, hfz, hnd⟩ := hW
  have hA : DataW.TrodAll enc Tryd.prog W 0 (fun _ => true) true Tryd.f9.params.toList args.toList ds p := hA0
  rw [Tryd.params9] at hA hval
  obtain ⟨v0, vs0, d0, ds0, p0, q0, hargs, rfl, rfl, h0, r0⟩ := trodAll_cons hA
  obtain ⟨v1, vs1, d1, ds1, p1, q1, rfl, rfl, rfl, h1, r1⟩ := trodAll_cons r0
  obtain ⟨v2, vs2, d2, ds2, p2, q2, rfl, rfl, rfl, h2, r2⟩ := trodAll_cons r1
  obtain ⟨rfl, rfl, rfl⟩ := trodAll_nil r2
  obtain rfl : args = #[v0, v1, v2] := by cases args; simp_all
  obtain ⟨rfl, rfl⟩ := trodVars_none hV
  have hb0 : Rows.uptoBulk d0 ≤ 1048576 := by
    have hk := of_decide_eq_true (hcond _ rfl)
    simp only [List.cons_append, List.nil_append, Rows.uptoBulkAll] at hk
    omega
  have hb1 : Rows.uptoBulk d1 ≤ 1048576 := by
    have hk := of_decide_eq_true (hcond _ rfl)
    simp only [List.cons_append, List.nil_append, Rows.uptoBulkAll] at hk
    omega
  have hb2 : Rows.uptoBulk d2 ≤ 1048576 := by
    have hk := of_decide_eq_true (hcond _ rfl)
    simp only [List.cons_append, List.nil_append, Rows.uptoBulkAll] at hk
    omega
  have k0 := h0
  have lt0 : ∀ x ∈ p0, x.block < W.heap.size := by obtain ⟨m, hm⟩ := k0; exact DataW.trod_lt m _ _ _ hm
  obtain ⟨a0, rfl, rfl, rfl, ok0⟩ := open_string Tryd.underlying9 (hval 0 9 v0 rfl rfl) h0
  have ob0 : a0.size ≤ 1048576 := by
    simp only [Rows.uptoBulk] at hb0
    have e : a0.data.toList.length = a0.size := by rw [Array.length_toList]; rfl
    omega
  have k1 := h1
  have lt1 : ∀ x ∈ p1, x.block < W.heap.size := by obtain ⟨m, hm⟩ := k1; exact DataW.trod_lt m _ _ _ hm
  obtain ⟨a1, rfl, rfl, rfl, ok1⟩ := open_string Tryd.underlying9 (hval 1 9 v1 rfl rfl) h1
  have ob1 : a1.size ≤ 1048576 := by
    simp only [Rows.uptoBulk] at hb1
    have e : a1.data.toList.length = a1.size := by rw [Array.length_toList]; rfl
    omega
  have k2 := h2
  have lt2 : ∀ x ∈ p2, x.block < W.heap.size := by obtain ⟨m, hm⟩ := k2; exact DataW.trod_lt m _ _ _ hm
  obtain ⟨A2, len2, c2, rfl⟩ := okWide_slice Tryd.underlying52 (hval 2 52 v2 rfl rfl)
  obtain ⟨l2, hC2, hl2, ok2⟩ : ∃ l : List ByteArray, Kd.C Kd.string W A2 len2 l ∧ l.length ≤ c2 ∧ (len2 = l.length ∧ (l.length ≤ 1048576 ∧ ∀ x0_ ∈ l, x0_.size ≤ 1048576)) := by
    obtain ⟨fuel, hf⟩ := h2
    obtain ⟨l, ⟨A', c', hcs, hl, hC⟩, hok⟩ := opn52.opens hf hb2
    simp [Value.cells] at hcs
    obtain ⟨rfl, rfl, rfl⟩ := hcs
    exact ⟨l, hC, hl, rfl, hok⟩
  obtain ⟨rfl, ok2⟩ := ok2
  clear hA0 hval0 hsz0
  obtain ⟨k, hP⟩ := Pure.PathSays a0 a1 l2 (fun x hx => by have := ok2.2 x hx; omega)
  refine (tallymanlaw7_PathSays.calls k a0 a1 _ _ l2 true W hC2 hl2 hP rfl).mono fun e W' ⟨he, bel0⟩ => ?_
  have bel : Below W.heap.size W W' := bel0
  subst he
  exact ⟨_, rfl, _, _, _, [], _, [], hW', trodAll_mk1 (shut_bool Tryd.underlying4 _), (trodAll_cons_mk (Below.trod laidOut (by kernel_rfl) (of_decide_eq_true (by kernel_rfl)) k0 bel lt0) (trodAll_cons_mk (Below.trod laidOut (by kernel_rfl) (of_decide_eq_true (by kernel_rfl)) k1 bel lt1) (trodAll_cons_mk (Below.trod laidOut (by kernel_rfl) (of_decide_eq_true (by kernel_rfl)) k2 bel lt2) trodAll_mk0))), rfl, bel.frame _, fun h => by cases h⟩
theorem over : Rows.pathSaysUptoRow.holds Tryd.pinned (Rows.OpenSpec.upto Rows.pathSaysSpec) :=
  OpenClaim.holds_of_cond 9 Tryd.f9 rfl rfl rfl rfl rfl rfl rfl ⟨rfl, rfl, rfl, rfl, rfl⟩ rfl rfl rfl rfl rfl (by kernel_rfl) Tryd.func9 (by kernel_rfl)
    (of_decide_eq_true (by kernel_rfl)) (by unfold Func.isWrapper; first | (rw [if_pos (by decide +kernel)]; kernel_rfl) | (rw [if_neg (by decide +kernel)]; exact ⟨rfl, rfl⟩))
    (fun os started H enc _ F => by rw [OpenClaim.pre_eq_preRow]; exact lifted os started H enc F)
theorem plain (f : FuncId) (fn : Func) (hf : Tryd.pinned.checked.prog.funcNamed Rows.pathSaysUptoRow.func = some f) (hfn : Tryd.pinned.checked.prog.funcs[f]? = some fn) :
    false = Tryd.pinned.checked.prog.looks [] ∧ ∀ (j : Nat) t, fn.params[j]? = some t → Tryd.pinned.checked.prog.wantsStandIn t = false := by
  obtain rfl : f = 9 := Option.some.inj ((show Tryd.prog.funcNamed Rows.pathSaysUptoRow.func = some 9 by kernel_rfl).symm.trans hf) |>.symm
  obtain rfl : fn = Tryd.f9 := (Option.some.inj (Tryd.func9.symm.trans hfn)).symm
  refine ⟨by kernel_rfl, fun j t ht => ?_⟩
  rw [Tryd.params9] at ht
  have hm := Array.mem_of_getElem? ht
  have hm2 : t = 9 ∨ t = 52 := by simpa using hm
  rcases hm2 with rfl | rfl
  · exact (show Tryd.prog.wantsStandIn 9 = false by kernel_rfl)
  · exact (show Tryd.prog.wantsStandIn 52 = false by kernel_rfl)
theorem card : Rows.PathSaysUptoCardSaid :=
  Claim7.holds_tied_plain_at .later [] _ _ _ _ over (fun _ h => by cases h) (by kernel_rfl) (fun _ h => by cases h) pathSaysUpto_row_tie rfl ⟨rfl, rfl⟩ (by kernel_rfl) rfl plain (by kernel_rfl)
#print axioms card
end Go.Proofs.YtidlldfghkaeeaaDoor.pathSays
namespace Go.Proofs.YtidlldfghkaeeaaDoor
/-- The card, under a short name, for the claim. -/
theorem pathSays_holds : Rows.PathSaysUptoCardSaid := pathSays.card
end Go.Proofs.YtidlldfghkaeeaaDoor
