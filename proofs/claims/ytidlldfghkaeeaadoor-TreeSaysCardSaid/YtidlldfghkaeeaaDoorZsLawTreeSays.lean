/- Put together by pack2.py: LawTreeSays -/
import Derived.Test.YtidlldfghkaeeaaDoorRows
import Derived.Test.YtidlldfghkaeeaaDoorZsLaidKEtc
import Derived.SevenTiedAt
import Derived.Test.YtidlldfghkaeeaaDoorZsPfTallymanlaw8TreeSays
import Derived.Test.YtidlldfghkaeeaaDoorZsTreeMovPEtc
import Derived.WalkKit
import Derived.ProofKit
import Derived.OpenShut
import Derived.ShutString
import Derived.ChangeOld
import Derived.Below
import Derived.SizedLaws
import Derived.Lib.SmallJoins
namespace Go.Proofs.YtidlldfghkaeeaaDoor.treeSays
open Go.ChangeShapes Go.WideShapes Go.ChangeAt Go.RowKit Go.Proofs.YtidlldfghkaeeaaDoorW.PrintWords Go.Proofs.YtidlldfghkaeeaaDoor.P
open Go.ChangeMaps (open_string shut_string)
set_option linter.unusedVariables false
set_option linter.unusedSimpArgs false
theorem own : ownKnob Tryd.prog.godebug = none := by kernel_rfl
theorem laidOut : laidOutB Tryd.prog = true := by kernel_rfl
theorem opn9 : Opn Tryd.prog 9 Kd.string (fun x => x.size ≤ maxLen) := Opn.string Tryd.underlying9 (by kernel_rfl)
theorem opn4 : Opn Tryd.prog 4 Kd.bool (fun x => True) := Opn.bool Tryd.underlying4 (by kernel_rfl)
theorem opn5 : Opn Tryd.prog 5 (Kd.int .u8) (fun x => (Lit.int .u8 x).wf = true) := Opn.int Tryd.underlying5 (by kernel_rfl)
theorem opn23 : Opn Tryd.prog 23 (Kd.slice 5 (Kd.int .u8)) (fun x => (x.length ≤ maxLen ∧ ∀ x0_ ∈ x, (Lit.int .u8 x0_).wf = true)) := Opn.slice Tryd.underlying23 (by kernel_rfl) opn5
theorem opn30 : Opn Tryd.prog 30 k30 (fun x => (x.f0.size ≤ maxLen ∧ True ∧ (x.f2.length ≤ maxLen ∧ ∀ x0_ ∈ x.f2, (Lit.int .u8 x0_).wf = true))) := by
 refine ⟨by kernel_rfl, fun {H enc W base spare held fuel cs x} hf => ?_⟩
 obtain ⟨xs, n, _, _, hl, hn, hx⟩ := DataW.trod_struct Tryd.underlying30 hf
 have hl' : cs.length = 3 := hl.trans (by kernel_rfl)
 have g0 : DataW.trod enc Tryd.prog W base spare held n 9 ((cs.drop 0).take (Tryd.prog.cellsOf 9)) = xs[0]? := hx 0 _ rfl
 rw [show Tryd.prog.cellsOf 9 = 1 from by kernel_rfl, List.getElem?_eq_getElem (show 0 < xs.length by rw [hn]; decide)] at g0
 obtain ⟨y0, q0, r0⟩ := opn9.opens g0
 have g1 : DataW.trod enc Tryd.prog W base spare held n 4 ((cs.drop 1).take (Tryd.prog.cellsOf 4)) = xs[1]? := hx 1 _ rfl
 rw [show Tryd.prog.cellsOf 4 = 1 from by kernel_rfl, List.getElem?_eq_getElem (show 1 < xs.length by rw [hn]; decide)] at g1
 obtain ⟨y1, q1, r1⟩ := opn4.opens g1
 have g2 : DataW.trod enc Tryd.prog W base spare held n 23 ((cs.drop 2).take (Tryd.prog.cellsOf 23)) = xs[2]? := hx 2 _ rfl
 rw [show Tryd.prog.cellsOf 23 = 1 from by kernel_rfl, List.getElem?_eq_getElem (show 2 < xs.length by rw [hn]; decide)] at g2
 obtain ⟨y2, q2, r2⟩ := opn23.opens g2
 exact ⟨⟨y0, y1, y2⟩, (show (k30).K W ⟨y0, y1, y2⟩ (cs.drop 0) from (pairK (o := 0) (s := 1) rfl q0 (pairK (o := 1) (s := 1) rfl q1 (lastK (o := 2) (s := 1) q2 hl')))), r0, r1, r2⟩
theorem opn22 : Opn Tryd.prog 22 (Kd.slice 30 k30) (fun x => (x.length ≤ maxLen ∧ ∀ x0_ ∈ x, (x0_.f0.size ≤ maxLen ∧ True ∧ (x0_.f2.length ≤ maxLen ∧ ∀ x1_ ∈ x0_.f2, (Lit.int .u8 x1_).wf = true)))) := Opn.slice Tryd.underlying22 (by kernel_rfl) opn30
theorem reads (os : Os) {H : Type} (enc : TypeId × Value → H) : ∃ places, DataW.whole enc Tryd.prog ((LaidK.laidWorld os).forCall (fun _ _ => 0) ⟨#[], #[.slice none 0 0, .slice none 0 0, .string ByteArray.empty], []⟩).memory Tryd.f5.params.toList Rows.treeSaysSpec.vars false (#[.slice none 0 0, .slice none 0 0, .string ByteArray.empty] : Array Value).toList 8 = some ([.nil, .nil, .lit (.string [])], [], places) :=
 ⟨[], by kernel_rfl⟩
set_option maxRecDepth 100000 in
theorem lifted (os : Os) (started : os.Started) (H : Type) (enc : TypeId × Value → H) (F : Stop.Interp) :
  ReturnsInHanded {} Tryd.checked os 5 .any ((OpenSpec.ofChange Rows.treeSaysSpec).preRow enc Tryd.prog Tryd.f5 Rows.treeSaysRow.domain false Rows.treeSaysRow.laid) (((OpenSpec.ofChange Rows.treeSaysSpec).at F).post enc Tryd.prog Tryd.f5 false true false false) := by
 obtain ⟨places, hx⟩ := reads os enc
 refine returnsInHanded_of_row (C := Tryd.checked) (s := (OpenSpec.ofChange Rows.treeSaysSpec)) own started (by kernel_rfl) Tryd.func5
  (witness_row_at (enc := enc) (C := Tryd.checked) false (LaidK.laidWorld os) #[.slice none 0 0, .slice none 0 0, .string ByteArray.empty] rfl (by kernel_rfl) (by kernel_rfl) (by kernel_rfl)
   (OpenSpec.preRow_of_cond 8 hx (by kernel_rfl) (fun k hk => by cases hk) (by kernel_rfl) (LaidK.laid_met os _))) ?_
 intro W base args ds gs before hval0 hW _ hcond hsz0 hL _ _
 have hval : ∀ (j : Nat) t v, Tryd.f5.params[j]? = some t → args[j]? = some v → Value.okWide Tryd.prog W .any base t v := hval0
 have hW' := hW
 obtain ⟨p, q, hA0, hV, rfl, hfz, hnd⟩ := hW
 have hA : DataW.TrodAll enc Tryd.prog W 0 (fun _ => true) true Tryd.f5.params.toList args.toList ds p := hA0
 rw [Tryd.params5] at hA hval
 obtain ⟨v0, vs0, d0, ds0, p0, q0, hargs, rfl, rfl, h0, r0⟩ := trodAll_cons hA
 obtain ⟨v1, vs1, d1, ds1, p1, q1, rfl, rfl, rfl, h1, r1⟩ := trodAll_cons r0
 obtain ⟨v2, vs2, d2, ds2, p2, q2, rfl, rfl, rfl, h2, r2⟩ := trodAll_cons r1
 obtain ⟨rfl, rfl, rfl⟩ := trodAll_nil r2
 obtain rfl : args = #[v0, v1, v2] := by cases args; simp_all
 obtain ⟨rfl, rfl⟩ := trodVars_none hV
 have k0 := h0
 have lt0 : ∀ x ∈ p0, x.block < W.heap.size := by obtain ⟨m, hm⟩ := k0; exact DataW.trod_lt m _ _ _ hm
 obtain ⟨A0, len0, c0, rfl⟩ := okWide_slice Tryd.underlying22 (hval 0 22 v0 rfl rfl)
 obtain ⟨l0, hC0, hl0, ok0⟩ : ∃ l : List (S30), Kd.C k30 W A0 len0 l ∧ l.length ≤ c0 ∧ (len0 = l.length ∧ (l.length ≤ maxLen ∧ ∀ x0_ ∈ l, (x0_.f0.size ≤ maxLen ∧ True ∧ (x0_.f2.length ≤ maxLen ∧ ∀ x1_ ∈ x0_.f2, (Lit.int .u8 x1_).wf = true)))) := by
  obtain ⟨fuel, hf⟩ := h0
  obtain ⟨l, ⟨A', c', hcs, hl, hC⟩, hok⟩ := opn22.opens hf
  simp [Value.cells] at hcs
  obtain ⟨rfl, rfl, rfl⟩ := hcs
  exact ⟨l, hC, hl, rfl, hok⟩
 obtain ⟨rfl, ok0⟩ := ok0
 have k1 := h1
 have lt1 : ∀ x ∈ p1, x.block < W.heap.size := by obtain ⟨m, hm⟩ := k1; exact DataW.trod_lt m _ _ _ hm
 obtain ⟨A1, len1, c1, rfl⟩ := okWide_slice Tryd.underlying22 (hval 1 22 v1 rfl rfl)
 obtain ⟨l1, hC1, hl1, ok1⟩ : ∃ l : List (S30), Kd.C k30 W A1 len1 l ∧ l.length ≤ c1 ∧ (len1 = l.length ∧ (l.length ≤ maxLen ∧ ∀ x0_ ∈ l, (x0_.f0.size ≤ maxLen ∧ True ∧ (x0_.f2.length ≤ maxLen ∧ ∀ x1_ ∈ x0_.f2, (Lit.int .u8 x1_).wf = true)))) := by
  obtain ⟨fuel, hf⟩ := h1
  obtain ⟨l, ⟨A', c', hcs, hl, hC⟩, hok⟩ := opn22.opens hf
  simp [Value.cells] at hcs
  obtain ⟨rfl, rfl, rfl⟩ := hcs
  exact ⟨l, hC, hl, rfl, hok⟩
 obtain ⟨rfl, ok1⟩ := ok1
 have k2 := h2
 have lt2 : ∀ x ∈ p2, x.block < W.heap.size := by obtain ⟨m, hm⟩ := k2; exact DataW.trod_lt m _ _ _ hm
 obtain ⟨a2, rfl, rfl, rfl, ok2⟩ := open_string Tryd.underlying9 (hval 2 9 v2 rfl rfl) h2
 clear hA0 hval0 hsz0
 obtain ⟨k, hP⟩ := Pure.TreeSays l0 l1 a2
 refine (tallymanlaw8_TreeSays.calls k _ _ l0 _ _ l1 a2 true W hC0 hl0 hC1 hl1 hP rfl).mono fun e W' ⟨he, bel0⟩ => ?_
 have bel : Below W.heap.size W W' := bel0
 subst he
 exact ⟨_, rfl, _, _, _, [], _, [], hW', trodAll_mk1 (shut_bool Tryd.underlying4 _), (trodAll_cons_mk (Below.trod laidOut (by kernel_rfl) (of_decide_eq_true (by kernel_rfl)) k0 bel lt0) (trodAll_cons_mk (Below.trod laidOut (by kernel_rfl) (of_decide_eq_true (by kernel_rfl)) k1 bel lt1) (trodAll_cons_mk (Below.trod laidOut (by kernel_rfl) (of_decide_eq_true (by kernel_rfl)) k2 bel lt2) trodAll_mk0))), rfl, bel.frame _, fun h => by cases h⟩
theorem over : Rows.treeSaysRow.holds Tryd.pinned (OpenSpec.ofChange Rows.treeSaysSpec) :=
 OpenClaim.holds_of_cond 5 Tryd.f5 rfl rfl rfl rfl rfl rfl rfl ⟨rfl, rfl, rfl, rfl, rfl⟩ rfl rfl rfl rfl rfl (by kernel_rfl) Tryd.func5 (by kernel_rfl)
  (of_decide_eq_true (by kernel_rfl)) (by unfold Func.isWrapper; first | (rw [if_pos (by decide +kernel)]; kernel_rfl) | (rw [if_neg (by decide +kernel)]; exact ⟨rfl, rfl⟩))
  (fun os started H enc _ F => by rw [OpenClaim.pre_eq_preRow]; exact lifted os started H enc F)
theorem plain (f : FuncId) (fn : Func) (hf : Tryd.pinned.checked.prog.funcNamed Rows.treeSaysRow.func = some f) (hfn : Tryd.pinned.checked.prog.funcs[f]? = some fn) :
  false = Tryd.pinned.checked.prog.looks [] ∧ ∀ (j : Nat) t, fn.params[j]? = some t → Tryd.pinned.checked.prog.wantsStandIn t = false := by
 obtain rfl : f = 5 := Option.some.inj ((show Tryd.prog.funcNamed Rows.treeSaysRow.func = some 5 by kernel_rfl).symm.trans hf) |>.symm
 obtain rfl : fn = Tryd.f5 := (Option.some.inj (Tryd.func5.symm.trans hfn)).symm
 refine ⟨by kernel_rfl, fun j t ht => ?_⟩
 rw [Tryd.params5] at ht
 have hm := Array.mem_of_getElem? ht
 have hm2 : t = 22 ∨ t = 9 := by simpa using hm
 rcases hm2 with rfl | rfl
 ·exact (show Tryd.prog.wantsStandIn 22 = false by kernel_rfl)
 ·exact (show Tryd.prog.wantsStandIn 9 = false by kernel_rfl)
theorem card : Rows.TreeSaysCardSaid :=
 Claim7.holds_tied_plain_at .later [] _ _ _ _ over (fun _ h => by cases h) (by kernel_rfl) (fun _ h => by cases h) treeSays_row_tie rfl ⟨rfl, rfl⟩ (by kernel_rfl) rfl plain (by kernel_rfl)
#print axioms card
end Go.Proofs.YtidlldfghkaeeaaDoor.treeSays
namespace Go.Proofs.YtidlldfghkaeeaaDoor
/-- The card, under a short name, for the claim. -/
theorem treeSays_holds : Rows.TreeSaysCardSaid := treeSays.card
end Go.Proofs.YtidlldfghkaeeaaDoor
