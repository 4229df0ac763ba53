/- Put together by pack2.py: LawTreePlays -/
import Derived.Test.YtidlldfghkaeeaaGreatDoorRows
import Derived.Test.YtidlldfghkaeeaaGreatDoorZyLaidKEtc
import Derived.SevenTiedAt
import Derived.Test.YtidlldfghkaeeaaGreatDoorZyPfTallymanlaw8TreePlays
import Derived.Test.YtidlldfghkaeeaaGreatDoorZyRefTrEtc
import Derived.Test.YtidlldfghkaeeaaGreatDoorZyOpens
import Derived.WalkKit
import Derived.ProofKit
import Derived.OpenShut
import Derived.ShutString
import Derived.ChangeOld
import Derived.Below
import Derived.SizedLaws
import Derived.Lib.SmallJoins
set_option linter.unusedVariables false
set_option linter.unusedSimpArgs false
set_option maxHeartbeats 8000000
set_option maxRecDepth 100000
namespace Go.Proofs.YtidlldfghkaeeaaGreatDoor.treePlays
open Go.ChangeShapes Go.WideShapes Go.ChangeAt Go.RowKit Go.Proofs.YtidlldfghkaeeaaGreatDoorW.PrintWords Go.Proofs.YtidlldfghkaeeaaGreatDoor.P
open Go.ChangeMaps (open_string shut_string)
theorem own : ownKnob Tryz.prog.godebug = none := by kernel_rfl
theorem laidOut : laidOutB Tryz.prog = true := by kernel_rfl
theorem opn3 : Opn Tryz.prog 3 (Kd.int .i64) (fun x => (Lit.int .i64 x).wf = true) := Opn.int Tryz.underlying3 (by kernel_rfl)
theorem opn9 : Opn Tryz.prog 9 Kd.string (fun x => x.size ≤ maxLen) := Opn.string Tryz.underlying9 (by kernel_rfl)
theorem opn5 : Opn Tryz.prog 5 (Kd.int .u8) (fun x => (Lit.int .u8 x).wf = true) := Opn.int Tryz.underlying5 (by kernel_rfl)
theorem opn29 : Opn Tryz.prog 29 (Kd.slice 5 (Kd.int .u8)) (fun x => (x.length ≤ maxLen ∧ ∀ x0_ ∈ x, (Lit.int .u8 x0_).wf = true)) := Opn.slice Tryz.underlying29 (by kernel_rfl) opn5
theorem opn31 : Opn Tryz.prog 31 k31 (fun x => ((Lit.int .i64 x.f0).wf = true ∧ x.f1.size ≤ maxLen ∧ x.f2.size ≤ maxLen ∧ (x.f3.length ≤ maxLen ∧ ∀ x0_ ∈ x.f3, (Lit.int .u8 x0_).wf = true))) := by
 refine ⟨by kernel_rfl, fun {H enc W base spare held fuel cs x} hf => ?_⟩
 obtain ⟨xs, n, _, _, hl, hn, hx⟩ := DataW.trod_struct Tryz.underlying31 hf
 have hl' : cs.length = 4 := hl.trans (by kernel_rfl)
 have g0 : DataW.trod enc Tryz.prog W base spare held n 3 ((cs.drop 0).take (Tryz.prog.cellsOf 3)) = xs[0]? := hx 0 _ rfl
 rw [show Tryz.prog.cellsOf 3 = 1 from by kernel_rfl, List.getElem?_eq_getElem (show 0 < xs.length by rw [hn]; decide)] at g0
 obtain ⟨y0, q0, r0⟩ := opn3.opens g0
 have g1 : DataW.trod enc Tryz.prog W base spare held n 9 ((cs.drop 1).take (Tryz.prog.cellsOf 9)) = xs[1]? := hx 1 _ rfl
 rw [show Tryz.prog.cellsOf 9 = 1 from by kernel_rfl, List.getElem?_eq_getElem (show 1 < xs.length by rw [hn]; decide)] at g1
 obtain ⟨y1, q1, r1⟩ := opn9.opens g1
 have g2 : DataW.trod enc Tryz.prog W base spare held n 9 ((cs.drop 2).take (Tryz.prog.cellsOf 9)) = xs[2]? := hx 2 _ rfl
 rw [show Tryz.prog.cellsOf 9 = 1 from by kernel_rfl, List.getElem?_eq_getElem (show 2 < xs.length by rw [hn]; decide)] at g2
 obtain ⟨y2, q2, r2⟩ := opn9.opens g2
 have g3 : DataW.trod enc Tryz.prog W base spare held n 29 ((cs.drop 3).take (Tryz.prog.cellsOf 29)) = xs[3]? := hx 3 _ rfl
 rw [show Tryz.prog.cellsOf 29 = 1 from by kernel_rfl, List.getElem?_eq_getElem (show 3 < xs.length by rw [hn]; decide)] at g3
 obtain ⟨y3, q3, r3⟩ := opn29.opens g3
 exact ⟨⟨y0, y1, y2, y3⟩, (show (k31).K W ⟨y0, y1, y2, y3⟩ (cs.drop 0) from (pairK (o := 0) (s := 1) rfl q0 (pairK (o := 1) (s := 1) rfl q1 (pairK (o := 2) (s := 1) rfl q2 (lastK (o := 3) (s := 1) q3 hl'))))), r0, r1, r2, r3⟩
theorem opn22 : Opn Tryz.prog 22 (Kd.slice 31 k31) (fun x => (x.length ≤ maxLen ∧ ∀ x0_ ∈ x, ((Lit.int .i64 x0_.f0).wf = true ∧ x0_.f1.size ≤ maxLen ∧ x0_.f2.size ≤ maxLen ∧ (x0_.f3.length ≤ maxLen ∧ ∀ x1_ ∈ x0_.f3, (Lit.int .u8 x1_).wf = true)))) := Opn.slice Tryz.underlying22 (by kernel_rfl) opn31
theorem reads (os : Os) {H : Type} (enc : TypeId × Value → H) : ∃ places, DataW.whole enc Tryz.prog ((LaidK.laidWorld os).forCall (fun _ _ => 0) ⟨#[], #[.slice none 0 0, .string ByteArray.empty], []⟩).memory Tryz.f3.params.toList Rows.treePlaysSpec.vars false (#[.slice none 0 0, .string ByteArray.empty] : Array Value).toList 8 = some ([.nil, .lit (.string [])], [], places) :=
 ⟨[], by kernel_rfl⟩
theorem lifted (os : Os) (started : os.Started) (H : Type) (enc : TypeId × Value → H) (F : Stop.Interp) :
  ReturnsInHanded {} Tryz.checked os 3 .any ((OpenSpec.ofChange Rows.treePlaysSpec).preRow enc Tryz.prog Tryz.f3 Rows.treePlaysRow.domain false Rows.treePlaysRow.laid) (((OpenSpec.ofChange Rows.treePlaysSpec).at F).post enc Tryz.prog Tryz.f3 false true false false) := by
 obtain ⟨places, hx⟩ := reads os enc
 refine returnsInHanded_of_row (C := Tryz.checked) (s := (OpenSpec.ofChange Rows.treePlaysSpec)) own started (by kernel_rfl) Tryz.func3
  (witness_row_at (enc := enc) (C := Tryz.checked) false (LaidK.laidWorld os) #[.slice none 0 0, .string ByteArray.empty] rfl (by kernel_rfl) (by kernel_rfl) (by kernel_rfl)
   (OpenSpec.preRow_of_cond 8 hx (by kernel_rfl) (fun k hk => by cases hk) (by kernel_rfl) (LaidK.laid_met os _))) ?_
 intro W base args ds gs before hval0 hW _ hcond hsz0 hL _ _
 have hval : ∀ (j : Nat) t v, Tryz.f3.params[j]? = some t → args[j]? = some v → Value.okWide Tryz.prog W .any base t v := hval0
 have hW' := hW
 obtain ⟨p, q, hA0, hV, rfl, hfz, hnd⟩ := hW
 have hA : DataW.TrodAll enc Tryz.prog W 0 (fun _ => true) true Tryz.f3.params.toList args.toList ds p := hA0
 rw [Tryz.params3] at hA hval
 obtain ⟨v0, vs0, d0, ds0, p0, q0, hargs, rfl, rfl, h0, r0⟩ := trodAll_cons hA
 obtain ⟨v1, vs1, d1, ds1, p1, q1, rfl, rfl, rfl, h1, r1⟩ := trodAll_cons r0
 obtain ⟨rfl, rfl, rfl⟩ := trodAll_nil r1
 obtain rfl : args = #[v0, v1] := by cases args; simp_all
 obtain ⟨rfl, rfl⟩ := trodVars_none hV
 have k0 := h0
 have lt0 : ∀ x ∈ p0, x.block < W.heap.size := by obtain ⟨m, hm⟩ := k0; exact DataW.trod_lt m _ _ _ hm
 obtain ⟨A0, len0, c0, rfl⟩ := okWide_slice Tryz.underlying22 (hval 0 22 v0 rfl rfl)
 obtain ⟨l0, hC0, hl0, ok0⟩ : ∃ l : List (S31), Kd.C k31 W A0 len0 l ∧ l.length ≤ c0 ∧ (len0 = l.length ∧ (l.length ≤ maxLen ∧ ∀ x0_ ∈ l, ((Lit.int .i64 x0_.f0).wf = true ∧ x0_.f1.size ≤ maxLen ∧ x0_.f2.size ≤ maxLen ∧ (x0_.f3.length ≤ maxLen ∧ ∀ x1_ ∈ x0_.f3, (Lit.int .u8 x1_).wf = true)))) := by
  obtain ⟨fuel, hf⟩ := h0
  obtain ⟨l, ⟨A', c', hcs, hl, hC⟩, hok⟩ := opn22.opens hf
  simp [Value.cells] at hcs
  obtain ⟨rfl, rfl, rfl⟩ := hcs
  exact ⟨l, hC, hl, rfl, hok⟩
 obtain ⟨rfl, ok0⟩ := ok0
 have k1 := h1
 have lt1 : ∀ x ∈ p1, x.block < W.heap.size := by obtain ⟨m, hm⟩ := k1; exact DataW.trod_lt m _ _ _ hm
 obtain ⟨a1, rfl, rfl, rfl, ok1⟩ := open_string Tryz.underlying9 (hval 1 9 v1 rfl rfl) h1
 clear hA0 hval0 hsz0
 obtain ⟨k, hP⟩ := Pure.TreePlays l0 a1 ok0 ok1
 refine (tallymanlaw8_TreePlays.calls k _ _ l0 a1 true W hC0 hl0 hP rfl).mono fun e W' ⟨he, bel0⟩ => ?_
 have bel : Below W.heap.size W W' := bel0
 subst he
 exact ⟨_, rfl, _, _, _, [], _, [], hW', trodAll_mk1 (shut_bool Tryz.underlying4 _), (trodAll_cons_mk (Below.trod laidOut (by kernel_rfl) (of_decide_eq_true (by kernel_rfl)) k0 bel lt0) (trodAll_cons_mk (Below.trod laidOut (by kernel_rfl) (of_decide_eq_true (by kernel_rfl)) k1 bel lt1) trodAll_mk0)), rfl, bel.frame _, fun h => by cases h⟩
theorem over : Rows.treePlaysRow.holds Tryz.pinned (OpenSpec.ofChange Rows.treePlaysSpec) :=
 OpenClaim.holds_of_cond 3 Tryz.f3 rfl rfl rfl rfl rfl rfl rfl ⟨rfl, rfl, rfl, rfl, rfl⟩ rfl rfl rfl rfl rfl (by kernel_rfl) Tryz.func3 (by kernel_rfl)
  (of_decide_eq_true (by kernel_rfl)) (by unfold Func.isWrapper; first | (rw [if_pos (by decide +kernel)]; kernel_rfl) | (rw [if_neg (by decide +kernel)]; exact ⟨rfl, rfl⟩))
  (fun os started H enc _ F => by rw [OpenClaim.pre_eq_preRow]; exact lifted os started H enc F)
theorem plain (f : FuncId) (fn : Func) (hf : Tryz.pinned.checked.prog.funcNamed Rows.treePlaysRow.func = some f) (hfn : Tryz.pinned.checked.prog.funcs[f]? = some fn) :
  false = Tryz.pinned.checked.prog.looks [] ∧ ∀ (j : Nat) t, fn.params[j]? = some t → Tryz.pinned.checked.prog.wantsStandIn t = false := by
 obtain rfl : f = 3 := Option.some.inj ((show Tryz.prog.funcNamed Rows.treePlaysRow.func = some 3 by kernel_rfl).symm.trans hf) |>.symm
 obtain rfl : fn = Tryz.f3 := (Option.some.inj (Tryz.func3.symm.trans hfn)).symm
 refine ⟨by kernel_rfl, fun j t ht => ?_⟩
 rw [Tryz.params3] at ht
 have hm := Array.mem_of_getElem? ht
 have hm2 : t = 22 ∨ t = 9 := by simpa using hm
 rcases hm2 with rfl | rfl
 ·exact (show Tryz.prog.wantsStandIn 22 = false by kernel_rfl)
 ·exact (show Tryz.prog.wantsStandIn 9 = false by kernel_rfl)
theorem card : Rows.TreePlaysCardSaid :=
 Claim7.holds_tied_plain_at .later [] _ _ _ _ over (fun _ h => by cases h) (by kernel_rfl) (fun _ h => by cases h) treePlays_row_tie rfl ⟨rfl, rfl⟩ (by kernel_rfl) rfl plain (by kernel_rfl)
#print axioms card
end Go.Proofs.YtidlldfghkaeeaaGreatDoor.treePlays
namespace Go.Proofs.YtidlldfghkaeeaaGreatDoor
theorem treePlays_holds : Rows.TreePlaysCardSaid := treePlays.card
end Go.Proofs.YtidlldfghkaeeaaGreatDoor
