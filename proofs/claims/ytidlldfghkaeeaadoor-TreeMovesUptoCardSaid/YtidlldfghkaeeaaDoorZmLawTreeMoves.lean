/- Put together by pack.py: LawTreeMoves -/
import Derived.Test.YtidlldfghkaeeaaDoorRows
import Derived.Test.YtidlldfghkaeeaaDoorZmLaidK
import Derived.SevenTiedAt
import Derived.Test.YtidlldfghkaeeaaDoorZmPfTallymanlaw8TreeMoves
import Derived.Test.YtidlldfghkaeeaaDoorZmPureTreeMoves
import Derived.Test.YtidlldfghkaeeaaDoorZmOpenU
import Derived.WalkKit
import Derived.ProofKit
import Derived.OpenShut
import Derived.ShutString
import Derived.ChangeOld
import Derived.Below
import Derived.SizedLaws
import Derived.Lib.SmallJoins
namespace Go.Proofs.YtidlldfghkaeeaaDoor.treeMoves
open Go.ChangeShapes Go.WideShapes Go.ChangeAt Go.RowKit Go.Proofs.YtidlldfghkaeeaaDoorW.PrintWords Go.Proofs.YtidlldfghkaeeaaDoor.P
open Go.ChangeMaps (open_string shut_string)
set_option linter.unusedVariables false
set_option linter.unusedSimpArgs false
theorem own : ownKnob Tryd.prog.godebug = none := by kernel_rfl
theorem laidOut : laidOutB Tryd.prog = true := by kernel_rfl
theorem opn9 : OpnU Tryd.prog 9 Kd.string (fun x => x.size ≤ 1048576) := OpnU.string Tryd.underlying9 (by kernel_rfl)
theorem opn4 : OpnU Tryd.prog 4 Kd.bool (fun x => True) := OpnU.bool Tryd.underlying4 (by kernel_rfl)
theorem opn5 : OpnU Tryd.prog 5 (Kd.int .u8) (fun x => (Lit.int .u8 x).wf = true) := OpnU.int Tryd.underlying5 (by kernel_rfl)
theorem opn23 : OpnU Tryd.prog 23 (Kd.slice 5 (Kd.int .u8)) (fun x => (x.length ≤ 1048576 ∧ ∀ x0_ ∈ x, (Lit.int .u8 x0_).wf = true)) := OpnU.slice Tryd.underlying23 (by kernel_rfl) opn5
theorem opn30 : OpnU Tryd.prog 30 k30 (fun x => (x.f0.size ≤ 1048576 ∧ True ∧ (x.f2.length ≤ 1048576 ∧ ∀ x0_ ∈ x.f2, (Lit.int .u8 x0_).wf = true))) := by
  refine ⟨by kernel_rfl, fun {H enc W base spare held fuel cs x} hf hw => ?_⟩
  obtain ⟨xs, n, _, rfl, hl, hn, hx⟩ := DataW.trod_struct Tryd.underlying30 hf
  have hw2 : Rows.uptoBulkAll (xs.map fun x => x.fst) ≤ 1048576 := by
    simp only [Rows.uptoBulk] at hw
    omega
  have hl' : cs.length = 3 := hl.trans (by kernel_rfl)
  have g0 : DataW.trod enc Tryd.prog W base spare held n 9 ((cs.drop 0).take (Tryd.prog.cellsOf 9)) = xs[0]? := hx 0 _ rfl
  rw [show Tryd.prog.cellsOf 9 = 1 from by kernel_rfl, List.getElem?_eq_getElem (show 0 < xs.length by rw [hn]; decide)] at g0
  obtain ⟨y0, q0, r0⟩ := opn9.opens g0 (Nat.le_trans (bulk_mem (l := xs.map (fun x => x.fst)) (List.mem_map_of_mem (List.getElem_mem (show 0 < xs.length by rw [hn]; decide)))) hw2)
  have g1 : DataW.trod enc Tryd.prog W base spare held n 4 ((cs.drop 1).take (Tryd.prog.cellsOf 4)) = xs[1]? := hx 1 _ rfl
  rw [show Tryd.prog.cellsOf 4 = 1 from by kernel_rfl, List.getElem?_eq_getElem (show 1 < xs.length by rw [hn]; decide)] at g1
  obtain ⟨y1, q1, r1⟩ := opn4.opens g1 (Nat.le_trans (bulk_mem (l := xs.map (fun x => x.fst)) (List.mem_map_of_mem (List.getElem_mem (show 1 < xs.length by rw [hn]; decide)))) hw2)
  have g2 : DataW.trod enc Tryd.prog W base spare held n 23 ((cs.drop 2).take (Tryd.prog.cellsOf 23)) = xs[2]? := hx 2 _ rfl
  rw [show Tryd.prog.cellsOf 23 = 1 from by kernel_rfl, List.getElem?_eq_getElem (show 2 < xs.length by rw [hn]; decide)] at g2
  obtain ⟨y2, q2, r2⟩ := opn23.opens g2 (Nat.le_trans (bulk_mem (l := xs.map (fun x => x.fst)) (List.mem_map_of_mem (List.getElem_mem (show 2 < xs.length by rw [hn]; decide)))) hw2)
  exact ⟨⟨y0, y1, y2⟩, (show (k30).K W ⟨y0, y1, y2⟩ (cs.drop 0) from (pairK (o := 0) (s := 1) rfl q0 (pairK (o := 1) (s := 1) rfl q1 (lastK (o := 2) (s := 1) q2 hl')))), r0, r1, r2⟩
theorem opn22 : OpnU Tryd.prog 22 (Kd.slice 30 k30) (fun x => (x.length ≤ 1048576 ∧ ∀ x0_ ∈ x, (x0_.f0.size ≤ 1048576 ∧ True ∧ (x0_.f2.length ≤ 1048576 ∧ ∀ x1_ ∈ x0_.f2, (Lit.int .u8 x1_).wf = true)))) := OpnU.slice Tryd.underlying22 (by kernel_rfl) opn30
theorem reads (os : Os) {H : Type} (enc : TypeId × Value → H) : ∃ places, DataW.whole enc Tryd.prog ((LaidK.laidWorld os).forCall (fun _ _ => 0) ⟨#[], #[.slice none 0 0, .string ByteArray.empty, .string ByteArray.empty], []⟩).memory Tryd.f4.params.toList Rows.treeMovesSpec.vars false (#[.slice none 0 0, .string ByteArray.empty, .string ByteArray.empty] : Array Value).toList 8 = some ([.nil, .lit (.string []), .lit (.string [])], [], places) :=
  ⟨[], by kernel_rfl⟩
set_option maxRecDepth 100000 in
theorem lifted (os : Os) (started : os.Started) (H : Type) (enc : TypeId × Value → H) (F : Stop.Interp) :
    ReturnsInHanded {} Tryd.checked os 4 .any ((Rows.OpenSpec.upto Rows.treeMovesSpec).preRow enc Tryd.prog Tryd.f4 Rows.treeMovesUptoRow.domain false Rows.treeMovesUptoRow.laid) (((Rows.OpenSpec.upto Rows.treeMovesSpec).at F).post enc Tryd.prog Tryd.f4 false true false false) := by
  obtain ⟨places, hx⟩ := reads os enc
  refine returnsInHanded_of_row (C := Tryd.checked) (s := (Rows.OpenSpec.upto Rows.treeMovesSpec)) own started (by kernel_rfl) Tryd.func4
    (witness_row_at (enc := enc) (C := Tryd.checked) false (LaidK.laidWorld os) #[.slice none 0 0, .string ByteArray.empty, .string ByteArray.empty] rfl (by kernel_rfl) (by kernel_rfl) (by kernel_rfl)
      (OpenSpec.preRow_of_cond 8 hx (by kernel_rfl) (fun k hk => by cases hk; kernel_rfl) (by kernel_rfl) (LaidK.laid_met os _))) ?_
  intro W base args ds gs before hval0 hW _ hcond hsz0 hL _ _
  have hval : ∀ (j : Nat) t v, Tryd.f4.params[j]? = some t → args[j]? = some v → Value.okWide Tryd.prog W .any base t v := hval0
  have hW' := hW
  obtain ⟨p, q, hA0, hV, rfl, hfz, hnd⟩ := hW
  have hA : DataW.TrodAll enc Tryd.prog W 0 (fun _ => true) true Tryd.f4.params.toList args.toList ds p := hA0
  rw [Tryd.params4] at hA hval
  obtain ⟨v0, vs0, d0, ds0, p0, q0, hargs, rfl, rfl, h0, r0⟩ := trodAll_cons hA
  obtain ⟨v1, vs1, d1, ds1, p1, q1, rfl, rfl, rfl, h1, r1⟩ := trodAll_cons r0
  obtain ⟨v2, vs2, d2, ds2, p2, q2, rfl, rfl, rfl, h2, r2⟩ := trodAll_cons r1
  obtain ⟨rfl, rfl, rfl⟩ := trodAll_nil r2
  obtain rfl : args = #[v0, v1, v2] := by cases args; simp_all
  obtain ⟨rfl, rfl⟩ := trodVars_none hV
  have hb0 : Rows.uptoBulk d0 ≤ 1048576 := by
    have hk := of_decide_eq_true (hcond _ rfl)
    simp only [List.cons_append, List.nil_append, Rows.uptoBulkAll] at hk
    omega
  have hb1 : Rows.uptoBulk d1 ≤ 1048576 := by
    have hk := of_decide_eq_true (hcond _ rfl)
    simp only [List.cons_append, List.nil_append, Rows.uptoBulkAll] at hk
    omega
  have hb2 : Rows.uptoBulk d2 ≤ 1048576 := by
    have hk := of_decide_eq_true (hcond _ rfl)
    simp only [List.cons_append, List.nil_append, Rows.uptoBulkAll] at hk
    omega
  have k0 := h0
  have lt0 : ∀ x ∈ p0, x.block < W.heap.size := by obtain ⟨m, hm⟩ := k0; exact DataW.trod_lt m _ _ _ hm
  obtain ⟨A0, len0, c0, rfl⟩ := okWide_slice Tryd.underlying22 (hval 0 22 v0 rfl rfl)
  obtain ⟨l0, hC0, hl0, ok0⟩ : ∃ l : List (S30), Kd.C k30 W A0 len0 l ∧ l.length ≤ c0 ∧ (len0 = l.length ∧ (l.length ≤ 1048576 ∧ ∀ x0_ ∈ l, (x0_.f0.size ≤ 1048576 ∧ True ∧ (x0_.f2.length ≤ 1048576 ∧ ∀ x1_ ∈ x0_.f2, (Lit.int .u8 x1_).wf = true)))) := by
    obtain ⟨fuel, hf⟩ := h0
    obtain ⟨l, ⟨A', c', hcs, hl, hC⟩, hok⟩ := opn22.opens hf hb0
    simp [Value.cells] at hcs
    obtain ⟨rfl, rfl, rfl⟩ := hcs
    exact ⟨l, hC, hl, rfl, hok⟩
  obtain ⟨rfl, ok0⟩ := ok0
  have k1 := h1
  have lt1 : ∀ x ∈ p1, x.block < W.heap.size := by obtain ⟨m, hm⟩ := k1; exact DataW.trod_lt m _ _ _ hm
  obtain ⟨a1, rfl, rfl, rfl, ok1⟩ := open_string Tryd.underlying9 (hval 1 9 v1 rfl rfl) h1
  have ob1 : a1.size ≤ 1048576 := by
    simp only [Rows.uptoBulk] at hb1
    have e : a1.data.toList.length = a1.size := by rw [Array.length_toList]; rfl
    omega
  have k2 := h2
  have lt2 : ∀ x ∈ p2, x.block < W.heap.size := by obtain ⟨m, hm⟩ := k2; exact DataW.trod_lt m _ _ _ hm
  obtain ⟨a2, rfl, rfl, rfl, ok2⟩ := open_string Tryd.underlying9 (hval 2 9 v2 rfl rfl) h2
  have ob2 : a2.size ≤ 1048576 := by
    simp only [Rows.uptoBulk] at hb2
    have e : a2.data.toList.length = a2.size := by rw [Array.length_toList]; rfl
    omega
  clear hA0 hval0 hsz0
  obtain ⟨k, hP⟩ := Pure.TreeMoves l0 a1 a2 (fun x hx => ⟨(ok0.2 x hx).1, (ok0.2 x hx).2.2.1⟩)
  refine (tallymanlaw8_TreeMoves.calls k _ _ l0 a1 a2 true W hC0 hl0 hP rfl).mono fun e W' ⟨he, bel0⟩ => ?_
  have bel : Below W.heap.size W W' := bel0
  subst he
  exact ⟨_, rfl, _, _, _, [], _, [], hW', trodAll_mk1 (shut_bool Tryd.underlying4 _), (trodAll_cons_mk (Below.trod laidOut (by kernel_rfl) (of_decide_eq_true (by kernel_rfl)) k0 bel lt0) (trodAll_cons_mk (Below.trod laidOut (by kernel_rfl) (of_decide_eq_true (by kernel_rfl)) k1 bel lt1) (trodAll_cons_mk (Below.trod laidOut (by kernel_rfl) (of_decide_eq_true (by kernel_rfl)) k2 bel lt2) trodAll_mk0))), rfl, bel.frame _, fun h => by cases h⟩
theorem over : Rows.treeMovesUptoRow.holds Tryd.pinned (Rows.OpenSpec.upto Rows.treeMovesSpec) :=
  OpenClaim.holds_of_cond 4 Tryd.f4 rfl rfl rfl rfl rfl rfl rfl ⟨rfl, rfl, rfl, rfl, rfl⟩ rfl rfl rfl rfl rfl (by kernel_rfl) Tryd.func4 (by kernel_rfl)
    (of_decide_eq_true (by kernel_rfl)) (by unfold Func.isWrapper; first | (rw [if_pos (by decide +kernel)]; kernel_rfl) | (rw [if_neg (by decide +kernel)]; exact ⟨rfl, rfl⟩))
    (fun os started H enc _ F => by rw [OpenClaim.pre_eq_preRow]; exact lifted os started H enc F)
theorem plain (f : FuncId) (fn : Func) (hf : Tryd.pinned.checked.prog.funcNamed Rows.treeMovesUptoRow.func = some f) (hfn : Tryd.pinned.checked.prog.funcs[f]? = some fn) :
    false = Tryd.pinned.checked.prog.looks [] ∧ ∀ (j : Nat) t, fn.params[j]? = some t → Tryd.pinned.checked.prog.wantsStandIn t = false := by
  obtain rfl : f = 4 := Option.some.inj ((show Tryd.prog.funcNamed Rows.treeMovesUptoRow.func = some 4 by kernel_rfl).symm.trans hf) |>.symm
  obtain rfl : fn = Tryd.f4 := (Option.some.inj (Tryd.func4.symm.trans hfn)).symm
  refine ⟨by kernel_rfl, fun j t ht => ?_⟩
  rw [Tryd.params4] at ht
  have hm := Array.mem_of_getElem? ht
  have hm2 : t = 22 ∨ t = 9 := by simpa using hm
  rcases hm2 with rfl | rfl
  · exact (show Tryd.prog.wantsStandIn 22 = false by kernel_rfl)
  · exact (show Tryd.prog.wantsStandIn 9 = false by kernel_rfl)
theorem card : Rows.TreeMovesUptoCardSaid :=
  Claim7.holds_tied_plain_at .later [] _ _ _ _ over (fun _ h => by cases h) (by kernel_rfl) (fun _ h => by cases h) treeMovesUpto_row_tie rfl ⟨rfl, rfl⟩ (by kernel_rfl) rfl plain (by kernel_rfl)
#print axioms card
end Go.Proofs.YtidlldfghkaeeaaDoor.treeMoves
namespace Go.Proofs.YtidlldfghkaeeaaDoor
/-- The card, under a short name, for the claim. -/
theorem treeMoves_holds : Rows.TreeMovesUptoCardSaid := treeMoves.card
end Go.Proofs.YtidlldfghkaeeaaDoor
