/- Put together by pack2.py: LawDiskSure -/
import Derived.Test.YtidlldfghkaeeaaDoorRows
import Derived.Test.YtidlldfghkaeeaaDoorZrLaidKEtc
import Derived.SevenTiedAt
import Derived.Test.YtidlldfghkaeeaaDoorZrDskS
import Derived.Test.YtidlldfghkaeeaaDoorZrOpensEtc
import Derived.WalkKit
import Derived.ProofKit
import Derived.OpenShut
import Derived.ShutString
import Derived.ChangeOld
import Derived.Below
import Derived.SizedLaws
import Derived.Lib.SmallJoins
namespace Go.Proofs.YtidlldfghkaeeaaDoor.diskSure
open Go.ChangeShapes Go.WideShapes Go.ChangeAt Go.RowKit Go.Proofs.YtidlldfghkaeeaaDoorW.PrintWords Go.Proofs.YtidlldfghkaeeaaDoor.P
open Go.ChangeMaps (open_string shut_string)
set_option linter.unusedVariables false
set_option linter.unusedSimpArgs false
theorem own : ownKnob Tryd.prog.godebug = none := by kernel_rfl
theorem laidOut : laidOutB Tryd.prog = true := by kernel_rfl
theorem opn9 : OpnU Tryd.prog 9 Kd.string (fun x => x.size ≤ 1048576) := OpnU.string Tryd.underlying9 (by kernel_rfl)
theorem opn5 : OpnU Tryd.prog 5 (Kd.int .u8) (fun x => (Lit.int .u8 x).wf = true) := OpnU.int Tryd.underlying5 (by kernel_rfl)
theorem opn23 : OpnU Tryd.prog 23 (Kd.slice 5 (Kd.int .u8)) (fun x => (x.length ≤ 1048576 ∧ ∀ x0_ ∈ x, (Lit.int .u8 x0_).wf = true)) := OpnU.slice Tryd.underlying23 (by kernel_rfl) opn5
theorem opn3 : OpnU Tryd.prog 3 (Kd.int .i64) (fun x => (Lit.int .i64 x).wf = true) := OpnU.int Tryd.underlying3 (by kernel_rfl)
theorem opn61 : OpnU Tryd.prog 61 k61 (fun x => ((Lit.int .i64 x.f0).wf = true ∧ x.f1.size ≤ 1048576 ∧ x.f2.size ≤ 1048576 ∧ (x.f3.length ≤ 1048576 ∧ ∀ x0_ ∈ x.f3, (Lit.int .u8 x0_).wf = true))) := by
  refine ⟨by kernel_rfl, fun {H enc W base spare held fuel cs x} hf hw => ?_⟩
  obtain ⟨xs, n, _, rfl, hl, hn, hx⟩ := DataW.trod_struct Tryd.underlying61 hf
  have hw2 : Rows.uptoBulkAll (xs.map fun x => x.fst) ≤ 1048576 := by
    simp only [Rows.uptoBulk] at hw
    omega
  have hl' : cs.length = 4 := hl.trans (by kernel_rfl)
  have g0 : DataW.trod enc Tryd.prog W base spare held n 3 ((cs.drop 0).take (Tryd.prog.cellsOf 3)) = xs[0]? := hx 0 _ rfl
  rw [show Tryd.prog.cellsOf 3 = 1 from by kernel_rfl, List.getElem?_eq_getElem (show 0 < xs.length by rw [hn]; decide)] at g0
  obtain ⟨y0, q0, r0⟩ := opn3.opens g0 (Nat.le_trans (bulk_mem (l := xs.map (fun x => x.fst)) (List.mem_map_of_mem (List.getElem_mem (show 0 < xs.length by rw [hn]; decide)))) hw2)
  have g1 : DataW.trod enc Tryd.prog W base spare held n 9 ((cs.drop 1).take (Tryd.prog.cellsOf 9)) = xs[1]? := hx 1 _ rfl
  rw [show Tryd.prog.cellsOf 9 = 1 from by kernel_rfl, List.getElem?_eq_getElem (show 1 < xs.length by rw [hn]; decide)] at g1
  obtain ⟨y1, q1, r1⟩ := opn9.opens g1 (Nat.le_trans (bulk_mem (l := xs.map (fun x => x.fst)) (List.mem_map_of_mem (List.getElem_mem (show 1 < xs.length by rw [hn]; decide)))) hw2)
  have g2 : DataW.trod enc Tryd.prog W base spare held n 9 ((cs.drop 2).take (Tryd.prog.cellsOf 9)) = xs[2]? := hx 2 _ rfl
  rw [show Tryd.prog.cellsOf 9 = 1 from by kernel_rfl, List.getElem?_eq_getElem (show 2 < xs.length by rw [hn]; decide)] at g2
  obtain ⟨y2, q2, r2⟩ := opn9.opens g2 (Nat.le_trans (bulk_mem (l := xs.map (fun x => x.fst)) (List.mem_map_of_mem (List.getElem_mem (show 2 < xs.length by rw [hn]; decide)))) hw2)
  have g3 : DataW.trod enc Tryd.prog W base spare held n 23 ((cs.drop 3).take (Tryd.prog.cellsOf 23)) = xs[3]? := hx 3 _ rfl
  rw [show Tryd.prog.cellsOf 23 = 1 from by kernel_rfl, List.getElem?_eq_getElem (show 3 < xs.length by rw [hn]; decide)] at g3
  obtain ⟨y3, q3, r3⟩ := opn23.opens g3 (Nat.le_trans (bulk_mem (l := xs.map (fun x => x.fst)) (List.mem_map_of_mem (List.getElem_mem (show 3 < xs.length by rw [hn]; decide)))) hw2)
  exact ⟨⟨y0, y1, y2, y3⟩, (show (k61).K W ⟨y0, y1, y2, y3⟩ (cs.drop 0) from (pairK (o := 0) (s := 1) rfl q0 (pairK (o := 1) (s := 1) rfl q1 (pairK (o := 2) (s := 1) rfl q2 (lastK (o := 3) (s := 1) q3 hl'))))), r0, r1, r2, r3⟩
theorem opn56 : OpnU Tryd.prog 56 (Kd.slice 61 k61) (fun x => (x.length ≤ 1048576 ∧ ∀ x0_ ∈ x, ((Lit.int .i64 x0_.f0).wf = true ∧ x0_.f1.size ≤ 1048576 ∧ x0_.f2.size ≤ 1048576 ∧ (x0_.f3.length ≤ 1048576 ∧ ∀ x1_ ∈ x0_.f3, (Lit.int .u8 x1_).wf = true)))) := OpnU.slice Tryd.underlying56 (by kernel_rfl) opn61
theorem opn78 : OpnU Tryd.prog 78 (Kd.slice 3 (Kd.int .i64)) (fun x => (x.length ≤ 1048576 ∧ ∀ x0_ ∈ x, (Lit.int .i64 x0_).wf = true)) := OpnU.slice Tryd.underlying78 (by kernel_rfl) opn3
theorem reads (os : Os) {H : Type} (enc : TypeId × Value → H) : ∃ places, DataW.whole enc Tryd.prog ((LaidK.laidWorld os).forCall (fun _ _ => 0) ⟨#[], #[.slice none 0 0, .slice none 0 0, .slice none 0 0, .int .i64 0], []⟩).memory Tryd.f12.params.toList Rows.diskSureSpec.vars false (#[.slice none 0 0, .slice none 0 0, .slice none 0 0, .int .i64 0] : Array Value).toList 8 = some ([.nil, .nil, .nil, .lit (.int .i64 0)], [], places) :=
  ⟨[], by kernel_rfl⟩
set_option maxRecDepth 100000 in
theorem lifted (os : Os) (started : os.Started) (H : Type) (enc : TypeId × Value → H) (F : Stop.Interp) :
    ReturnsInHanded {} Tryd.checked os 12 .any ((Rows.OpenSpec.upto Rows.diskSureSpec).preRow enc Tryd.prog Tryd.f12 Rows.diskSureUptoRow.domain false Rows.diskSureUptoRow.laid) (((Rows.OpenSpec.upto Rows.diskSureSpec).at F).post enc Tryd.prog Tryd.f12 false true false false) := by
  obtain ⟨places, hx⟩ := reads os enc
  refine returnsInHanded_of_row (C := Tryd.checked) (s := (Rows.OpenSpec.upto Rows.diskSureSpec)) own started (by kernel_rfl) Tryd.func12
    (witness_row_at (enc := enc) (C := Tryd.checked) false (LaidK.laidWorld os) #[.slice none 0 0, .slice none 0 0, .slice none 0 0, .int .i64 0] rfl (by kernel_rfl) (by kernel_rfl) (by kernel_rfl)
      (OpenSpec.preRow_of_cond 8 hx (by kernel_rfl) (fun k hk => by cases hk; kernel_rfl) (by kernel_rfl) (LaidK.laid_met os _))) ?_
  intro W base args ds gs before hval0 hW _ hcond hsz0 hL _ _
  have hval : ∀ (j : Nat) t v, Tryd.f12.params[j]? = some t → args[j]? = some v → Value.okWide Tryd.prog W .any base t v := hval0
  have hW' := hW
  obtain ⟨p, q, hA0, hV, rfl, hfz, hnd⟩ := hW
  have hA : DataW.TrodAll enc Tryd.prog W 0 (fun _ => true) true Tryd.f12.params.toList args.toList ds p := hA0
  rw [Tryd.params12] at hA hval
  obtain ⟨v0, vs0, d0, ds0, p0, q0, hargs, rfl, rfl, h0, r0⟩ := trodAll_cons hA
  obtain ⟨v1, vs1, d1, ds1, p1, q1, rfl, rfl, rfl, h1, r1⟩ := trodAll_cons r0
  obtain ⟨v2, vs2, d2, ds2, p2, q2, rfl, rfl, rfl, h2, r2⟩ := trodAll_cons r1
  obtain ⟨v3, vs3, d3, ds3, p3, q3, rfl, rfl, rfl, h3, r3⟩ := trodAll_cons r2
  obtain ⟨rfl, rfl, rfl⟩ := trodAll_nil r3
  obtain rfl : args = #[v0, v1, v2, v3] := by cases args; simp_all
  obtain ⟨rfl, rfl⟩ := trodVars_none hV
  have hb0 : Rows.uptoBulk d0 ≤ 1048576 := by
    have hk := of_decide_eq_true (hcond _ rfl)
    simp only [List.cons_append, List.nil_append, Rows.uptoBulkAll] at hk
    omega
  have hb1 : Rows.uptoBulk d1 ≤ 1048576 := by
    have hk := of_decide_eq_true (hcond _ rfl)
    simp only [List.cons_append, List.nil_append, Rows.uptoBulkAll] at hk
    omega
  have hb2 : Rows.uptoBulk d2 ≤ 1048576 := by
    have hk := of_decide_eq_true (hcond _ rfl)
    simp only [List.cons_append, List.nil_append, Rows.uptoBulkAll] at hk
    omega
  have hb3 : Rows.uptoBulk d3 ≤ 1048576 := by
    have hk := of_decide_eq_true (hcond _ rfl)
    simp only [List.cons_append, List.nil_append, Rows.uptoBulkAll] at hk
    omega
  have k0 := h0
  have lt0 : ∀ x ∈ p0, x.block < W.heap.size := by obtain ⟨m, hm⟩ := k0; exact DataW.trod_lt m _ _ _ hm
  obtain ⟨A0, len0, c0, rfl⟩ := okWide_slice Tryd.underlying56 (hval 0 56 v0 rfl rfl)
  obtain ⟨l0, hC0, hl0, ok0⟩ : ∃ l : List (S61), Kd.C k61 W A0 len0 l ∧ l.length ≤ c0 ∧ (len0 = l.length ∧ (l.length ≤ 1048576 ∧ ∀ x0_ ∈ l, ((Lit.int .i64 x0_.f0).wf = true ∧ x0_.f1.size ≤ 1048576 ∧ x0_.f2.size ≤ 1048576 ∧ (x0_.f3.length ≤ 1048576 ∧ ∀ x1_ ∈ x0_.f3, (Lit.int .u8 x1_).wf = true)))) := by
    obtain ⟨fuel, hf⟩ := h0
    obtain ⟨l, ⟨A', c', hcs, hl, hC⟩, hok⟩ := opn56.opens hf hb0
    simp [Value.cells] at hcs
    obtain ⟨rfl, rfl, rfl⟩ := hcs
    exact ⟨l, hC, hl, rfl, hok⟩
  obtain ⟨rfl, ok0⟩ := ok0
  have k1 := h1
  have lt1 : ∀ x ∈ p1, x.block < W.heap.size := by obtain ⟨m, hm⟩ := k1; exact DataW.trod_lt m _ _ _ hm
  obtain ⟨A1, len1, c1, rfl⟩ := okWide_slice Tryd.underlying56 (hval 1 56 v1 rfl rfl)
  obtain ⟨l1, hC1, hl1, ok1⟩ : ∃ l : List (S61), Kd.C k61 W A1 len1 l ∧ l.length ≤ c1 ∧ (len1 = l.length ∧ (l.length ≤ 1048576 ∧ ∀ x0_ ∈ l, ((Lit.int .i64 x0_.f0).wf = true ∧ x0_.f1.size ≤ 1048576 ∧ x0_.f2.size ≤ 1048576 ∧ (x0_.f3.length ≤ 1048576 ∧ ∀ x1_ ∈ x0_.f3, (Lit.int .u8 x1_).wf = true)))) := by
    obtain ⟨fuel, hf⟩ := h1
    obtain ⟨l, ⟨A', c', hcs, hl, hC⟩, hok⟩ := opn56.opens hf hb1
    simp [Value.cells] at hcs
    obtain ⟨rfl, rfl, rfl⟩ := hcs
    exact ⟨l, hC, hl, rfl, hok⟩
  obtain ⟨rfl, ok1⟩ := ok1
  have k2 := h2
  have lt2 : ∀ x ∈ p2, x.block < W.heap.size := by obtain ⟨m, hm⟩ := k2; exact DataW.trod_lt m _ _ _ hm
  obtain ⟨A2, len2, c2, rfl⟩ := okWide_slice Tryd.underlying78 (hval 2 78 v2 rfl rfl)
  obtain ⟨l2, hC2, hl2, ok2⟩ : ∃ l : List (Int), Kd.C (Kd.int .i64) W A2 len2 l ∧ l.length ≤ c2 ∧ (len2 = l.length ∧ (l.length ≤ 1048576 ∧ ∀ x0_ ∈ l, (Lit.int .i64 x0_).wf = true)) := by
    obtain ⟨fuel, hf⟩ := h2
    obtain ⟨l, ⟨A', c', hcs, hl, hC⟩, hok⟩ := opn78.opens hf hb2
    simp [Value.cells] at hcs
    obtain ⟨rfl, rfl, rfl⟩ := hcs
    exact ⟨l, hC, hl, rfl, hok⟩
  obtain ⟨rfl, ok2⟩ := ok2
  obtain ⟨a3, rfl, rfl, rfl, ok3⟩ := open_int Tryd.underlying3 (hval 3 3 v3 rfl rfl) h3
  clear hA0 hval0 hsz0
  refine (DiskSure_calls A0 A1 A2 c0 c1 c2 l0 l1 l2 a3 W hC0 hl0 hC1 hl1 hC2 hl2 (fun x hx => ⟨by have := (ok0.2 x hx).2.1; omega, by have := (ok0.2 x hx).2.2.1; omega, by have := (ok0.2 x hx).2.2.2.1; omega⟩) (fun x hx => ⟨by have := (ok1.2 x hx).2.1; omega, by have := (ok1.2 x hx).2.2.1; omega, by have := (ok1.2 x hx).2.2.2.1; omega⟩)).mono fun e W' ⟨he, bel0⟩ => ?_
  have bel : Below W.heap.size W W' := bel0
  subst he
  exact ⟨_, rfl, _, _, _, [], _, [], hW', trodAll_mk1 (shut_bool Tryd.underlying4 _), (trodAll_cons_mk (Below.trod laidOut (by kernel_rfl) (of_decide_eq_true (by kernel_rfl)) k0 bel lt0) (trodAll_cons_mk (Below.trod laidOut (by kernel_rfl) (of_decide_eq_true (by kernel_rfl)) k1 bel lt1) (trodAll_cons_mk (Below.trod laidOut (by kernel_rfl) (of_decide_eq_true (by kernel_rfl)) k2 bel lt2) (trodAll_cons_mk (shut_int Tryd.underlying3 ok3) trodAll_mk0)))), rfl, bel.frame _, fun h => by cases h⟩
theorem over : Rows.diskSureUptoRow.holds Tryd.pinned (Rows.OpenSpec.upto Rows.diskSureSpec) :=
  OpenClaim.holds_of_cond 12 Tryd.f12 rfl rfl rfl rfl rfl rfl rfl ⟨rfl, rfl, rfl, rfl, rfl⟩ rfl rfl rfl rfl rfl (by kernel_rfl) Tryd.func12 (by kernel_rfl)
    (of_decide_eq_true (by kernel_rfl)) (by unfold Func.isWrapper; first | (rw [if_pos (by decide +kernel)]; kernel_rfl) | (rw [if_neg (by decide +kernel)]; exact ⟨rfl, rfl⟩))
    (fun os started H enc _ F => by rw [OpenClaim.pre_eq_preRow]; exact lifted os started H enc F)
theorem plain (f : FuncId) (fn : Func) (hf : Tryd.pinned.checked.prog.funcNamed Rows.diskSureUptoRow.func = some f) (hfn : Tryd.pinned.checked.prog.funcs[f]? = some fn) :
    false = Tryd.pinned.checked.prog.looks [] ∧ ∀ (j : Nat) t, fn.params[j]? = some t → Tryd.pinned.checked.prog.wantsStandIn t = false := by
  obtain rfl : f = 12 := Option.some.inj ((show Tryd.prog.funcNamed Rows.diskSureUptoRow.func = some 12 by kernel_rfl).symm.trans hf) |>.symm
  obtain rfl : fn = Tryd.f12 := (Option.some.inj (Tryd.func12.symm.trans hfn)).symm
  refine ⟨by kernel_rfl, fun j t ht => ?_⟩
  rw [Tryd.params12] at ht
  have hm := Array.mem_of_getElem? ht
  have hm2 : t = 56 ∨ t = 78 ∨ t = 3 := by simpa using hm
  rcases hm2 with rfl | rfl | rfl
  · exact (show Tryd.prog.wantsStandIn 56 = false by kernel_rfl)
  · exact (show Tryd.prog.wantsStandIn 78 = false by kernel_rfl)
  · exact (show Tryd.prog.wantsStandIn 3 = false by kernel_rfl)
theorem card : Rows.DiskSureUptoCardSaid :=
  Claim7.holds_tied_plain_at .later [] _ _ _ _ over (fun _ h => by cases h) (by kernel_rfl) (fun _ h => by cases h) diskSureUpto_row_tie rfl ⟨rfl, rfl⟩ (by kernel_rfl) rfl plain (by kernel_rfl)
#print axioms card
end Go.Proofs.YtidlldfghkaeeaaDoor.diskSure
namespace Go.Proofs.YtidlldfghkaeeaaDoor
/-- The card, under a short name, for the claim. -/
theorem diskSure_holds : Rows.DiskSureUptoCardSaid := diskSure.card
end Go.Proofs.YtidlldfghkaeeaaDoor
