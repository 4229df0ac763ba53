/- NetPlays: its row: true whatever the input, without a condition. -/
import Derived.Test.YtlaojndlelcdaaaRows
import Derived.Test.YtlaojndlelcdaaaNetP
import Derived.Test.YtlaojndlelcdaaaOpens
import Derived.WalkKit
import Derived.ProofKit
import Derived.OpenShut
import Derived.ShutString
import Derived.ChangeOld
import Derived.Below
import Derived.SizedLaws
import Derived.Lib.SmallJoins
namespace Go.Proofs.Ytlaojndlelcdaaa.netPlays
open Go.ChangeShapes Go.WideShapes Go.ChangeAt Go.RowKit Go.Proofs.YtlaojndlelcdaaaW.PrintWords
open Go.ChangeMaps (open_string shut_string)
set_option linter.unusedVariables false
set_option linter.unusedSimpArgs false
theorem u8b {x : Int} (h : (Lit.int .u8 x).wf = true) : 0 ≤ x ∧ x < 256 := by
  simp [Lit.wf, IntKind.min, IntKind.max, IntKind.signed, IntKind.bits] at h
  exact ⟨h.1, by omega⟩
theorem own : ownKnob Try.prog.godebug = none := by kernel_rfl
theorem laidOut : laidOutB Try.prog = true := by kernel_rfl
theorem opn3 : Opn Try.prog 3 (Kd.int .i64) (fun x => (Lit.int .i64 x).wf = true) := Opn.int Try.underlying3 (by kernel_rfl)
theorem opn4 : Opn Try.prog 4 Kd.bool (fun x => True) := Opn.bool Try.underlying4 (by kernel_rfl)
theorem opn5 : Opn Try.prog 5 (Kd.int .u8) (fun x => (Lit.int .u8 x).wf = true) := Opn.int Try.underlying5 (by kernel_rfl)
theorem opn24 : Opn Try.prog 24 (Kd.slice 5 (Kd.int .u8)) (fun x => (x.length ≤ maxLen ∧ ∀ x0_ ∈ x, (Lit.int .u8 x0_).wf = true)) := Opn.slice Try.underlying24 (by kernel_rfl) opn5
theorem opn52 : Opn Try.prog 52 (Kd.pair (Kd.int .i64) (Kd.pair (Kd.int .i64) (Kd.pair (Kd.int .i64) (Kd.pair (Kd.int .i64) (Kd.pair (Kd.int .u8) (Kd.slice 5 (Kd.int .u8))))))) (fun x => (Lit.int .u8 x.2.2.2.2.1).wf = true ∧ ∀ x0_ ∈ x.2.2.2.2.2, (Lit.int .u8 x0_).wf = true) := by
  refine ⟨by kernel_rfl, fun {H enc W base spare held fuel cs x} hf => ?_⟩
  obtain ⟨xs, n, _, _, hl, hn, hx⟩ := DataW.trod_struct Try.underlying52 hf
  have hl' : cs.length = 6 := hl.trans (by kernel_rfl)
  have g0 : DataW.trod enc Try.prog W base spare held n 3 ((cs.drop 0).take (Try.prog.cellsOf 3)) = xs[0]? := hx 0 _ rfl
  rw [show Try.prog.cellsOf 3 = 1 from by kernel_rfl, List.getElem?_eq_getElem (show 0 < xs.length by rw [hn]; decide)] at g0
  obtain ⟨y0, q0, r0⟩ := opn3.opens g0
  have g1 : DataW.trod enc Try.prog W base spare held n 3 ((cs.drop 1).take (Try.prog.cellsOf 3)) = xs[1]? := hx 1 _ rfl
  rw [show Try.prog.cellsOf 3 = 1 from by kernel_rfl, List.getElem?_eq_getElem (show 1 < xs.length by rw [hn]; decide)] at g1
  obtain ⟨y1, q1, r1⟩ := opn3.opens g1
  have g2 : DataW.trod enc Try.prog W base spare held n 3 ((cs.drop 2).take (Try.prog.cellsOf 3)) = xs[2]? := hx 2 _ rfl
  rw [show Try.prog.cellsOf 3 = 1 from by kernel_rfl, List.getElem?_eq_getElem (show 2 < xs.length by rw [hn]; decide)] at g2
  obtain ⟨y2, q2, r2⟩ := opn3.opens g2
  have g3 : DataW.trod enc Try.prog W base spare held n 3 ((cs.drop 3).take (Try.prog.cellsOf 3)) = xs[3]? := hx 3 _ rfl
  rw [show Try.prog.cellsOf 3 = 1 from by kernel_rfl, List.getElem?_eq_getElem (show 3 < xs.length by rw [hn]; decide)] at g3
  obtain ⟨y3, q3, r3⟩ := opn3.opens g3
  have g4 : DataW.trod enc Try.prog W base spare held n 5 ((cs.drop 4).take (Try.prog.cellsOf 5)) = xs[4]? := hx 4 _ rfl
  rw [show Try.prog.cellsOf 5 = 1 from by kernel_rfl, List.getElem?_eq_getElem (show 4 < xs.length by rw [hn]; decide)] at g4
  obtain ⟨y4, q4, r4⟩ := opn5.opens g4
  have g5 : DataW.trod enc Try.prog W base spare held n 24 ((cs.drop 5).take (Try.prog.cellsOf 24)) = xs[5]? := hx 5 _ rfl
  rw [show Try.prog.cellsOf 24 = 1 from by kernel_rfl, List.getElem?_eq_getElem (show 5 < xs.length by rw [hn]; decide)] at g5
  obtain ⟨y5, q5, r5⟩ := opn24.opens g5
  exact ⟨(y0, y1, y2, y3, y4, y5), (show (Kd.pair (Kd.int .i64) (Kd.pair (Kd.int .i64) (Kd.pair (Kd.int .i64) (Kd.pair (Kd.int .i64) (Kd.pair (Kd.int .u8) (Kd.slice 5 (Kd.int .u8))))))).K W (y0, y1, y2, y3, y4, y5) (cs.drop 0) from (pairK (o := 0) (s := 1) rfl q0 (pairK (o := 1) (s := 1) rfl q1 (pairK (o := 2) (s := 1) rfl q2 (pairK (o := 3) (s := 1) rfl q3 (pairK (o := 4) (s := 1) rfl q4 (lastK (o := 5) (s := 1) q5 hl'))))))), ⟨r4, r5.2⟩⟩
theorem opn66 : Opn Try.prog 66 (Kd.pair Kd.bool (Kd.pair (Kd.int .i64) (Kd.pair (Kd.int .i64) (Kd.pair (Kd.int .i64) (Kd.pair (Kd.int .i64) (Kd.pair (Kd.int .u8) (Kd.slice 5 (Kd.int .u8)))))))) (fun x => (Lit.int .u8 x.2.2.2.2.2.1).wf = true ∧ ∀ x0_ ∈ x.2.2.2.2.2.2, (Lit.int .u8 x0_).wf = true) := by
  refine ⟨by kernel_rfl, fun {H enc W base spare held fuel cs x} hf => ?_⟩
  obtain ⟨xs, n, _, _, hl, hn, hx⟩ := DataW.trod_struct Try.underlying66 hf
  have hl' : cs.length = 7 := hl.trans (by kernel_rfl)
  have g0 : DataW.trod enc Try.prog W base spare held n 4 ((cs.drop 0).take (Try.prog.cellsOf 4)) = xs[0]? := hx 0 _ rfl
  rw [show Try.prog.cellsOf 4 = 1 from by kernel_rfl, List.getElem?_eq_getElem (show 0 < xs.length by rw [hn]; decide)] at g0
  obtain ⟨y0, q0, r0⟩ := opn4.opens g0
  have g1 : DataW.trod enc Try.prog W base spare held n 52 ((cs.drop 1).take (Try.prog.cellsOf 52)) = xs[1]? := hx 1 _ rfl
  rw [show Try.prog.cellsOf 52 = 6 from by kernel_rfl, List.getElem?_eq_getElem (show 1 < xs.length by rw [hn]; decide)] at g1
  obtain ⟨y1, q1, r1⟩ := opn52.opens g1
  exact ⟨(y0, y1), (show (Kd.pair Kd.bool (Kd.pair (Kd.int .i64) (Kd.pair (Kd.int .i64) (Kd.pair (Kd.int .i64) (Kd.pair (Kd.int .i64) (Kd.pair (Kd.int .u8) (Kd.slice 5 (Kd.int .u8)))))))).K W (y0, y1) (cs.drop 0) from (pairK (o := 0) (s := 1) rfl q0 (lastK (o := 1) (s := 6) q1 hl'))), r1⟩
theorem opn66b : Opn Try.prog 66 Nets.k66 (fun x => (Lit.int .u8 x.y).wf = true ∧ ∀ x0_ ∈ x.b, (Lit.int .u8 x0_).wf = true) :=
  ⟨opn66.sz, fun hf => by
    obtain ⟨⟨s, o, t, i, a, y, b⟩, h1, h2⟩ := opn66.opens hf
    exact ⟨⟨s, o, t, i, a, y, b⟩, h1, h2⟩⟩
theorem opn61 : Opn Try.prog 61 (Kd.slice 66 Nets.k66) (fun x => (x.length ≤ maxLen ∧ ∀ x1_ ∈ x, (Lit.int .u8 x1_.y).wf = true ∧ ∀ x0_ ∈ x1_.b, (Lit.int .u8 x0_).wf = true)) := Opn.slice Try.underlying61 (by kernel_rfl) opn66b
set_option maxRecDepth 100000 in
theorem lifted (os : Os) (started : os.Started) (H : Type) (enc : TypeId × Value → H) :
    ReturnsInHanded {} Try.checked os 12 .any (Rows.netPlaysSpec.pre6 enc Try.prog Try.f12 Rows.netPlaysRow.domain false) (Rows.netPlaysSpec.post enc Try.prog Try.f12 false true false false) := by
  refine returnsInHanded_of_change_sized (C := Try.checked) own started (by kernel_rfl) Try.func12
    (ChangeSpec.witness6 (enc := enc) (C := Try.checked) false ⟨#[], #[.slice none 0 0], []⟩ 8 (by kernel_rfl) (by kernel_rfl) (by kernel_rfl) (by kernel_rfl)) ?_
  intro W base args ds gs before hval0 hW hcnd hsz0 _
  have hval : ∀ (j : Nat) t v, Try.f12.params[j]? = some t → args[j]? = some v → Value.okWide Try.prog W .any base t v := hval0
  have hW' := hW
  obtain ⟨p, q, hA0, hV, rfl, hfz, hnd⟩ := hW
  have hA : DataW.TrodAll enc Try.prog W 0 (fun _ => true) true Try.f12.params.toList args.toList ds p := hA0
  rw [Try.params12] at hA hval
  obtain ⟨v0, vs0, d0, ds0, p0, q0, hargs, rfl, rfl, h0, r0⟩ := trodAll_cons hA
  obtain ⟨rfl, rfl, rfl⟩ := trodAll_nil r0
  obtain rfl : args = #[v0] := by cases args; simp_all
  obtain ⟨rfl, rfl⟩ := trodVars_none hV
  have k0 := h0
  have lt0 : ∀ x ∈ p0, x.block < W.heap.size := by obtain ⟨m, hm⟩ := k0; exact DataW.trod_lt m _ _ _ hm
  obtain ⟨A0, len0, c0, rfl⟩ := okWide_slice Try.underlying61 (hval 0 61 v0 rfl rfl)
  obtain ⟨l0, hC0, hl0, ok0⟩ : ∃ l : List Nets.S66, Kd.C Nets.k66 W A0 len0 l ∧ l.length ≤ c0 ∧ (len0 = l.length ∧ (l.length ≤ maxLen ∧ ∀ x1_ ∈ l, (Lit.int .u8 x1_.y).wf = true ∧ ∀ x0_ ∈ x1_.b, (Lit.int .u8 x0_).wf = true)) := by
    obtain ⟨fuel, hf⟩ := h0
    obtain ⟨l, ⟨A', c', hcs, hl, hC⟩, hok⟩ := opn61.opens hf
    simp [Value.cells] at hcs
    obtain ⟨rfl, rfl, rfl⟩ := hcs
    exact ⟨l, hC, hl, rfl, hok⟩
  obtain ⟨rfl, ok0⟩ := ok0
  clear hA0 hval0 hsz0
  refine (Nets.NetPlays_calls A0 c0 l0 W hC0 hl0 (fun x hx => ⟨u8b (ok0.2 x hx).1, fun b hb => u8b ((ok0.2 x hx).2 b hb)⟩)).mono fun e W' ⟨he, bel⟩ => ?_
  subst he
  exact ⟨_, rfl, _, _, _, [], _, [], hW', trodAll_mk1 (shut_bool Try.underlying4 _), (trodAll_cons_mk (Below.trod laidOut (by kernel_rfl) (of_decide_eq_true (by kernel_rfl)) k0 bel lt0) trodAll_mk0), rfl, bel.frame _, fun h => by cases h⟩
theorem over : Rows.netPlaysRow.holds Try.pinned (OpenSpec.ofChange Rows.netPlaysSpec) :=
  OpenClaim.holds_of_wide 12 Try.f12 rfl rfl rfl rfl rfl rfl rfl ⟨rfl, rfl, rfl, rfl, rfl⟩ rfl rfl rfl rfl rfl (by kernel_rfl) Try.func12 (by kernel_rfl)
    (of_decide_eq_true (by kernel_rfl)) (by unfold Func.isWrapper; first | (rw [if_pos (by decide +kernel)]; kernel_rfl) | (rw [if_neg (by decide +kernel)]; exact ⟨rfl, rfl⟩))
    (fun os started H enc _ => lifted os started H enc)
theorem proved : Rows.NetPlaysSaid := over
#print axioms proved
end Go.Proofs.Ytlaojndlelcdaaa.netPlays
namespace Go.Proofs.Ytlaojndlelcdaaa
/-- The row, under a short name, for the claim. -/
theorem netPlays_holds : Rows.NetPlaysSaid := netPlays.proved
end Go.Proofs.Ytlaojndlelcdaaa
