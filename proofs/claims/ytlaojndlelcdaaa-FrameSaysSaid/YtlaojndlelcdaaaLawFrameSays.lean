/- Written by pp.py, a program of this session over the printer of the kit: what the functions of the program compute, and that they do so; of a law: its row, without a condition. -/
import Derived.Test.YtlaojndlelcdaaaRows
import Derived.Test.YtlaojndlelcdaaaPx22
import Derived.Test.YtlaojndlelcdaaaPureFrameSays
import Derived.Test.YtlaojndlelcdaaaOpens
import Derived.WalkKit
import Derived.ProofKit
import Derived.OpenShut
import Derived.ShutString
import Derived.ChangeOld
import Derived.Below
import Derived.SizedLaws
import Derived.Lib.SmallJoins
namespace Go.Proofs.Ytlaojndlelcdaaa.frameSays
open Go.ChangeShapes Go.WideShapes Go.ChangeAt Go.RowKit Go.Proofs.YtlaojndlelcdaaaW.PrintWords Go.Proofs.Ytlaojndlelcdaaa.P
open Go.ChangeMaps (open_string shut_string)
set_option linter.unusedVariables false
set_option linter.unusedSimpArgs false
theorem own : ownKnob Try.prog.godebug = none := by kernel_rfl
theorem laidOut : laidOutB Try.prog = true := by kernel_rfl
theorem opn4 : Opn Try.prog 4 Kd.bool (fun x => True) := Opn.bool Try.underlying4 (by kernel_rfl)
theorem opn26 : Opn Try.prog 26 (Kd.int .u64) (fun x => (Lit.int .u64 x).wf = true) := Opn.int Try.underlying26 (by kernel_rfl)
theorem opn5 : Opn Try.prog 5 (Kd.int .u8) (fun x => (Lit.int .u8 x).wf = true) := Opn.int Try.underlying5 (by kernel_rfl)
theorem opn24 : Opn Try.prog 24 (Kd.slice 5 (Kd.int .u8)) (fun x => (x.length ≤ maxLen ∧ ∀ x0_ ∈ x, (Lit.int .u8 x0_).wf = true)) := Opn.slice Try.underlying24 (by kernel_rfl) opn5
theorem opn69 : Opn Try.prog 69 k69 (fun x => (True ∧ (Lit.int .u64 x.f1).wf = true ∧ (x.f2.length ≤ maxLen ∧ ∀ x0_ ∈ x.f2, (Lit.int .u8 x0_).wf = true))) := by
  refine ⟨by kernel_rfl, fun {H enc W base spare held fuel cs x} hf => ?_⟩
  obtain ⟨xs, n, _, _, hl, hn, hx⟩ := DataW.trod_struct Try.underlying69 hf
  have hl' : cs.length = 3 := hl.trans (by kernel_rfl)
  have g0 : DataW.trod enc Try.prog W base spare held n 4 ((cs.drop 0).take (Try.prog.cellsOf 4)) = xs[0]? := hx 0 _ rfl
  rw [show Try.prog.cellsOf 4 = 1 from by kernel_rfl, List.getElem?_eq_getElem (show 0 < xs.length by rw [hn]; decide)] at g0
  obtain ⟨y0, q0, r0⟩ := opn4.opens g0
  have g1 : DataW.trod enc Try.prog W base spare held n 26 ((cs.drop 1).take (Try.prog.cellsOf 26)) = xs[1]? := hx 1 _ rfl
  rw [show Try.prog.cellsOf 26 = 1 from by kernel_rfl, List.getElem?_eq_getElem (show 1 < xs.length by rw [hn]; decide)] at g1
  obtain ⟨y1, q1, r1⟩ := opn26.opens g1
  have g2 : DataW.trod enc Try.prog W base spare held n 24 ((cs.drop 2).take (Try.prog.cellsOf 24)) = xs[2]? := hx 2 _ rfl
  rw [show Try.prog.cellsOf 24 = 1 from by kernel_rfl, List.getElem?_eq_getElem (show 2 < xs.length by rw [hn]; decide)] at g2
  obtain ⟨y2, q2, r2⟩ := opn24.opens g2
  exact ⟨⟨y0, y1, y2⟩, (show (k69).K W ⟨y0, y1, y2⟩ (cs.drop 0) from (pairK (o := 0) (s := 1) rfl q0 (pairK (o := 1) (s := 1) rfl q1 (lastK (o := 2) (s := 1) q2 hl')))), r0, r1, r2⟩
set_option maxRecDepth 100000 in
theorem lifted (os : Os) (started : os.Started) (H : Type) (enc : TypeId × Value → H) :
    ReturnsInHanded {} Try.checked os 14 .any (Rows.frameSaysSpec.pre6 enc Try.prog Try.f14 Rows.frameSaysRow.domain false) (Rows.frameSaysSpec.post enc Try.prog Try.f14 false true false false) := by
  refine returnsInHanded_of_change_sized (C := Try.checked) own started (by kernel_rfl) Try.func14
    (ChangeSpec.witness6 (enc := enc) (C := Try.checked) false ⟨#[], #[.agg #[.bool false, .int .u64 0, .slice none 0 0], .slice none 0 0], []⟩ 8 (by kernel_rfl) (by kernel_rfl) (by kernel_rfl) (by kernel_rfl)) ?_
  intro W base args ds gs before hval0 hW hcnd hsz0 _
  have hval : ∀ (j : Nat) t v, Try.f14.params[j]? = some t → args[j]? = some v → Value.okWide Try.prog W .any base t v := hval0
  have hW' := hW
  obtain ⟨p, q, hA0, hV, rfl, hfz, hnd⟩ := hW
  have hA : DataW.TrodAll enc Try.prog W 0 (fun _ => true) true Try.f14.params.toList args.toList ds p := hA0
  rw [Try.params14] at hA hval
  obtain ⟨v0, vs0, d0, ds0, p0, q0, hargs, rfl, rfl, h0, r0⟩ := trodAll_cons hA
  obtain ⟨v1, vs1, d1, ds1, p1, q1, rfl, rfl, rfl, h1, r1⟩ := trodAll_cons r0
  obtain ⟨rfl, rfl, rfl⟩ := trodAll_nil r1
  obtain rfl : args = #[v0, v1] := by cases args; simp_all
  obtain ⟨rfl, rfl⟩ := trodVars_none hV
  have k0 := h0
  have lt0 : ∀ x ∈ p0, x.block < W.heap.size := by obtain ⟨m, hm⟩ := k0; exact DataW.trod_lt m _ _ _ hm
  obtain ⟨cs0, rfl, hsz0⟩ := okWide_struct Try.underlying69 (hval 0 69 v0 rfl rfl)
  obtain ⟨fuel0, hf0⟩ := h0
  obtain ⟨⟨x0_0, x0_1, x0_2⟩, hK0, ok0⟩ := opn69.opens hf0
  obtain ⟨_, _, e0, rfl, ⟨_, _, rfl, rfl, ⟨A0_2, c0_2, rfl, hl0_2, hC0_2⟩⟩⟩ := hK0
  obtain rfl : cs0 = #[.bool x0_0, .int .u64 x0_1, .slice A0_2 x0_2.length c0_2] := by cases cs0; simpa [Value.cells] using e0
  obtain ⟨ok0_0, ok0_1, ok0_2⟩ := ok0
  have k1 := h1
  have lt1 : ∀ x ∈ p1, x.block < W.heap.size := by obtain ⟨m, hm⟩ := k1; exact DataW.trod_lt m _ _ _ hm
  obtain ⟨A1, len1, c1, rfl⟩ := okWide_slice Try.underlying24 (hval 1 24 v1 rfl rfl)
  obtain ⟨l1, hC1, hl1, ok1⟩ : ∃ l : List Int, Kd.C (Kd.int .u8) W A1 len1 l ∧ l.length ≤ c1 ∧ (len1 = l.length ∧ (l.length ≤ maxLen ∧ ∀ x0_ ∈ l, (Lit.int .u8 x0_).wf = true)) := by
    obtain ⟨fuel, hf⟩ := h1
    obtain ⟨l, ⟨A', c', hcs, hl, hC⟩, hok⟩ := opn24.opens hf
    simp [Value.cells] at hcs
    obtain ⟨rfl, rfl, rfl⟩ := hcs
    exact ⟨l, hC, hl, rfl, hok⟩
  obtain ⟨rfl, ok1⟩ := ok1
  clear hA0 hval0 hsz0
  obtain ⟨k, hP⟩ := Pure.FrameSays x0_0 x0_1 x0_2 l1 ok0_1 ok0_2 ok1
  refine (tallymanlaw20_FrameSays.calls k x0_0 x0_1 _ _ x0_2 _ _ l1 true W hC0_2 hl0_2 hC1 hl1 hP rfl).mono fun e W' ⟨he, bel0⟩ => ?_
  have bel : Below W.heap.size W W' := bel0
  subst he
  exact ⟨_, rfl, _, _, _, [], _, [], hW', trodAll_mk1 (shut_bool Try.underlying4 _), (trodAll_cons_mk (Below.trod laidOut (by kernel_rfl) (of_decide_eq_true (by kernel_rfl)) k0 bel lt0) (trodAll_cons_mk (Below.trod laidOut (by kernel_rfl) (of_decide_eq_true (by kernel_rfl)) k1 bel lt1) trodAll_mk0)), rfl, bel.frame _, fun h => by cases h⟩
theorem over : Rows.frameSaysRow.holds Try.pinned (OpenSpec.ofChange Rows.frameSaysSpec) :=
  OpenClaim.holds_of_wide 14 Try.f14 rfl rfl rfl rfl rfl rfl rfl ⟨rfl, rfl, rfl, rfl, rfl⟩ rfl rfl rfl rfl rfl (by kernel_rfl) Try.func14 (by kernel_rfl)
    (of_decide_eq_true (by kernel_rfl)) (by unfold Func.isWrapper; first | (rw [if_pos (by decide +kernel)]; kernel_rfl) | (rw [if_neg (by decide +kernel)]; exact ⟨rfl, rfl⟩))
    (fun os started H enc _ => lifted os started H enc)
theorem proved : Rows.FrameSaysSaid := over
#print axioms proved
end Go.Proofs.Ytlaojndlelcdaaa.frameSays
namespace Go.Proofs.Ytlaojndlelcdaaa
/-- The row, under a short name, for the claim. -/
theorem frameSays_holds : Rows.FrameSaysSaid := frameSays.proved
end Go.Proofs.Ytlaojndlelcdaaa
