/- NetRow: its row: true whatever the input, without a condition. -/
import Derived.Test.YtlaojndlelcdaaaRows
import Derived.Test.YtlaojndlelcdaaaNetW
import Derived.Test.YtlaojndlelcdaaaOpens
import Derived.Test.YtlaojndlelcdaaaOpenS
import Derived.WalkKit
import Derived.ProofKit
import Derived.OpenShut
import Derived.ShutString
import Derived.ChangeOld
import Derived.Below
import Derived.SizedLaws
import Derived.Lib.SmallJoins
namespace Go.Proofs.Ytlaojndlelcdaaa.netRow
open Go.ChangeShapes Go.WideShapes Go.ChangeAt Go.RowKit Go.Proofs.YtlaojndlelcdaaaW.PrintWords
open Go.ChangeMaps (open_string shut_string)
set_option linter.unusedVariables false
set_option linter.unusedSimpArgs false
theorem own : ownKnob Try.prog.godebug = none := by kernel_rfl
theorem laidOut : laidOutB Try.prog = true := by kernel_rfl
theorem opn5 : Opn Try.prog 5 (Kd.int .u8) (fun x => (Lit.int .u8 x).wf = true) := Opn.int Try.underlying5 (by kernel_rfl)
theorem opnS24 : OpnS Try.prog 24 (Kd.slice 5 (Kd.int .u8)) (fun x => x.length * Try.prog.bytesOf 5 ≤ 140737488351232 ∧ x.length ≤ maxLen ∧ ∀ x0_ ∈ x, (Lit.int .u8 x0_).wf = true) := OpnS.slice Try.underlying24 (by kernel_rfl) opn5.S
theorem opnS35 : OpnS Try.prog 35 (Kd.slice 24 (Kd.slice 5 (Kd.int .u8))) (fun x => x.length * Try.prog.bytesOf 24 ≤ 140737488351232 ∧ x.length ≤ maxLen ∧ ∀ y ∈ x, y.length * Try.prog.bytesOf 5 ≤ 140737488351232 ∧ y.length ≤ maxLen ∧ ∀ x0_ ∈ y, (Lit.int .u8 x0_).wf = true) := OpnS.slice Try.underlying35 (by kernel_rfl) opnS24
theorem bytes5 : Try.prog.bytesOf 5 = 1 := by kernel_rfl
theorem small {l : List (List Int)} (h : l.length * Try.prog.bytesOf 24 ≤ 140737488351232 ∧ l.length ≤ maxLen ∧ ∀ y ∈ l, y.length * Try.prog.bytesOf 5 ≤ 140737488351232 ∧ y.length ≤ maxLen ∧ ∀ x0_ ∈ y, (Lit.int .u8 x0_).wf = true) : ∀ x ∈ l, x.length < 140737488355328 := fun x hx => by
  have h1 := (h.2.2 x hx).1
  rw [bytes5] at h1
  omega
set_option maxRecDepth 100000 in
theorem lifted (os : Os) (started : os.Started) (H : Type) (enc : TypeId × Value → H) :
    ReturnsInHanded {} Try.checked os 9 .any (Rows.netRowSpec.pre6 enc Try.prog Try.f9 Rows.netRowRow.domain false) (Rows.netRowSpec.post enc Try.prog Try.f9 false true false false) := by
  refine returnsInHanded_of_change_sized (C := Try.checked) own started (by kernel_rfl) Try.func9
    (ChangeSpec.witness6 (enc := enc) (C := Try.checked) false ⟨#[], #[.slice none 0 0, .slice none 0 0, .int .i64 0], []⟩ 8 (by kernel_rfl) (by kernel_rfl) (by kernel_rfl) (by kernel_rfl)) ?_
  intro W base args ds gs before hval0 hW hcnd hsz0 _
  have hval : ∀ (j : Nat) t v, Try.f9.params[j]? = some t → args[j]? = some v → Value.okWide Try.prog W .any base t v := hval0
  have hW' := hW
  obtain ⟨p, q, hA0, hV, rfl, hfz, hnd⟩ := hW
  have hA : DataW.TrodAll enc Try.prog W 0 (fun _ => true) true Try.f9.params.toList args.toList ds p := hA0
  rw [Try.params9] at hA hval
  have hsz : (DataW.weightsEach Try.prog (Try.f9.params.toList ++ Rows.netRowSpec.plain.varTypes Try.prog) (ds ++ gs)).all (· ≤ reachBytes) = true := hsz0
  rw [Try.params9] at hsz
  obtain ⟨v0, vs0, d0, ds0, p0, q0, hargs, rfl, rfl, h0, r0⟩ := trodAll_cons hA
  obtain ⟨v1, vs1, d1, ds1, p1, q1, rfl, rfl, rfl, h1, r1⟩ := trodAll_cons r0
  obtain ⟨v2, vs2, d2, ds2, p2, q2, rfl, rfl, rfl, h2, r2⟩ := trodAll_cons r1
  obtain ⟨rfl, rfl, rfl⟩ := trodAll_nil r2
  obtain rfl : args = #[v0, v1, v2] := by cases args; simp_all
  obtain ⟨rfl, rfl⟩ := trodVars_none hV
  have k0 := h0
  have lt0 : ∀ x ∈ p0, x.block < W.heap.size := by obtain ⟨m, hm⟩ := k0; exact DataW.trod_lt m _ _ _ hm
  obtain ⟨A0, len0, c0, rfl⟩ := okWide_slice Try.underlying35 (hval 0 35 v0 rfl rfl)
  obtain ⟨l0, hC0, hl0, ok0⟩ : ∃ l : List (List Int), Kd.C (Kd.slice 5 (Kd.int .u8)) W A0 len0 l ∧ l.length ≤ c0 ∧ (len0 = l.length ∧ (l.length * Try.prog.bytesOf 24 ≤ 140737488351232 ∧ l.length ≤ maxLen ∧ ∀ y ∈ l, y.length * Try.prog.bytesOf 5 ≤ 140737488351232 ∧ y.length ≤ maxLen ∧ ∀ x0_ ∈ y, (Lit.int .u8 x0_).wf = true)) := by
    obtain ⟨fuel, hf⟩ := h0
    obtain ⟨l, ⟨A', c', hcs, hl, hC⟩, hok⟩ := opnS35.opens hf (fun n hn => of_decide_eq_true (List.all_eq_true.1 hsz _ (DataW.weights_mem_each (j := 0) (t := 35) rfl rfl n hn)))
    simp [Value.cells] at hcs
    obtain ⟨rfl, rfl, rfl⟩ := hcs
    exact ⟨l, hC, hl, rfl, hok⟩
  obtain ⟨rfl, ok0⟩ := ok0
  have k1 := h1
  have lt1 : ∀ x ∈ p1, x.block < W.heap.size := by obtain ⟨m, hm⟩ := k1; exact DataW.trod_lt m _ _ _ hm
  obtain ⟨A1, len1, c1, rfl⟩ := okWide_slice Try.underlying35 (hval 1 35 v1 rfl rfl)
  obtain ⟨l1, hC1, hl1, ok1⟩ : ∃ l : List (List Int), Kd.C (Kd.slice 5 (Kd.int .u8)) W A1 len1 l ∧ l.length ≤ c1 ∧ (len1 = l.length ∧ (l.length * Try.prog.bytesOf 24 ≤ 140737488351232 ∧ l.length ≤ maxLen ∧ ∀ y ∈ l, y.length * Try.prog.bytesOf 5 ≤ 140737488351232 ∧ y.length ≤ maxLen ∧ ∀ x0_ ∈ y, (Lit.int .u8 x0_).wf = true)) := by
    obtain ⟨fuel, hf⟩ := h1
    obtain ⟨l, ⟨A', c', hcs, hl, hC⟩, hok⟩ := opnS35.opens hf (fun n hn => of_decide_eq_true (List.all_eq_true.1 hsz _ (DataW.weights_mem_each (j := 1) (t := 35) rfl rfl n hn)))
    simp [Value.cells] at hcs
    obtain ⟨rfl, rfl, rfl⟩ := hcs
    exact ⟨l, hC, hl, rfl, hok⟩
  obtain ⟨rfl, ok1⟩ := ok1
  obtain ⟨a2, rfl, rfl, rfl, ok2⟩ := open_int Try.underlying3 (hval 2 3 v2 rfl rfl) h2
  clear hA0 hval0 hsz0 hsz
  refine (Nets.NetRow_calls A0 A1 c0 c1 l0 l1 a2 W hC0 hC1 (small ok0) (small ok1)).mono fun e W' ⟨he, bel⟩ => ?_
  subst he
  exact ⟨_, rfl, _, _, _, [], _, [], hW', trodAll_mk1 (shut_bool Try.underlying4 _), (trodAll_cons_mk (Below.trod laidOut (by kernel_rfl) (of_decide_eq_true (by kernel_rfl)) k0 bel lt0) (trodAll_cons_mk (Below.trod laidOut (by kernel_rfl) (of_decide_eq_true (by kernel_rfl)) k1 bel lt1) (trodAll_cons_mk (shut_int Try.underlying3 ok2) trodAll_mk0))), rfl, bel.frame _, fun h => by cases h⟩
theorem over : Rows.netRowRow.holds Try.pinned (OpenSpec.ofChange Rows.netRowSpec) :=
  OpenClaim.holds_of_wide 9 Try.f9 rfl rfl rfl rfl rfl rfl rfl ⟨rfl, rfl, rfl, rfl, rfl⟩ rfl rfl rfl rfl rfl (by kernel_rfl) Try.func9 (by kernel_rfl)
    (of_decide_eq_true (by kernel_rfl)) (by unfold Func.isWrapper; first | (rw [if_pos (by decide +kernel)]; kernel_rfl) | (rw [if_neg (by decide +kernel)]; exact ⟨rfl, rfl⟩))
    (fun os started H enc _ => lifted os started H enc)
theorem proved : Rows.NetRowSaid := over
#print axioms proved
end Go.Proofs.Ytlaojndlelcdaaa.netRow
namespace Go.Proofs.Ytlaojndlelcdaaa
/-- The row, under a short name, for the claim. -/
theorem netRow_holds : Rows.NetRowSaid := netRow.proved
end Go.Proofs.Ytlaojndlelcdaaa
