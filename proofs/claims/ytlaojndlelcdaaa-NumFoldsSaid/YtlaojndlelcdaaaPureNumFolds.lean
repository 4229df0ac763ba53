/- NumFolds is true of every two numbers: folded and opened it is as it was; those near nought are short. No condition. -/
import Derived.Test.YtlaojndlelcdaaaPx2
import Derived.Test.YtlaojndlelcdaaaFold
namespace Go.Proofs.Ytlaojndlelcdaaa.Pure
open Go.RowKit Go.Proofs.Ytlaojndlelcdaaa.P Go.Proofs.YtlaojndlelcdaaaW.PrintWords Go.Proofs.YtlaojndlelcdaaaW.PrintLast Go.Proofs.YtlaojndlelcdaaaW.PrintMore
set_option linter.unusedVariables false
set_option linter.unusedSimpArgs false

theorem NumFolds : tallymanlaw4_NumFolds.Pure := by
  intro v w hv hw
  obtain ⟨v0, v1⟩ := wf_i64 hv
  obtain ⟨w0, w1⟩ := wf_u64 hw
  refine ⟨40, ?_⟩
  simp only [tallymanlaw4_NumFolds.f]
  obtain ⟨f0, f1⟩ := fold_range v v0 v1
  obtain ⟨u0, u1⟩ := unfold_range w w0 w1
  rw [awake_ok 40 (by omega), Option.bind_some, if_pos rfl, fold_eq v v0 v1, Option.bind_some, open_eq _ f0 f1, Option.bind_some, unfold_fold, if_pos rfl, open_eq w w0 w1, Option.bind_some, fold_eq _ u0 u1, Option.bind_some, fold_unfold w w0, if_pos rfl]
  by_cases a : v < -64
  · rw [if_pos a]
  · rw [if_neg a]
    by_cases b : v > 63
    · rw [if_pos b]
    · rw [if_neg b, Option.bind_some, size_eq _ 40 f0 f1 (by omega), Option.bind_some]
      have hs : fold v ≤ 127 := by unfold fold; split <;> omega
      have : enc 9 (fold v) = [fold v] := by rw [enc, if_neg (by omega)]
      rw [this]
      rfl
end Go.Proofs.Ytlaojndlelcdaaa.Pure
