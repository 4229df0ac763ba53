/- FrameAny is true of all bytes: they are a frame, or none; what is read is written as they are. No condition. -/
import Derived.Test.YtlaojndlelcdaaaPx15
import Derived.Test.YtlaojndlelcdaaaFrAwake
namespace Go.Proofs.Ytlaojndlelcdaaa.Pure
open Go.RowKit Go.Proofs.Ytlaojndlelcdaaa.P Go.Proofs.YtlaojndlelcdaaaW.PrintWords Go.Proofs.YtlaojndlelcdaaaW.PrintLast Go.Proofs.YtlaojndlelcdaaaW.PrintMore
set_option linter.unusedVariables false
set_option linter.unusedSimpArgs false

theorem FrameAny : tallymanlaw20_FrameAny.Pure := by
  intro b _ _ hb
  have hbb : Bytes b := fun x hx => wf_u8 (hb x hx)
  refine ⟨1400000, ?_⟩
  simp only [tallymanlaw20_FrameAny.f]
  rw [awake20_ok _ (by omega), Option.bind_some, if_pos rfl]
  by_cases c : (b.length : Int) > 2000
  · rw [if_pos c]
  · rw [if_neg c, getF_eq b hbb (by omega) _ (by omega), Option.bind_some]
    cases h : getF b with
    | none =>
      dsimp only
      rw [if_neg (by omega), if_pos rfl, if_pos (by simp)]
    | some f =>
      obtain ⟨g1, g2, g3⟩ := put_getF b hbb f h
      dsimp only
      rw [if_pos rfl, good_eq, Option.bind_some, g1, if_pos rfl, putF_eq f _ (by omega), Option.bind_some, g2]
      simp
end Go.Proofs.Ytlaojndlelcdaaa.Pure
