/- FrameSays is true of every frame and all bytes: frame does just as the chapter says, as its own reference has it. No condition. -/
import Derived.Test.YtlaojndlelcdaaaPx19
import Derived.Test.YtlaojndlelcdaaaPx21
import Derived.Test.YtlaojndlelcdaaaPx22
import Derived.Test.YtlaojndlelcdaaaRefFrame
namespace Go.Proofs.Ytlaojndlelcdaaa.Pure
open Go.RowKit Go.Proofs.Ytlaojndlelcdaaa.P Go.Proofs.YtlaojndlelcdaaaW.PrintWords Go.Proofs.YtlaojndlelcdaaaW.PrintLast Go.Proofs.YtlaojndlelcdaaaW.PrintMore
set_option linter.unusedVariables false
set_option linter.unusedSimpArgs false

theorem FrameSays : tallymanlaw20_FrameSays.Pure := by
  intro a0 a1 a2 b ha1 ha2 hb
  have hbb : Bytes b := fun x hx => wf_u8 (hb.2 x hx)
  refine ⟨1400001, ?_⟩
  simp only [tallymanlaw20_FrameSays.f]
  rw [awake20_ok _ (by omega), Option.bind_some, if_pos rfl]
  rw [show (1400001 : Nat) = 1400000 + 1 from rfl]
  by_cases c1 : (a2.length : Int) > 2000
  · rw [if_pos c1, tallymanlaw20_FrameSays.j0, if_pos rfl]
  · rw [if_neg c1, tallymanlaw20_FrameSays.j0]
    by_cases c2 : (b.length : Int) > 2000
    · rw [if_pos (decide_eq_true c2)]
    · have g1 := good_eq ⟨a0, a1, a2⟩
      have g2 := ref_good_eq ⟨a0, a1, a2⟩
      have p1 := putF_eq ⟨a0, a1, a2⟩ 1400000 (by omega)
      have p2 := ref_putF_eq ⟨a0, a1, a2⟩ 1400000 (by omega)
      dsimp only at g1 g2 p1 p2
      have r1 := getF_eq b hbb (by omega) 1400000 (by omega)
      have r2 := ref_getF_eq b hbb (by omega) 1400000 (by omega)
      have ho : tallymanlaw20_own.f a0 a1 a2 = some (a0, a1, a2) := rfl
      have o : ∃ q : Bool × Int × List Int × Int, frame_Get.f 1400000 b = some q ∧ tallymanref19_GetFrame.f 1400000 b = some q := by
        cases hgf : getF b with
        | none => rw [hgf] at r1 r2; exact ⟨_, r1, r2⟩
        | some f => rw [hgf] at r1 r2; exact ⟨_, r1, r2⟩
      obtain ⟨q, o1, o2⟩ := o
      rw [if_neg (by simpa using c2), o1, Option.bind_some, o2, Option.bind_some, g1, Option.bind_some, ho, Option.bind_some, g2, Option.bind_some, if_pos (by simp), p1, Option.bind_some, Option.bind_some, p2, Option.bind_some, if_pos rfl, if_pos rfl]
      simp [tallymanlaw20_same.f]
end Go.Proofs.Ytlaojndlelcdaaa.Pure
