/- FrameApart is true of all frames: two frames have the same bytes just if they are the same. No condition. -/
import Derived.Test.YtlaojndlelcdaaaPx23
import Derived.Test.YtlaojndlelcdaaaFrAwake
namespace Go.Proofs.Ytlaojndlelcdaaa.Pure
open Go.RowKit Go.Proofs.Ytlaojndlelcdaaa.P Go.Proofs.YtlaojndlelcdaaaW.PrintWords Go.Proofs.YtlaojndlelcdaaaW.PrintLast Go.Proofs.YtlaojndlelcdaaaW.PrintMore
set_option linter.unusedVariables false
set_option linter.unusedSimpArgs false

theorem putF_bytes (f : Fr) (h : Bytes f.b) : Bytes (putF f) := by
  unfold putF
  cases hg : goodF f
  · exact Bytes.nil
  · obtain ⟨h1, h2, h3, h4⟩ := good_seq hg
    refine seal_bytes ?_
    intro x hx
    rcases List.mem_cons.1 hx with rfl | hx
    · unfold Byte
      split <;> omega
    · exact ((enc9_bytes (by omega) (by omega)).append h) x hx
theorem putF_inj (f g : Fr) (hf : goodF f = true) (hg : goodF g = true) (h : putF f = putF g) : f = g := by
  have h1 := get_putF f hf
  rw [h, get_putF g hg] at h1
  exact (Option.some.inj h1).symm
theorem FrameApart : tallymanlaw20_FrameApart.Pure := by
  intro a0 a1 a2 b0 b1 b2 ha1 ha2 hb1 hb2
  have hab : Bytes a2 := fun x hx => wf_u8 (ha2.2 x hx)
  have hbb : Bytes b2 := fun x hx => wf_u8 (hb2.2 x hx)
  refine ⟨1400001, ?_⟩
  simp only [tallymanlaw20_FrameApart.f]
  rw [awake20_ok _ (by omega), Option.bind_some, if_pos rfl]
  have bad : tallymanlaw20_FrameApart.j0 1400001 true a0 a1 a2 b0 b1 b2 = some true := by
    rw [show (1400001 : Nat) = 1400000 + 1 from rfl, tallymanlaw20_FrameApart.j0, if_pos rfl]
  by_cases c1 : (a2.length : Int) > 1000
  · rw [if_pos c1, bad]
  · rw [if_neg c1]
    by_cases c2 : (b2.length : Int) > 1000
    · rw [if_pos c2, bad]
    · have ga := good_eq ⟨a0, a1, a2⟩
      have gb := good_eq ⟨b0, b1, b2⟩
      dsimp only at ga gb
      rw [if_neg c2, ga, Option.bind_some, gb, Option.bind_some]
      cases ea : goodF ⟨a0, a1, a2⟩
      · rw [if_neg (by simp), bad]
      · rw [if_pos rfl]
        cases eb : goodF ⟨b0, b1, b2⟩
        · exact bad
        · have pa := putF_eq ⟨a0, a1, a2⟩ 1400000 (by omega)
          have pb := putF_eq ⟨b0, b1, b2⟩ 1400000 (by omega)
          dsimp only at pa pb
          rw [show (1400001 : Nat) = 1400000 + 1 from rfl, tallymanlaw20_FrameApart.j0, if_neg (by simp), pa, Option.bind_some, pb, Option.bind_some]
          rw [str_beq _ _ (putF_bytes _ hab) (putF_bytes _ hbb), str_beq _ _ hab hbb]
          have key : decide (putF ⟨a0, a1, a2⟩ = putF ⟨b0, b1, b2⟩) = decide (a0 = b0 ∧ a1 = b1 ∧ a2 = b2) := by
            rw [Bool.eq_iff_iff]
            simp only [decide_eq_true_eq]
            constructor
            · intro h
              have := putF_inj _ _ ea eb h
              injection this with h1 h2 h3
              exact ⟨h1, h2, h3⟩
            · rintro ⟨rfl, rfl, rfl⟩
              rfl
          rw [key]
          by_cases d1 : a0 = b0
          · rw [if_pos (by simpa using d1)]
            by_cases d2 : a1 = b1
            · rw [if_pos d2]
              simp [d1, d2]
            · rw [if_neg d2]
              simp [d2]
          · rw [if_neg (by simpa using d1)]
            simp [d1]
end Go.Proofs.Ytlaojndlelcdaaa.Pure
