/- FrameKnown, a closed statement, is true: what chapter 20 says of what may not be. No condition. -/
import Derived.Test.YtlaojndlelcdaaaPx0
import Derived.Test.YtlaojndlelcdaaaPx14
import Derived.Test.YtlaojndlelcdaaaPx15
import Derived.Test.YtlaojndlelcdaaaPx17
import Derived.Test.YtlaojndlelcdaaaFrAwake
namespace Go.Proofs.Ytlaojndlelcdaaa.Pure
open Go.RowKit Go.Proofs.Ytlaojndlelcdaaa.P Go.Proofs.YtlaojndlelcdaaaW.PrintWords Go.Proofs.YtlaojndlelcdaaaW.PrintLast Go.Proofs.YtlaojndlelcdaaaW.PrintMore
set_option linter.unusedVariables false
set_option linter.unusedSimpArgs false

theorem known_go (k : Nat) (f : Fr) (hk : 1400000 ≤ k) (hg : goodF f = false) : frame_Good.f f.ack f.seq f.b = some false ∧ frame_Put.f k f.ack f.seq f.b = some [] := by
  refine ⟨by rw [good_eq, hg], ?_⟩
  rw [putF_eq f k hk]
  unfold putF
  rw [hg]
  rfl
theorem FrameKnown : tallymanlaw20_FrameKnown.Pure := by
  refine ⟨1400010, ?_⟩
  simp only [tallymanlaw20_FrameKnown.f]
  rw [awake20_ok _ (by omega), Option.bind_some, if_pos rfl, if_pos (by omega)]
  generalize hz : List.replicate 131073 (0 : Int) = z
  have hzl : z.length = 131073 := by rw [← hz, List.length_replicate]
  have w1 : wrap64 (0 + 1) = 1 := by decide +kernel
  have w2 : wrap64 (1 + 1) = 2 := by decide +kernel
  have w3 : wrap64 (2 + 1) = 3 := by decide +kernel
  have w4 : wrap64 (3 + 1) = 4 := by decide +kernel
  have e : ∀ k, 1400000 ≤ k → frame_Good.f false 0 [] = some false ∧ frame_Put.f k false 0 [] = some [] := fun k hk => known_go k ⟨false, 0, []⟩ hk (by decide)
  have e2 : ∀ k, 1400000 ≤ k → frame_Good.f false 4294967297 [] = some false ∧ frame_Put.f k false 4294967297 [] = some [] := fun k hk => known_go k ⟨false, 4294967297, []⟩ hk (by decide)
  have e3 : ∀ k, 1400000 ≤ k → frame_Good.f true 1 [1] = some false ∧ frame_Put.f k true 1 [1] = some [] := fun k hk => known_go k ⟨true, 1, [1]⟩ hk (by decide)
  have e4 : ∀ k, 1400000 ≤ k → frame_Good.f false 1 z = some false ∧ frame_Put.f k false 1 z = some [] := fun k hk => known_go k ⟨false, 1, z⟩ hk (by unfold goodF; simp [hzl])
  clear hz
  have r0 : ∀ a b c d : S69, rd_T69 [a, b, c, d] 0 = a := fun _ _ _ _ => rfl
  have r1 : ∀ a b c d : S69, rd_T69 [a, b, c, d] 1 = b := fun _ _ _ _ => rfl
  have r2 : ∀ a b c d : S69, rd_T69 [a, b, c, d] 2 = c := fun _ _ _ _ => rfl
  have r3 : ∀ a b c d : S69, rd_T69 [a, b, c, d] 3 = d := fun _ _ _ _ => rfl
  have hl : ∀ a b c d : S69, (([a, b, c, d] : List S69).length : Int) = 4 := fun _ _ _ _ => rfl
  have hn : (([] : List Int).length : Int) = 0 := rfl
  rw [show (1400010 : Nat) = 1400009 + 1 from rfl, tallymanlaw20_FrameKnown.l0, hl, if_pos (by omega), if_pos (by omega), r0]
  dsimp only
  rw [(e 1400009 (by omega)).1, Option.bind_some, if_neg (by simp), (e 1400009 (by omega)).2, Option.bind_some, if_pos hn, w1]
  rw [show (1400009 : Nat) = 1400008 + 1 from rfl, tallymanlaw20_FrameKnown.l0, hl, if_pos (by omega), if_pos (by omega), r1]
  dsimp only
  rw [(e2 1400008 (by omega)).1, Option.bind_some, if_neg (by simp), (e2 1400008 (by omega)).2, Option.bind_some, if_pos hn, w2]
  rw [show (1400008 : Nat) = 1400007 + 1 from rfl, tallymanlaw20_FrameKnown.l0, hl, if_pos (by omega), if_pos (by omega), r2]
  dsimp only
  rw [(e3 1400007 (by omega)).1, Option.bind_some, if_neg (by simp), (e3 1400007 (by omega)).2, Option.bind_some, if_pos hn, w3]
  rw [show (1400007 : Nat) = 1400006 + 1 from rfl, tallymanlaw20_FrameKnown.l0, hl, if_pos (by omega), if_pos (by omega), r3]
  dsimp only
  rw [(e4 1400006 (by omega)).1, Option.bind_some, if_neg (by simp), (e4 1400006 (by omega)).2, Option.bind_some, if_pos hn, w4]
  rw [show (1400006 : Nat) = 1400005 + 1 from rfl, tallymanlaw20_FrameKnown.l0, hl, if_neg (by omega), if_pos (by omega)]
  generalize hy : List.replicate 131072 (0 : Int) = y
  have hyl : y.length = 131072 := by rw [← hy, List.length_replicate]
  have hyb : Bytes y := by
    intro x hx
    rw [← hy] at hx
    rw [List.eq_of_mem_replicate hx]
    unfold Byte
    omega
  clear hy
  have g : goodF ⟨false, 4294967296, y⟩ = true := by unfold goodF; simp [hyl]
  have p1 := putF_eq ⟨false, 4294967296, y⟩ 1400005 (by omega)
  have hel : enc 9 4294967296 = [128, 128, 128, 128, 16] := by decide +kernel
  have hpl : (putF ⟨false, 4294967296, y⟩).length = 131082 := by
    unfold putF
    rw [g, if_pos rfl, seal_len, hel]
    simp [hyl]
  have hpb : Bytes (putF ⟨false, 4294967296, y⟩) := by
    unfold putF
    rw [g, if_pos rfl, hel]
    refine seal_bytes ?_
    intro x hx
    simp at hx
    rcases hx with h | h | h | h
    · unfold Byte; omega
    · unfold Byte; omega
    · unfold Byte; omega
    · exact hyb x h
  have p2 := getF_eq _ hpb (by omega) 1400005 (by omega)
  rw [get_putF _ g] at p2
  dsimp only at p1 p2
  have p3 := getF_eq [] Bytes.nil (by simp) 1400005 (by simp)
  have n3 : getF [] = none := by
    have : opened [] = ([], false) := by unfold opened; rfl
    unfold getF
    rw [this]
    rfl
  rw [n3] at p3
  have p4 := getF_eq [0, 0, 0, 0] (by intro x hx; simp at hx; unfold Byte; omega) (by decide) 1400005 (by decide)
  have n4 : getF [0, 0, 0, 0] = none := by
    have hs : opened [0, 0, 0, 0] = ([], true) := by
      have : sealI [] = [0, 0, 0, 0] := by decide +kernel
      rw [← this, opened_seal]
    unfold getF
    rw [hs]
    rfl
  rw [n4] at p4
  dsimp only at p3 p4
  rw [p1, Option.bind_some, p2, Option.bind_some, p3, Option.bind_some, p4, Option.bind_some, hpl, if_pos (by omega)]
  dsimp only
  rw [if_pos rfl, hyl, if_pos (by omega), if_pos rfl]
  rfl
end Go.Proofs.Ytlaojndlelcdaaa.Pure
