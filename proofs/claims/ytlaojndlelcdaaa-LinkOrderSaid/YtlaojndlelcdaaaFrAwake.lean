/- The frames' awake is true. -/
import Derived.Test.YtlaojndlelcdaaaPx17
import Derived.Test.YtlaojndlelcdaaaFrame
namespace Go.Proofs.Ytlaojndlelcdaaa.Pure
open Go.RowKit Go.Proofs.Ytlaojndlelcdaaa.P Go.Proofs.YtlaojndlelcdaaaW.PrintWords Go.Proofs.YtlaojndlelcdaaaW.PrintLast Go.Proofs.YtlaojndlelcdaaaW.PrintMore
set_option linter.unusedVariables false
set_option linter.unusedSimpArgs false

theorem ack1_bytes : Bytes (putF ⟨true, 1, []⟩) := by
  unfold putF
  rw [if_pos (by decide)]
  refine seal_bytes ?_
  intro x hx
  simp [enc] at hx
  unfold Byte
  omega
theorem ack1_len : (putF ⟨true, 1, []⟩).length = 6 := by
  unfold putF
  rw [if_pos (by decide), seal_len]
  rfl
theorem awake20_ok (k : Nat) (hk : 1400000 ≤ k) : tallymanlaw20_awake.f k = some true := by
  simp only [tallymanlaw20_awake.f]
  have h1 := putF_eq ⟨true, 1, []⟩ k hk
  have h2 := getF_eq _ ack1_bytes (by rw [ack1_len]; omega) k (by rw [ack1_len]; omega)
  have h3 := get_putF ⟨true, 1, []⟩ (by decide)
  have h4 := good_eq ⟨true, 1, []⟩
  dsimp only at h1 h4
  rw [h3] at h2
  dsimp only at h2
  have h5 : rd (putF ⟨true, 1, []⟩) 0 = 65 := by
    unfold putF
    rw [if_pos (by decide)]
    rfl
  rw [h1, Option.bind_some, h2, Option.bind_some, ack1_len]
  dsimp only
  have h6 : goodF ⟨true, 1, []⟩ = true := by decide
  simp [h4, h5, h6]
end Go.Proofs.Ytlaojndlelcdaaa.Pure
