/- PolySeals is true of all bytes: what is sealed is opened, once and again; what is opened was sealed so. No condition. -/
import Derived.Test.YtlaojndlelcdaaaPx8
import Derived.Test.YtlaojndlelcdaaaPoly
namespace Go.Proofs.Ytlaojndlelcdaaa.Pure
open Go.RowKit Go.Proofs.Ytlaojndlelcdaaa.P Go.Proofs.YtlaojndlelcdaaaW.PrintWords Go.Proofs.YtlaojndlelcdaaaW.PrintLast Go.Proofs.YtlaojndlelcdaaaW.PrintMore
set_option linter.unusedVariables false
set_option linter.unusedSimpArgs false

theorem nine_bytes : Bytes [49, 50, 51, 52, 53, 54, 55, 56, 57] := by
  intro x hx
  simp at hx
  unfold Byte
  omega
theorem awake3_ok (k : Nat) (hk : 1000 ≤ k) : tallymanlaw3_awake.f k = some true := by
  simp only [tallymanlaw3_awake.f]
  have e : crc [49, 50, 51, 52, 53, 54, 55, 56, 57] = 3421780262 := by decide +kernel
  rw [Option.bind_some, seal_eq _ k (by simp) (by simp; omega), Option.bind_some, open_eqP _ k (by rw [seal_len]; simp) (by rw [seal_len]; simp; omega), Option.bind_some, opened_seal, of1_eq _ k (by simp) (by simp; omega), Option.bind_some, e, if_pos rfl, if_pos rfl, str_beq _ _ nine_bytes nine_bytes]
  simp
theorem PolySeals : tallymanlaw3_PolySeals.Pure := by
  intro b _ _ hb
  have hbb : Bytes b := fun x hx => wf_u8 (hb x hx)
  refine ⟨100000, ?_⟩
  simp only [tallymanlaw3_PolySeals.f]
  rw [awake3_ok _ (by omega), Option.bind_some, if_pos rfl]
  by_cases c : (b.length : Int) > 2000
  · rw [if_pos c]
  · have hl : b.length ≤ 2000 := by omega
    have hs := seal_len b
    have hs2 := seal_len (sealI b)
    rw [if_neg c, seal_eq b _ (by omega) (by omega), Option.bind_some, seal_eq (sealI b) _ (by omega) (by omega), Option.bind_some, open_eqP _ _ (by omega) (by omega), Option.bind_some, opened_seal]
    dsimp only
    rw [open_eqP _ _ (by omega) (by omega), Option.bind_some, opened_seal, open_eqP b _ (by omega) (by omega), Option.bind_some]
    dsimp only
    rw [if_pos rfl, if_pos rfl, if_pos rfl]
    by_cases o : (opened b).2 = true
    · have hol := opened_len b
      rw [if_pos o, seal_eq _ _ (by omega) (by omega), Option.bind_some, opened_back o]
      simp
    · rw [if_neg o]
end Go.Proofs.Ytlaojndlelcdaaa.Pure
