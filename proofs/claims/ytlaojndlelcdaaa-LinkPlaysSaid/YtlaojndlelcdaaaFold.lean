/- Fold and Open of num, told by plain arithmetic. -/
import Derived.Test.YtlaojndlelcdaaaPx3
import Derived.Test.YtlaojndlelcdaaaNum
namespace Go.Proofs.Ytlaojndlelcdaaa.Pure
open Go.RowKit Go.Proofs.Ytlaojndlelcdaaa.P Go.Proofs.YtlaojndlelcdaaaW.PrintWords Go.Proofs.YtlaojndlelcdaaaW.PrintLast Go.Proofs.YtlaojndlelcdaaaW.PrintMore
set_option linter.unusedVariables false
set_option linter.unusedSimpArgs false

/-- x ^ 0 and x ^ -1, as int64. -/
theorem xor_zero (x : Int) (h0 : -9223372036854775808 ≤ x) (h1 : x < 9223372036854775808) : Go.bits .xor .i64 x 0 = x := by
  show IntKind.i64.wrap ((BitVec.ofInt 64 x ^^^ BitVec.ofInt 64 0).toNat : Int) = x
  rw [show BitVec.ofInt 64 0 = 0#64 by decide, BitVec.xor_zero, IntKind.wrap_i64, BitVec.toNat_ofInt]
  omega
theorem xor_ones (x : Int) (h0 : -9223372036854775808 ≤ x) (h1 : x < 9223372036854775808) : Go.bits .xor .i64 x (-1) = -x - 1 := by
  show IntKind.i64.wrap ((BitVec.ofInt 64 x ^^^ BitVec.ofInt 64 (-1)).toNat : Int) = -x - 1
  rw [show BitVec.ofInt 64 (-1) = BitVec.allOnes 64 by decide, BitVec.xor_allOnes, IntKind.wrap_i64, BitVec.toNat_not, BitVec.toNat_ofInt]
  omega
def fold (v : Int) : Int := if v < 0 then -2 * v - 1 else 2 * v
def unfold_ (v : Int) : Int := if v % 2 = 1 then -(v / 2) - 1 else v / 2
theorem fold_eq (v : Int) (h0 : -9223372036854775808 ≤ v) (h1 : v < 9223372036854775808) : num_Fold.f v = some (fold v) := by
  simp only [num_Fold.f, fold]
  by_cases c : v < 0
  · rw [if_pos c, show v / 9223372036854775808 = -1 by omega, xor_ones _ (by unfold wrap64; omega) (by unfold wrap64; omega), IntKind.wrap_u64]
    unfold wrap64
    congr 1
    omega
  · rw [if_neg c, show v / 9223372036854775808 = 0 by omega, xor_zero _ (by unfold wrap64; omega) (by unfold wrap64; omega), IntKind.wrap_u64]
    unfold wrap64
    congr 1
    omega
theorem open_eq (v : Int) (h0 : 0 ≤ v) (h1 : v < 18446744073709551616) : num_Open.f v = some (unfold_ v) := by
  simp only [num_Open.f, unfold_]
  have e : Go.bits .and .u64 v 1 = v % 2 := by
    rw [show (1 : Int) = ((1 : Nat) : Int) from rfl, u64_and _ _ h0 h1 (by omega) (by omega), Int.toNat_natCast, nat_mask1]
    omega
  rw [e, show wrap64 (v / 2) = v / 2 by unfold wrap64; omega]
  by_cases c : v % 2 = 1
  · rw [if_pos c, c, show wrap64 (-wrap64 1) = -1 by decide +kernel, xor_ones _ (by omega) (by omega)]
  · rw [if_neg c, show v % 2 = 0 by omega, show wrap64 (-wrap64 0) = 0 by decide +kernel, xor_zero _ (by omega) (by omega)]
theorem fold_range (v : Int) (h0 : -9223372036854775808 ≤ v) (h1 : v < 9223372036854775808) : 0 ≤ fold v ∧ fold v < 18446744073709551616 := by unfold fold; split <;> omega
theorem unfold_range (v : Int) (h0 : 0 ≤ v) (h1 : v < 18446744073709551616) : -9223372036854775808 ≤ unfold_ v ∧ unfold_ v < 9223372036854775808 := by unfold unfold_; split <;> omega
theorem unfold_fold (v : Int) : unfold_ (fold v) = v := by unfold unfold_ fold; split <;> split <;> omega
theorem fold_unfold (v : Int) (h0 : 0 ≤ v) : fold (unfold_ v) = v := by unfold unfold_ fold; split <;> split <;> omega
end Go.Proofs.Ytlaojndlelcdaaa.Pure
