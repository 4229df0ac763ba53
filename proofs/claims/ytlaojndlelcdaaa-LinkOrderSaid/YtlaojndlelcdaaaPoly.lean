/- What poly's functions compute, told by plain recursions; what is sealed is opened. -/
import Derived.Test.YtlaojndlelcdaaaPx0
import Derived.Test.YtlaojndlelcdaaaPx10
import Derived.Test.YtlaojndlelcdaaaPx11
import Derived.Test.YtlaojndlelcdaaaNum
namespace Go.Proofs.Ytlaojndlelcdaaa.Pure
open Go.RowKit Go.Proofs.Ytlaojndlelcdaaa.P Go.Proofs.YtlaojndlelcdaaaW.PrintWords Go.Proofs.YtlaojndlelcdaaaW.PrintLast Go.Proofs.YtlaojndlelcdaaaW.PrintMore
set_option linter.unusedVariables false
set_option linter.unusedSimpArgs false

def shiftI (c : Int) : Int := if Go.bits .and .u32 c 1 = 1 then Go.bits .xor .u32 (c / 2) 3988292384 else c / 2
def shifts : Nat → Int → Int
  | 0, c => c
  | n + 1, c => shifts n (shiftI c)
def crcByte (c x : Int) : Int := shifts 8 (Go.bits .xor .u32 c (x % 4294967296))
def crcRun (c : Int) : List Int → Int
  | [] => c
  | x :: l => crcRun (crcByte c x) l
def crcOn (c : Int) (l : List Int) : Int := Go.bits .xor .u32 4294967295 (crcRun (Go.bits .xor .u32 4294967295 c) l)
def crc (l : List Int) : Int := crcOn 0 l
def U32 (c : Int) : Prop := 0 ≤ c ∧ c < 4294967296
theorem bits_u32 (o : BinOp) (x y : Int) : U32 (Go.bits o .u32 x y) := by
  unfold Go.bits U32
  simp only [IntKind.wrap_u32']
  omega
theorem crcOn_u32 (c : Int) (l : List Int) : U32 (crcOn c l) := bits_u32 _ _ _
theorem shift_eq (c : Int) : poly_shift.f c = some (shiftI c) := by unfold poly_shift.f shiftI; split <;> rfl
theorem on_l1 (l : List Int) (n i : Nat) (m : Int) (d : Nat) : ∀ (j : Nat) (c : Int) (k : Nat), j + d = 8 → d < k → poly_On.l1 k c l m (i : Int) (j : Int) = poly_On.l0 (k - d - 1) (shifts d c) l m (wrap64 ((i : Int) + 1)) := by
  induction d with
  | zero =>
    intro j c k hj hk
    obtain ⟨k, rfl⟩ : ∃ m, k = m + 1 := ⟨k - 1, by omega⟩
    simp only [poly_On.l1, shifts]
    rw [if_neg (by omega)]
    simp
  | succ d ih =>
    intro j c k hj hk
    obtain ⟨k, rfl⟩ : ∃ m, k = m + 1 := ⟨k - 1, by omega⟩
    simp only [poly_On.l1, shifts]
    rw [if_pos (by omega), shift_eq, Option.bind_some, show wrap64 ((j : Int) + 1) = ((j + 1 : Nat) : Int) by unfold wrap64; omega, ih (j + 1) _ k (by omega) (by omega)]
    congr 1
    omega
theorem on_l0 (l : List Int) (hl : l.length ≤ 1000000000) (d : Nat) : ∀ (i : Nat) (c : Int) (k : Nat), i + d = l.length → 10 * d < k → poly_On.l0 k c l (l.length : Int) (i : Int) = some (Go.bits .xor .u32 4294967295 (crcRun c (l.drop i))) := by
  induction d with
  | zero =>
    intro i c k hi hk
    obtain ⟨k, rfl⟩ : ∃ m, k = m + 1 := ⟨k - 1, by omega⟩
    simp only [poly_On.l0]
    rw [if_neg (by omega), List.drop_of_length_le (by omega)]
    rfl
  | succ d ih =>
    intro i c k hi hk
    obtain ⟨k, rfl⟩ : ∃ m, k = m + 1 := ⟨k - 1, by omega⟩
    have hlt : i < l.length := by omega
    simp only [poly_On.l0]
    rw [if_pos (by omega), if_pos (by omega), if_pos (by omega), rd_eq l i hlt]
    have := on_l1 l 0 i (l.length : Int) 8 0 (Go.bits .xor .u32 c (l[i] % 4294967296)) k (by omega) (by omega)
    rw [show ((0 : Nat) : Int) = 0 from rfl] at this
    rw [this, show wrap64 ((i : Int) + 1) = ((i + 1 : Nat) : Int) by unfold wrap64; omega, ih (i + 1) _ _ (by omega) (by omega), drop_cons l i hlt]
    rfl
theorem on_eq (c : Int) (l : List Int) (k : Nat) (hl : l.length ≤ 1000000000) (hk : 10 * l.length < k) : poly_On.f k c l = some (crcOn c l) := by
  simp only [poly_On.f]
  have := on_l0 l hl l.length 0 (Go.bits .xor .u32 4294967295 c) k (by omega) hk
  rw [show ((0 : Nat) : Int) = 0 from rfl] at this
  rw [this, List.drop_zero]
  rfl
theorem of1_eq (l : List Int) (k : Nat) (hl : l.length ≤ 1000000000) (hk : 10 * l.length + 1 < k) : poly_Of.f k [l] = some (crc l) := by
  obtain ⟨k, rfl⟩ : ∃ m, k = m + 2 := ⟨k - 2, by omega⟩
  simp only [poly_Of.f, poly_Of.l0]
  have e : rd_L2 [l] 0 = l := rfl
  have e2 : wrap64 (0 + 1) = 1 := by decide +kernel
  rw [if_pos (by simp), if_pos (by omega), if_pos (by simp), e, on_eq 0 l _ hl (by omega), Option.bind_some, e2, if_neg (by simp)]
  rfl
/-- A number's four bytes. -/
def four (c : Int) : List Int := [c % 256, c / 256 % 256, c / 65536 % 256, c / 16777216 % 256]
theorem four_bytes (c : Int) : Bytes (four c) := by
  intro x hx
  simp [four] at hx
  unfold Byte
  omega
def sealI (l : List Int) : List Int := l ++ four (crc l)
theorem seal_len (l : List Int) : (sealI l).length = l.length + 4 := by simp [sealI, four]
theorem seal_bytes {l : List Int} (h : Bytes l) : Bytes (sealI l) := h.append (four_bytes _)
theorem seal_take (l : List Int) : (sealI l).take l.length = l := by simp [sealI]
theorem sclone_eq (l : List Int) (h : l.length < 140737488355328) : slices_Clone_byte_byte.f l = some l := by
  simp [slices_Clone_byte_byte.f, h]
theorem seal_eq (l : List Int) (k : Nat) (hl : l.length ≤ 1000000000) (hk : 10 * l.length + 1 < k) : poly_Seal.f k l = some (sealI l) := by
  simp only [poly_Seal.f]
  rw [of1_eq l k hl hk, Option.bind_some, sclone_eq l (by omega), Option.bind_some, Option.bind_some, if_pos (by simp; omega)]
  rfl
theorem eq_l0 (a b : List Int) (hab : a.length = b.length) (ha : a.length ≤ 1000000000) (d : Nat) : ∀ (i k : Nat), i + d = a.length → d < k → slices_Equal_byte_byte.l0 k a b (a.length : Int) (i : Int) = some (decide (a.drop i = b.drop i)) := by
  induction d with
  | zero =>
    intro i k hi hk
    obtain ⟨k, rfl⟩ : ∃ m, k = m + 1 := ⟨k - 1, by omega⟩
    simp only [slices_Equal_byte_byte.l0]
    rw [if_neg (by omega), List.drop_of_length_le (by omega), List.drop_of_length_le (by omega)]
    simp
  | succ d ih =>
    intro i k hi hk
    obtain ⟨k, rfl⟩ : ∃ m, k = m + 1 := ⟨k - 1, by omega⟩
    have hlt : i < a.length := by omega
    have hlt2 : i < b.length := by omega
    simp only [slices_Equal_byte_byte.l0]
    rw [if_pos (by omega), if_pos (by omega), if_pos (by omega), if_pos (by omega), rd_eq a i hlt, rd_eq b i hlt2, drop_cons a i hlt, drop_cons b i hlt2]
    by_cases c : a[i] = b[i]
    · rw [if_pos c, show wrap64 ((i : Int) + 1) = ((i + 1 : Nat) : Int) by unfold wrap64; omega, ih (i + 1) k (by omega) (by omega)]
      simp only [List.cons.injEq, c, true_and]
    · rw [if_neg c]
      simp only [List.cons.injEq, c, false_and, decide_false]
theorem equal_eq (a b : List Int) (k : Nat) (ha : a.length ≤ 1000000000) (hk : a.length < k) : slices_Equal_byte_byte.f k a b = some (decide (a = b)) := by
  simp only [slices_Equal_byte_byte.f]
  by_cases c : a.length = b.length
  · rw [if_pos (by omega)]
    have := eq_l0 a b c ha a.length 0 k (by omega) hk
    simpa using this
  · rw [if_neg (by omega), decide_eq_false (fun h => c (by rw [h]))]
/-- What was sealed. -/
def opened (l : List Int) : List Int × Bool := if l.length < 4 then ([], false) else if sealI (l.take (l.length - 4)) = l then (l.take (l.length - 4), true) else ([], false)
theorem open_eqP (l : List Int) (k : Nat) (hl : l.length ≤ 1000000000) (hk : 10 * l.length + 1 < k) : poly_Open.f k l = some (opened l) := by
  simp only [poly_Open.f, opened]
  by_cases c : l.length < 4
  · rw [if_pos (by omega), if_pos c]
  · have e : wrap64 ((l.length : Int) - 4) = ((l.length - 4 : Nat) : Int) := by unfold wrap64; omega
    have hlen : (l.take (l.length - 4)).length = l.length - 4 := by simp
    rw [if_neg (by omega), if_neg c, e, if_pos (by omega), if_pos (by omega), Int.toNat_natCast, seal_eq _ k (by omega) (by omega), Option.bind_some, equal_eq _ _ k (by rw [seal_len]; omega) (by rw [seal_len]; omega), Option.bind_some]
    by_cases c2 : sealI (l.take (l.length - 4)) = l
    · rw [if_pos (decide_eq_true c2), if_pos c2, sclone_eq _ (by omega), Option.bind_some]
    · rw [if_neg (by simpa using c2), if_neg c2]
theorem opened_seal (l : List Int) : opened (sealI l) = (l, true) := by
  unfold opened
  rw [if_neg (by rw [seal_len]; omega), seal_len, show l.length + 4 - 4 = l.length by omega, seal_take, if_pos rfl]
theorem opened_back {l : List Int} (h : (opened l).2 = true) : sealI (opened l).1 = l := by
  unfold opened at h ⊢
  by_cases c : l.length < 4
  · rw [if_pos c] at h
    cases h
  · rw [if_neg c] at h ⊢
    by_cases c2 : sealI (l.take (l.length - 4)) = l
    · rw [if_pos c2]
      exact c2
    · rw [if_neg c2] at h
      cases h
theorem opened_bytes {l : List Int} (h : Bytes l) : Bytes (opened l).1 := by
  unfold opened
  split
  · exact Bytes.nil
  · split
    · exact h.take _
    · exact Bytes.nil
theorem opened_len (l : List Int) : (opened l).1.length ≤ l.length := by
  unfold opened
  split
  · simp
  · split
    · simp
    · simp
theorem opened_no {l : List Int} (h : (opened l).2 = false) : (opened l).1 = [] := by
  unfold opened at h ⊢
  split
  · rfl
  · rename_i c
    rw [if_neg c] at h
    split
    · rename_i c2
      rw [if_pos c2] at h
      cases h
    · rfl
end Go.Proofs.Ytlaojndlelcdaaa.Pure
