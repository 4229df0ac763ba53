/- Put together by pack.py: Ord -/
import Derived.Test.YtidlldfghkaeeaaDoorZmPthPure
import Derived.Test.YtidlldfghkaeeaaDoorZmOwn75
namespace Go.Proofs.YtidlldfghkaeeaaDoor.P
open Go.RowKit Go.Proofs.YtidlldfghkaeeaaDoorW.PrintWords Go.Proofs.YtidlldfghkaeeaaDoorW.PrintLast Go.Proofs.YtidlldfghkaeeaaDoorW.PrintMore
set_option linter.unusedVariables false
set_option linter.unusedSimpArgs false

theorem D_size (s : ByteArray) : s.size = s.data.toList.length := by rw [Array.length_toList]; rfl
theorem D_app (a b : ByteArray) : (a ++ b).data.toList = a.data.toList ++ b.data.toList := by
  simp [ByteArray.data_append]
theorem bext {a b : ByteArray} (h : a.data.toList = b.data.toList) : a = b := by
  cases a with | mk x => cases b with | mk y => cases x with | mk p => cases y with | mk q => simp at h; rw [h]
theorem D_mk (l : List UInt8) : (⟨l.toArray⟩ : ByteArray).data.toList = l := rfl
theorem D_ex (s : ByteArray) (i j : Nat) : (s.extract i j).data.toList = (s.data.toList.take j).drop i := by
  rw [ByteArray.data_extract, Array.toList_extract, List.extract_eq_take_drop, List.take_drop]
  by_cases h : i ≤ j
  · rw [show i + (j - i) = j by omega]
  · rw [List.drop_eq_nil_of_le (by simp; omega), List.drop_eq_nil_of_le (by simp; omega)]
theorem u47 {b : UInt8} (h : ((b.toNat : Nat) : Int) = 47) : b = 47 := by
  have : b.toNat = (47 : UInt8).toNat := by rw [show (47 : UInt8).toNat = 47 from rfl]; omega
  exact UInt8.toNat_inj.1 this
theorem bl_asym {a b : List UInt8} (h : Op.bytesLess a b = true) : Op.bytesLess b a = false := by
  cases h2 : Op.bytesLess b a with
  | false => rfl
  | true =>
    have := bl_trans a b a h h2
    rw [bl_irr] at this
    cases this
/-- Two names. -/
def c1 (a b : List UInt8) : Int := if Op.bytesLess a b = true then -1 else if Op.bytesLess b a = true then 1 else 0
theorem c1_eq {a b : List UInt8} : c1 a b = 0 ↔ a = b := by
  unfold c1
  constructor
  · intro h
    split at h
    · omega
    · split at h
      · omega
      · exact bl_tot a b (by simp [*]) (by simp [*])
  · rintro rfl
    rw [bl_irr]
    rfl
theorem c1_anti (a b : List UInt8) : c1 b a = - c1 a b := by
  unfold c1
  by_cases h : Op.bytesLess a b = true
  · rw [if_pos h, if_neg (by rw [bl_asym h]; decide), if_pos h]
    rfl
  · rw [if_neg h, if_neg h]
    split <;> rfl
theorem c1_vals (a b : List UInt8) : c1 a b = -1 ∨ c1 a b = 0 ∨ c1 a b = 1 := by
  unfold c1
  split
  · exact .inl rfl
  · split
    · exact .inr (.inr rfl)
    · exact .inr (.inl rfl)
theorem c1_lt {a b : List UInt8} : c1 a b = -1 ↔ Op.bytesLess a b = true := by
  unfold c1
  constructor
  · intro h
    split at h
    · assumption
    · split at h <;> omega
  · intro h
    rw [if_pos h]
/-- Two paths, as lists of names. -/
def cL : List (List UInt8) → List (List UInt8) → Int
  | [], [] => 0
  | [], _ :: _ => -1
  | _ :: _, [] => 1
  | x :: xs, y :: ys => if c1 x y = 0 then cL xs ys else c1 x y
theorem cL_vals : ∀ xs ys, cL xs ys = -1 ∨ cL xs ys = 0 ∨ cL xs ys = 1
  | [], [] => .inr (.inl rfl)
  | [], _ :: _ => .inl rfl
  | _ :: _, [] => .inr (.inr rfl)
  | x :: xs, y :: ys => by
    unfold cL
    split
    · exact cL_vals xs ys
    · exact c1_vals x y
theorem cL_eq : ∀ {xs ys}, cL xs ys = 0 ↔ xs = ys
  | [], [] => by simp [cL]
  | [], _ :: _ => by simp [cL]
  | _ :: _, [] => by simp [cL]
  | x :: xs, y :: ys => by
    unfold cL
    split
    · rename_i h
      rw [cL_eq, c1_eq.1 h]
      simp
    · rename_i h
      simp only [h, false_iff]
      intro e
      injection e with e1 _
      exact h (c1_eq.2 e1)
theorem cL_anti : ∀ xs ys, cL ys xs = - cL xs ys
  | [], [] => rfl
  | [], _ :: _ => rfl
  | _ :: _, [] => rfl
  | x :: xs, y :: ys => by
    unfold cL
    rw [c1_anti x y]
    by_cases h : c1 x y = 0
    · rw [if_pos (by omega), if_pos h, cL_anti xs ys]
    · rw [if_neg (by omega), if_neg h]
theorem cL_trans : ∀ xs ys zs, cL xs ys ≤ 0 → cL ys zs ≤ 0 → cL xs zs ≤ 0
  | [], _, [], _, _ => by simp [cL]
  | [], _, _ :: _, _, _ => by simp [cL]
  | x :: xs, [], _, h, _ => by simp [cL] at h
  | x :: xs, y :: ys, [], _, h => by simp [cL] at h
  | x :: xs, y :: ys, z :: zs, h1, h2 => by
    unfold cL at h1 h2 ⊢
    by_cases hxy : c1 x y = 0
    · rw [if_pos hxy] at h1
      obtain rfl := c1_eq.1 hxy
      by_cases hyz : c1 x z = 0
      · rw [if_pos hyz] at h2 ⊢
        exact cL_trans xs ys zs h1 h2
      · rw [if_neg hyz] at h2 ⊢
        exact h2
    · rw [if_neg hxy] at h1
      have h1' : c1 x y = -1 := by rcases c1_vals x y with h | h | h <;> omega
      by_cases hyz : c1 y z = 0
      · obtain rfl := c1_eq.1 hyz
        rw [if_neg hxy]
        exact h1
      · rw [if_neg hyz] at h2
        have h2' : c1 y z = -1 := by rcases c1_vals y z with h | h | h <;> omega
        have h3 : c1 x z = -1 := c1_lt.2 (bl_trans x y z (c1_lt.1 h1') (c1_lt.1 h2'))
        rw [if_neg (by omega), h3]
        decide
theorem cL_longer : ∀ (xs : List (List UInt8)) (y : List UInt8), cL xs (xs ++ [y]) = -1
  | [], y => rfl
  | x :: xs, y => by
    rw [List.cons_append, cL, if_pos (c1_eq.2 rfl)]
    exact cL_longer xs y
/-- A path made again of its names. -/
def jn : List (List UInt8) → List UInt8
  | [] => []
  | [x] => x
  | x :: y :: xs => x ++ 47 :: jn (y :: xs)
theorem jn_sp : ∀ l : List UInt8, jn (sp l) = l
  | [] => rfl
  | b :: l => by
    have ih := jn_sp l
    obtain ⟨y, ys, e⟩ := List.exists_cons_of_ne_nil (sp_ne l)
    rw [e] at ih
    by_cases hb : b = 47
    · subst hb
      rw [sp_slash, e, jn, ih]
      rfl
    · rw [sp_cons hb e]
      cases ys with
      | nil =>
        rw [jn] at ih ⊢
        rw [ih]
      | cons z zs =>
        rw [jn] at ih ⊢
        rw [← ih]
        rfl
theorem sp_inj {a b : List UInt8} (h : sp a = sp b) : a = b := by rw [← jn_sp a, h, jn_sp]
theorem Compare1_eq (a b : ByteArray) : cmp_Compare_string.f a b = some (c1 a.data.toList b.data.toList) := by
  unfold cmp_Compare_string.f c1
  rw [Lib.toList_data, Lib.toList_data]
def Ds (ps : List ByteArray) : List (List UInt8) := ps.map fun p => p.data.toList
theorem Compare_l0 (xs ys : List ByteArray) (hx : xs.length < 9223372036854775807) : ∀ (d i k : Nat), i + d = xs.length → i ≤ ys.length → d ≤ k →
    slices_Compare_string_string.l0 (k + 1) xs ys xs (xs.length : Int) (i : Int) = some (cL (Ds (xs.drop i)) (Ds (ys.drop i)))
  | 0, i, k, hd, hi, hk => by
    rw [slices_Compare_string_string.l0, if_neg (by omega), List.drop_eq_nil_of_le (by omega)]
    by_cases h : i < ys.length
    · rw [if_pos (by omega), List.drop_eq_getElem_cons h]
      rfl
    · rw [if_neg (by omega), List.drop_eq_nil_of_le (by omega)]
      rfl
  | d + 1, i, k, hd, hi, hk => by
    obtain ⟨k, rfl⟩ : ∃ m, k = m + 1 := ⟨k - 1, by omega⟩
    have hi' : i < xs.length := by omega
    have hxr : rdOf ByteArray.empty xs (i : Int) = xs[i] := by
      unfold rdOf
      rw [Int.toNat_natCast, List.getD_eq_getElem?_getD, List.getElem?_eq_getElem hi']
      rfl
    rw [slices_Compare_string_string.l0, if_pos (by omega), if_pos (by omega), if_pos (by omega), List.drop_eq_getElem_cons hi']
    by_cases h : i < ys.length
    · have hyr : rdOf ByteArray.empty ys (i : Int) = ys[i] := by
        unfold rdOf
        rw [Int.toNat_natCast, List.getD_eq_getElem?_getD, List.getElem?_eq_getElem h]
        rfl
      have hw : wrap64 ((i : Int) + 1) = ((i + 1 : Nat) : Int) := by unfold wrap64; omega
      rw [if_neg (by omega), if_pos (by omega), hxr, hyr, Compare1_eq, Option.bind_some, List.drop_eq_getElem_cons h]
      simp only [Ds, List.map_cons, cL]
      by_cases hc : c1 xs[i].data.toList ys[i].data.toList = 0
      · rw [if_pos hc, if_pos hc, hw]
        exact Compare_l0 xs ys hx d (i + 1) k (by omega) (by omega) (by omega)
      · rw [if_neg hc, if_neg hc]
    · have e : ys.drop i = [] := List.drop_eq_nil_of_le (by omega)
      rw [if_pos (by omega), e]
      rfl
end Go.Proofs.YtidlldfghkaeeaaDoor.P
