/- Put together by pack.py: PthT -/
import Derived.Test.YtidlldfghkaeeaaDoorZmOrd
import Derived.Test.YtidlldfghkaeeaaDoorZmPaths
namespace Go.Proofs.YtidlldfghkaeeaaDoor.P
open Go.RowKit Go.Proofs.YtidlldfghkaeeaaDoorW.PrintWords Go.Proofs.YtidlldfghkaeeaaDoorW.PrintLast Go.Proofs.YtidlldfghkaeeaaDoorW.PrintMore
set_option linter.unusedVariables false
set_option linter.unusedSimpArgs false

theorem wrap_id {n : Int} (h0 : 0 ≤ n) (h1 : n < 9223372036854775808) : wrap64 n = n := by unfold wrap64; omega
theorem Contains_eq (s : ByteArray) : strings_Contains.f s ⟨#[47]⟩ = some (decide (47 ∈ s.data.toList)) := by
  unfold strings_Contains.f
  rw [if_pos rfl]
  congr 1
  rw [decide_eq_decide]
  have h := indexByte_none (l := s.data.toList) (c := 47)
  have hge := Lib.indexByte_ge s.data.toList 47
  constructor
  · intro h0
    by_cases hm : 47 ∈ s.data.toList
    · exact hm
    · have := h.2 hm
      omega
  · intro hm
    by_cases h0 : Lib.indexByte s.data.toList 47 = -1
    · exact absurd hm (h.1 h0)
    · omega
/-- Joined. -/
def jl (p x : List UInt8) : List UInt8 := if p = [] then x else p ++ 47 :: x
theorem HasPrefix_eq (s p : ByteArray) : strings_HasPrefix.f s p = some (decide (p.data.toList <+: s.data.toList)) := by
  unfold strings_HasPrefix.f stringslite_HasPrefix.f
  by_cases h : (s.size : Int) ≥ (p.size : Int)
  · rw [if_pos h, if_pos (by omega), if_pos h, Option.bind_some]
    congr 1
    rw [Bool.eq_iff_iff, beq_iff_eq, decide_eq_true_eq, Lib.toList_data, Lib.toList_data, D_ex, Int.toNat_natCast, List.drop_zero, D_size p]
    constructor
    · intro e
      rw [← e]
      exact List.take_prefix _ _
    · intro e
      exact (List.prefix_iff_eq_take.1 e).symm
  · rw [if_neg h, Option.bind_some]
    congr 1
    refine (decide_eq_false fun e => ?_).symm
    have := e.length_le
    rw [← D_size, ← D_size] at this
    omega
theorem Under_eq {q p : ByteArray} (hq : q.size < 4294967280) (hp : p.size < 4294967280) : path_Under.f q p = some (decide (Gd q.data.toList ∧ Gd p.data.toList ∧ (p.data.toList ++ [47]) <+: q.data.toList)) := by
  unfold path_Under.f
  rw [Good_eq (by omega), Option.bind_some]
  by_cases h1 : Gd q.data.toList
  · rw [if_pos (decide_eq_true h1), Good_eq (by omega), Option.bind_some]
    by_cases h2 : Gd p.data.toList
    · rw [if_pos (decide_eq_true h2), if_pos (by omega), HasPrefix_eq, Option.bind_some, D_app]
      congr 1
      rw [decide_eq_decide]
      exact ⟨fun h => ⟨h1, h2, h⟩, fun h => h.2.2⟩
    · rw [if_neg (by simpa using h2)]
      congr 1
      exact (decide_eq_false fun h => h2 h.2.1).symm
  · rw [if_neg (by simpa using h1)]
    congr 1
    exact (decide_eq_false fun h => h1 h.1).symm
theorem at_ (s : ByteArray) {j : Nat} (h : j < s.size) : s.data.toList[j]? = some s.data[j]! := by
  have h' : j < s.data.size := h
  rw [Array.getElem?_toList, Array.getElem?_eq_getElem h', getElem!_pos s.data j h']
theorem last_none {s : ByteArray} (h : 47 ∉ s.data.toList) : Lib.lastIndexByte s 47 = -1 := by
  rcases Lib.lastIndexByte_spec s 47 with ⟨e, _⟩ | ⟨i, hi, e, hc, _⟩
  · exact e
  · exfalso
    have := at_ s hi
    rw [u47 hc] at this
    exact h (List.mem_of_getElem? this)
theorem last_some {s : ByteArray} {u x : List UInt8} (e : s.data.toList = u ++ 47 :: x) (h : 47 ∉ x) : Lib.lastIndexByte s 47 = u.length := by
  have hl : s.size = u.length + 1 + x.length := by rw [D_size, e]; simp; omega
  have hu : s.data.toList[u.length]? = some 47 := by rw [e]; simp
  rcases Lib.lastIndexByte_spec s 47 with ⟨_, hn⟩ | ⟨i, hi, e1, hc, hn⟩
  · exfalso
    have h1 := hn u.length (by omega)
    have h2 := at_ s (j := u.length) (by omega)
    rw [hu] at h2
    rw [← Option.some.inj h2] at h1
    exact h1 rfl
  · rw [e1]
    have h1 := at_ s hi
    rw [u47 hc] at h1
    rcases Nat.lt_trichotomy i u.length with h2 | h2 | h2
    · exfalso
      have h3 := hn u.length h2 (by omega)
      have h4 := at_ s (j := u.length) (by omega)
      rw [hu] at h4
      rw [← Option.some.inj h4] at h3
      exact h3 rfl
    · rw [h2]
    · exfalso
      rw [e, List.getElem?_append_right (by omega), show i - u.length = (i - u.length - 1) + 1 by omega, List.getElem?_cons_succ] at h1
      exact h (List.mem_of_getElem? h1)
theorem last_part : ∀ l : List UInt8, 47 ∉ l ∨ ∃ u x, l = u ++ 47 :: x ∧ 47 ∉ x
  | [] => .inl (by simp)
  | b :: l => by
    rcases last_part l with h | ⟨u, x, e, hx⟩
    · by_cases hb : b = 47
      · exact .inr ⟨[], l, by rw [hb]; rfl, h⟩
      · refine .inl fun hm => ?_
        rcases List.mem_cons.1 hm with hm | hm
        · exact hb hm.symm
        · exact h hm
    · exact .inr ⟨b :: u, x, by rw [e]; rfl, hx⟩
theorem parts_bad {s : ByteArray} (h : s.size < 4294967281) (hg : ¬ Gd s.data.toList) : path_parts.f s = some (⟨#[]⟩, ⟨#[]⟩, false) := by
  unfold path_parts.f
  rw [Good_eq h, Option.bind_some, if_neg (by simpa using hg)]
theorem parts_one {s : ByteArray} (h : s.size < 4294967281) (hg : Gd s.data.toList) (hn : 47 ∉ s.data.toList) : path_parts.f s = some (⟨#[]⟩, s, true) := by
  unfold path_parts.f strings_LastIndex.f
  rw [Good_eq h, Option.bind_some, if_pos (decide_eq_true hg), if_pos rfl, if_pos (by omega), Option.bind_some, last_none hn, show mx (-1) 0 = 0 from rfl, if_pos (by decide), if_pos (by omega), show wrap64 (-1 + 1) = 0 from by unfold wrap64; omega, if_pos (by decide), if_pos (by omega)]
  congr 2
  · exact bext (by rw [D_ex]; simp)
  · congr 1
    exact bext (by rw [D_ex, List.take_of_length_le (by rw [D_size]; exact Nat.le_refl _)]; rfl)
theorem parts_more {s : ByteArray} {u x : List UInt8} (h : s.size < 4294967281) (hg : Gd s.data.toList) (e : s.data.toList = u ++ 47 :: x) (hn : 47 ∉ x) : path_parts.f s = some (⟨u.toArray⟩, ⟨x.toArray⟩, true) := by
  have hl : s.size = u.length + 1 + x.length := by rw [D_size, e]; simp; omega
  have hm : mx (u.length : Int) 0 = u.length := by unfold mx; omega
  have hw : wrap64 ((u.length : Int) + 1) = ((u.length + 1 : Nat) : Int) := by rw [wrap_id (by omega) (by omega)]; rfl
  unfold path_parts.f strings_LastIndex.f
  rw [Good_eq h, Option.bind_some, if_pos (decide_eq_true hg), if_pos rfl, if_pos (by omega), Option.bind_some, last_some e hn, hm, if_pos (by omega), if_pos (by omega), hw, if_pos (by omega), if_pos (by omega)]
  congr 2
  · refine bext ?_
    rw [D_ex, e, Int.toNat_natCast]
    simp
  · congr 1
    refine bext ?_
    rw [D_ex, e, Int.toNat_natCast, hl]
    rw [List.take_of_length_le (by simp; omega)]
    simp
theorem Up_of {s a b : ByteArray} {t : Bool} (h : path_parts.f s = some (a, b, t)) : path_Up.f s = some (a, t) := by unfold path_Up.f; rw [h]; rfl
