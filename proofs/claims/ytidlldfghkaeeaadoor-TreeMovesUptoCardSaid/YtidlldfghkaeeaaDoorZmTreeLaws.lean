/- Put together by pack.py: TreeLaws -/
import Derived.Test.YtidlldfghkaeeaaDoorZmTreeRem
import Derived.Test.YtidlldfghkaeeaaDoorZmPfTreePut
import Derived.Test.YtidlldfghkaeeaaDoorZmPfTreeMake
import Derived.Test.YtidlldfghkaeeaaDoorZmPfTreeBytes
namespace Go.Proofs.YtidlldfghkaeeaaDoor.P
open Go.RowKit Go.Proofs.YtidlldfghkaeeaaDoorW.PrintWords Go.Proofs.YtidlldfghkaeeaaDoorW.PrintLast Go.Proofs.YtidlldfghkaeeaaDoorW.PrintMore
set_option linter.unusedVariables false
set_option linter.unusedSimpArgs false

theorem toList_ne {s : ByteArray} : s.toList = ([] : List UInt8) ↔ s = ⟨#[]⟩ := by
  rw [Lib.toList_data]
  exact ⟨fun h => ByteArray.ext (Array.toList_inj.1 h), fun h => by rw [h]⟩
/-- Whether something may stand in a path's Up: the errno. -/
def upE (l : List S30) (p : ByteArray) : Int := if upB p = ⟨#[]⟩ then 0 else if ∃ x ∈ l, x.f0 = upB p then if ∃ x ∈ l, x.f0 = upB p ∧ x.f1 = true then 0 else 7 else 5
def upOk (l : List S30) (p : ByteArray) : Prop := upL p.data.toList = [] ∨ ∃ d ∈ l, d.f0 = upB p ∧ d.f1 = true
theorem upE_zero {l : List S30} {p : ByteArray} : upE l p = 0 ↔ upOk l p := by
  unfold upE upOk
  rw [← upB_nil]
  by_cases h1 : upB p = ⟨#[]⟩
  · simp [h1]
  · rw [if_neg h1]
    by_cases h2 : ∃ x ∈ l, x.f0 = upB p ∧ x.f1 = true
    · obtain ⟨x, hx, h3, h4⟩ := h2
      rw [if_pos ⟨x, hx, h3⟩, if_pos ⟨x, hx, h3, h4⟩]
      exact ⟨fun _ => .inr ⟨x, hx, h3, h4⟩, fun _ => rfl⟩
    · rw [if_neg h2]
      constructor
      · intro h
        split at h <;> cases h
      · rintro (h | h)
        · exact absurd h h1
        · exact absurd h h2
theorem tree_up.eq {l : List S30} {p : ByteArray} (h : okT l) (hp : p.size < 4294967280) (hs : Srt S30.f0 l) (hg : Gd p.data.toList) : tree_up.f l p = some (upE l p) := by
  unfold tree_up.f upE
  rw [Up_eq (by omega), if_pos hg, Option.bind_some]
  dsimp only
  by_cases h1 : upB p = ⟨#[]⟩
  · rw [if_pos (toList_ne.2 h1), if_pos h1]
  · rw [if_neg (fun e => h1 (toList_ne.1 e)), if_neg h1, tree_find.eq h (by have := upB_size hg; omega) hs, Option.bind_some]
    dsimp only
    by_cases h2 : ∃ x ∈ l, x.f0 = upB p
    · obtain ⟨hlt, hat⟩ := (lowB_at hs).2 h2
      rw [if_pos (decide_eq_true h2), if_pos h2, if_pos (Int.natCast_nonneg _), if_pos (by omega), rdT hlt]
      by_cases h3 : ∃ x ∈ l, x.f0 = upB p ∧ x.f1 = true
      · obtain ⟨x, hx, h4, h5⟩ := h3
        have e : x = l[lowB S30.f0 (upB p) l] := srt_key hs hx (List.getElem_mem hlt) (h4.trans hat.symm)
        rw [if_pos (by rw [← e]; exact h5), if_pos ⟨x, hx, h4, h5⟩]
      · rw [if_neg (fun h => h3 ⟨_, List.getElem_mem hlt, hat, h⟩), if_neg h3]
    · rw [if_neg (by simpa using h2), if_neg h2]
def with1 (l : List S30) (p : ByteArray) (d : Bool) (b : List Int) : List S30 × Int := if upE l p = 0 then with0 l p d b else (l, upE l p)
theorem tree_with.eq {l : List S30} {p : ByteArray} {d : Bool} {b : List Int} (h : okT l) (hp : p.size < 4294967280) (hg : GT30 l) (hd : Gd p.data.toList) (hb : b.length ≤ 1000000000000) : tree_with.f l p d b = some (with1 l p d b) := by
  unfold tree_with.f with1
  rw [if_pos ⟨h.1, hp, hg.2.2.1, hb, h.2, by have := hg.1; omega⟩, tree_up.eq h hp hg.2.2.1 hd, Option.bind_some]
  split
  · rfl
  · rfl
def put0 (l : List S30) (p : ByteArray) (b : List Int) : List S30 × Int := if GT30 l then if Gd p.data.toList then with1 l p false b else (l, 4) else (l, 1)
theorem tree_Put.eq {l : List S30} {p : ByteArray} {b : List Int} (h : okT l) (hp : p.size < 4294967280) (hb : b.length ≤ 1000000000000) : tree_Put.f l p b = some (put0 l p b) := by
  unfold tree_Put.f put0
  rw [tree_Good.eq h, Option.bind_some]
  by_cases hg : GT30 l
  · rw [if_pos (decide_eq_true hg), if_pos hg, Good_eq (by omega), Option.bind_some]
    by_cases hd : Gd p.data.toList
    · rw [if_pos (decide_eq_true hd), if_pos hd, tree_with.eq h hp hg hd hb]
      rfl
    · rw [if_neg (by simpa using hd), if_neg hd]
  · rw [if_neg (by simpa using hg), if_neg hg]
def make0 (l : List S30) (p : ByteArray) : List S30 × Int := if findE l p = 0 then (l, 6) else if findE l p = 5 then with1 l p true [] else (l, findE l p)
theorem findE_five {l : List S30} {p : ByteArray} : findE l p = 5 ↔ GT30 l ∧ Gd p.data.toList ∧ ∀ x ∈ l, x.f0 ≠ p := by
  unfold findE
  constructor
  · intro h
    split at h
    · rename_i h1
      split at h
      · rename_i h2
        split at h
        · cases h
        · rename_i h3
          exact ⟨h1, h2, fun x hx e => h3 ⟨x, hx, e⟩⟩
      · cases h
    · cases h
  · rintro ⟨h1, h2, h3⟩
    rw [if_pos h1, if_pos h2, if_neg (fun ⟨x, hx, e⟩ => h3 x hx e)]
theorem findE_zero {l : List S30} {p : ByteArray} : findE l p = 0 ↔ GT30 l ∧ Gd p.data.toList ∧ ∃ x ∈ l, x.f0 = p := by
  unfold findE
  constructor
  · intro h
    split at h
    · rename_i h1
      split at h
      · rename_i h2
        split at h
        · rename_i h3
          exact ⟨h1, h2, h3⟩
        · cases h
      · cases h
    · cases h
  · rintro ⟨h1, h2, h3⟩
    rw [if_pos h1, if_pos h2, if_pos h3]
theorem tree_Make.eq {l : List S30} {p : ByteArray} (h : okT l) (hp : p.size < 4294967280) : tree_Make.f l p = some (make0 l p) := by
  unfold tree_Make.f make0
  obtain ⟨r1, r2, r3, he⟩ := tree_Find.eq h hp
  rw [he, Option.bind_some]
  dsimp only
  by_cases h0 : findE l p = 0
  · rw [if_pos h0, if_pos h0]
  · rw [if_neg h0, if_neg h0]
    by_cases h5 : findE l p = 5
    · obtain ⟨hg, hd, _⟩ := findE_five.1 h5
      rw [if_pos h5, if_pos h5, tree_with.eq h hp hg hd (by decide)]
      rfl
    · rw [if_neg h5, if_neg h5]
theorem tree_Bytes.eq {l : List S30} {k : Nat} (h : okT l) (hk : 40 < k) : tree_Bytes.f k l = some (if GT30 l then (nB30 l : Int) else 0) := by
  unfold tree_Bytes.f
  rw [tree_Good.eq h, Option.bind_some]
  by_cases hg : GT30 l
  · have hl := hg.1
    rw [if_pos (decide_eq_true hg), if_pos hg, count_eq (by omega) (by omega) (by have := h.2; omega)]
    rfl
  · rw [if_neg (by simpa using hg), if_neg hg]
theorem tree_Remove.eq {l : List S30} {p : ByteArray} (h : okT l) (hp : p.size < 4294967280) : tree_Remove.f l p = some (rem0 l p) := by
  unfold tree_Remove.f
  rw [if_pos ⟨h, hp⟩]
theorem tree_Same.eq {l l' : List S30} (h : okT l) (h' : okT l') : tree_Same.f l l' = some (decide (GT30 l) && decide (GT30 l') && sameL l l') := by
  unfold tree_Same.f
  rw [if_pos ⟨h, h'⟩]
theorem tree_Same.self {l : List S30} (h : okT l) (hg : GT30 l) : tree_Same.f l l = some true := by
  rw [tree_Same.eq h h, decide_eq_true hg, sameL_self]
  rfl
/-- A tree is small. -/
theorem GT_okT {l : List S30} (h : GT30 l) : okT l := by
  have h1 := h.1
  have h2 : nB30 l ≤ 16384 := h.2.1
  refine ⟨okP_iff.2 ⟨fun x hx => ?_, by omega⟩, by omega⟩
  have := gd_len (h.2.2.2 x hx).1
  rw [D_size]
  omega
/-- An entry more is a tree. -/
theorem GT_ins {l : List S30} {p : ByteArray} {d : Bool} {b : List Int} (h : GT30 l) (hg : Gd p.data.toList) (hu : upOk l p) (hdb : d = true → b = []) (hn : ¬ ∃ x ∈ l, x.f0 = p ∧ x.f1 = true) (h1 : (insT l p d b).length ≤ 40) (h2 : b.length ≤ 2048) (h3 : nB30 (insT l p d b) ≤ 16384) : GT30 (insT l p d b) := by
  have hs := h.2.2.1
  have hmem : ∀ y, y ∈ insT l p d b ↔ y = ⟨p, d, b⟩ ∨ (y ∈ l ∧ y.f0 ≠ p) := fun y => insE_mem hs
  have hup : ∀ q : ByteArray, (∃ x ∈ l, x.f0 = q ∧ x.f1 = true) → ∃ x ∈ insT l p d b, x.f0 = q ∧ x.f1 = true := by
    rintro q ⟨x, hx, e1, e2⟩
    refine ⟨x, (hmem x).2 (.inr ⟨hx, fun e => hn ⟨x, hx, e, e2⟩⟩), e1, e2⟩
  refine ⟨h1, h3, insE_srt hs, fun y hy => ?_⟩
  rcases (hmem y).1 hy with rfl | ⟨hy, hyp⟩
  · exact ⟨hg, hdb, h2, hu.imp id (fun h => hup _ h)⟩
  · obtain ⟨a1, a2, a3, a4⟩ := h.2.2.2 y hy
    exact ⟨a1, a2, a3, a4.imp id (fun h => hup _ h)⟩
/-- What tree.with comes to, on trees. -/
theorem with1_cases {l : List S30} {p : ByteArray} {d : Bool} {b : List Int} (h : GT30 l) (hg : Gd p.data.toList) (hdb : d = true → b = []) : ((with1 l p d b).1 = l ∧ (with1 l p d b).2 ≠ 0) ∨ (with1 l p d b = (insT l p d b, 0) ∧ GT30 (insT l p d b) ∧ upOk l p ∧ ¬ ∃ x ∈ l, x.f0 = p ∧ x.f1 = true) := by
  unfold with1
  by_cases hu : upE l p = 0
  · rw [if_pos hu]
    unfold with0
    by_cases h1 : ∃ x ∈ l, x.f0 = p ∧ x.f1 = true
    · rw [if_pos h1]
      exact .inl ⟨rfl, by show (7 : Int) ≠ 0; decide⟩
    · rw [if_neg h1]
      by_cases h2 : (insT l p d b).length > 40 ∨ b.length > 2048 ∨ nB30 (insT l p d b) > 16384
      · rw [if_pos h2]
        exact .inl ⟨rfl, by show (9 : Int) ≠ 0; decide⟩
      · rw [if_neg h2]
        have hu' := upE_zero.1 hu
        exact .inr ⟨rfl, GT_ins h hg hu' hdb h1 (by omega) (by omega) (by omega), hu', h1⟩
  · rw [if_neg hu]
    exact .inl ⟨rfl, hu⟩
/-- Put in anew, and removed. -/
theorem rem_ins {l : List S30} {p : ByteArray} {d : Bool} {b : List Int} (h : GT30 l) (hg : Gd p.data.toList) (hn : ∀ y ∈ l, y.f0 ≠ p) (hi : GT30 (insT l p d b)) : rem0 (insT l p d b) p = (l, 0) := by
  have hs := h.2.2.1
  have hmem : ∀ y, y ∈ insT l p d b ↔ y = ⟨p, d, b⟩ ∨ (y ∈ l ∧ y.f0 ≠ p) := fun y => insE_mem hs
  unfold rem0
  rw [if_pos (findE_zero.2 ⟨hi, hg, ⟨p, d, b⟩, (hmem _).2 (.inl rfl), rfl⟩)]
  have hk : kidsL (insT l p d b) p = [] := by
    unfold kidsL
    rw [if_pos hi, List.map_eq_nil_iff, List.filter_eq_nil_iff]
    intro y hy e
    have e := of_decide_eq_true e
    rcases (hmem y).1 hy with rfl | ⟨hy, _⟩
    · exact up_ne hg e
    · obtain ⟨_, _, _, a4⟩ := h.2.2.2 y hy
      rcases a4 with a4 | ⟨x, hx, e1, _⟩
      · exact gd_ne hg (e ▸ upB_nil.2 a4)
      · exact hn x hx (e1.trans e)
  rw [hk, if_neg (by decide)]
  exact congrArg (fun z => (z, (0 : Int))) (del_ins (e := (⟨p, d, b⟩ : S30)) hs hn)
end Go.Proofs.YtidlldfghkaeeaaDoor.P
