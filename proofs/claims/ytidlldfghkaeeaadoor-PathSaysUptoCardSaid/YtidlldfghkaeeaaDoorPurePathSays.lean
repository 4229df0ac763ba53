/- PathSays, the plain part. -/
import Derived.Test.YtidlldfghkaeeaaDoorRefFns
import Derived.Test.YtidlldfghkaeeaaDoorRefSort
import Derived.Test.YtidlldfghkaeeaaDoorPx4
namespace Go.Proofs.YtidlldfghkaeeaaDoor.Pure
open Go.RowKit Go.Proofs.YtidlldfghkaeeaaDoor.P Go.Proofs.YtidlldfghkaeeaaDoorW.PrintWords Go.Proofs.YtidlldfghkaeeaaDoorW.PrintLast
set_option linter.unusedVariables false
set_option linter.unusedSimpArgs false

theorem w1_ {i : Nat} (h : i < 1000000) : wrap64 ((i : Int) + 1) = ((i + 1 : Nat) : Int) := by unfold wrap64; omega
theorem texts_same (S : List ByteArray) (hS : S.length ≤ 60) : ∀ (d i k : Nat), i + d = S.length → d ≤ k → tallymanlaw7_texts.l0 (k + 1) S S (i : Int) = some true
  | 0, i, k, hd, hk => by
    rw [tallymanlaw7_texts.l0, if_neg (by omega)]
  | d + 1, i, k, hd, hk => by
    obtain ⟨k, rfl⟩ : ∃ m, k = m + 1 := ⟨k - 1, by omega⟩
    rw [tallymanlaw7_texts.l0, if_pos (by omega), if_pos (by omega), if_pos (by omega), if_pos rfl, w1_ (by omega)]
    exact texts_same S hS d (i + 1) k (by omega) (by omega)
theorem says_j0 (p q : ByteArray) (l : List ByteArray) (k : Nat) (hk : 100 ≤ k) (hp : p.size ≤ 200) (hq : q.size ≤ 200) (hl : l.length ≤ 60) (hz : ∀ x ∈ l, x.size < 4294967280) : tallymanlaw7_PathSays.j0 (k + 1) p q l false = some true := by
  obtain ⟨k, rfl⟩ : ∃ m, k = m + 1 := ⟨k - 1, by omega⟩
  have hn := srt_len l
  have ht := texts_same (srt l) (by omega) (srt l).length 0 k (by omega) (by omega)
  rw [show ((0 : Nat) : Int) = 0 from rfl] at ht
  have hs : tallymanref7_Sort.f l = some (srt l) := by
    unfold tallymanref7_Sort.f
    rw [if_pos (by omega), if_pos (List.all_eq_true.2 fun x hx => decide_eq_true (hz x hx))]
  have htx : tallymanlaw7_texts.f (k + 1) (srt l) (srt l) = some true := by
    unfold tallymanlaw7_texts.f
    rw [if_pos rfl]
    exact ht
  have hc1 : path_Cmp.f p q = some (cL (sp p.data.toList) (sp q.data.toList)) := by
    unfold path_Cmp.f
    rw [if_pos (by omega), if_pos (by omega)]
  have hc2 : tallymanref7_Cmp.f p q = some (cL (sp p.data.toList) (sp q.data.toList)) := by
    unfold tallymanref7_Cmp.f
    rw [if_pos (by omega), if_pos (by omega)]
  rw [tallymanlaw7_PathSays.j0, if_neg (by decide), Up_eq (by omega), Option.bind_some, RUp_eq (by omega) (by omega), Option.bind_some, Join_eq k (by omega), Option.bind_some, RJoin_eq k (by omega), Option.bind_some,
    Good_eq (by omega), Option.bind_some, RGood_eq (by omega), Option.bind_some, if_pos (beq_self_eq_true _), if_pos rfl, if_pos (beq_self_eq_true _), if_pos rfl, if_pos (beq_self_eq_true _),
    Base_eq (by omega), Option.bind_some, RBase_eq (by omega), Option.bind_some, if_pos rfl, Depth_eq (by omega), Option.bind_some, RDepth_eq (by omega), Option.bind_some, if_pos rfl,
    Under_eq (by omega) (by omega), Option.bind_some, RUnder_eq (by omega) (by omega), Option.bind_some, if_pos (beq_self_eq_true _), Inside_eq (by omega), Option.bind_some, RInside_eq (by omega), Option.bind_some, if_pos (beq_self_eq_true _),
    hc1, Option.bind_some, hc2, Option.bind_some, if_pos rfl, path_Sort_eq (by omega) (fun x hx => by have := hz x hx; omega), Option.bind_some, hs, Option.bind_some, htx, Option.bind_some]
theorem PathSays (p q : ByteArray) (l : List ByteArray) (hz : ∀ x ∈ l, x.size < 4294967280) : ∃ k, tallymanlaw7_PathSays.f k p q l = some true := by
  refine ⟨201, ?_⟩
  have h1 : ∀ l, tallymanlaw7_PathSays.j0 201 p q l true = some true := fun l => by rw [tallymanlaw7_PathSays.j0, if_pos rfl]
  unfold tallymanlaw7_PathSays.f
  rw [awake_eq, Option.bind_some, if_pos rfl]
  by_cases hp : (p.size : Int) > 200
  · rw [if_pos hp]
    exact h1 l
  · rw [if_neg hp]
    by_cases hq : (q.size : Int) > 200
    · rw [if_pos hq]
      exact h1 l
    · rw [if_neg hq]
      by_cases hl : (l.length : Int) > 60
      · rw [decide_eq_true hl]
        exact h1 l
      · rw [decide_eq_false hl]
        exact says_j0 p q l 200 (by omega) (by omega) (by omega) (by omega) hz
end Go.Proofs.YtidlldfghkaeeaaDoor.Pure
