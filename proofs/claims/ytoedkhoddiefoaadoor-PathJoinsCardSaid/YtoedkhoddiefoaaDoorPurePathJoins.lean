/- PathJoins, the plain part: names joined one by one are as deep as there are names. -/
import Derived.Test.YtoedkhoddiefoaaDoorPx1
import Derived.Test.YtoedkhoddiefoaaDoorPx3
import Derived.Test.YtoedkhoddiefoaaDoorPthFns
namespace Go.Proofs.YtoedkhoddiefoaaDoor.Pure
open Go.RowKit Go.Proofs.YtoedkhoddiefoaaDoor.P Go.Proofs.YtoedkhoddiefoaaDoorW.PrintWords Go.Proofs.YtoedkhoddiefoaaDoorW.PrintLast
set_option linter.unusedVariables false
set_option linter.unusedSimpArgs false

theorem jl_sp {p x : List UInt8} (hx : 47 ∉ x) : sp (jl p x) = (if p = [] then [] else sp p) ++ [x] := by
  unfold jl
  split
  · rw [sp_none x hx]
    rfl
  · rw [sp_app, sp_none x hx]
/-- How far it has come: p is made of i names. -/
def St (p : List UInt8) (i : Nat) : Prop := (i = 0 ∧ p = []) ∨ (1 ≤ i ∧ Gd p ∧ (sp p).length = i)
theorem St.join {p x : List UInt8} {i : Nat} (h : St p i) (hx : 47 ∉ x) : Gd (jl p x) ↔ i < 4 ∧ Nm x := by
  unfold Gd
  rw [jl_sp hx]
  rcases h with ⟨rfl, rfl⟩ | ⟨h1, hg, hl⟩
  · simp
  · have hp : p ≠ [] := fun e => by
      subst e
      have := hg.2 [] (by simp [sp])
      exact this.1 rfl
    rw [if_neg hp, List.length_append, List.length_singleton, hl]
    constructor
    · rintro ⟨a, b⟩
      exact ⟨by omega, b x (by simp)⟩
    · rintro ⟨a, b⟩
      refine ⟨by omega, fun y hy => ?_⟩
      rcases List.mem_append.1 hy with hy | hy
      · exact hg.2 y hy
      · rw [List.mem_singleton.1 hy]
        exact b
theorem St.next {p x : List UInt8} {i : Nat} (h : St p i) (hx : 47 ∉ x) (hg : Gd (jl p x)) : St (jl p x) (i + 1) := by
  refine .inr ⟨by omega, hg, ?_⟩
  rw [jl_sp hx]
  rcases h with ⟨rfl, rfl⟩ | ⟨h1, hg, hl⟩
  · simp
  · have hp : p ≠ [] := fun e => by
      subst e
      have := hg.2 [] (by simp [sp])
      exact this.1 rfl
    rw [if_neg hp, List.length_append, hl]
    rfl
theorem one_name {x : List UInt8} : (Gd x ∧ (sp x).length = 1) ↔ (47 ∉ x ∧ Nm x) := by
  constructor
  · rintro ⟨h1, h2⟩
    have hx : 47 ∉ x := by
      rw [sp_len] at h2
      exact List.count_eq_zero.1 (by omega)
    have := h1.2 x (by rw [sp_none x hx]; simp)
    exact ⟨hx, this⟩
  · rintro ⟨h1, h2⟩
    unfold Gd
    rw [sp_none x h1]
    simp [h2]
theorem PathJoins_l0 (l : List ByteArray) (hl : l.length ≤ 6) : ∀ (d i : Nat) (p : ByteArray) (k : Nat), i + d = l.length → 2 * d + 1 ≤ k → St p.data.toList i → p.size ≤ 51 * i →
    tallymanlaw7_PathJoins.l0 (k + 1) l p (i : Int) = some true
  | 0, i, p, k, hd, hk, hs, hp => by
    simp only [tallymanlaw7_PathJoins.l0]
    rw [if_neg (by omega)]
  | d + 1, i, p, k, hd, hk, hs, hp => by
    obtain ⟨k, rfl⟩ : ∃ m, k = m + 2 := ⟨k - 2, by omega⟩
    have hi : i < l.length := by omega
    have hx : rdOf ByteArray.empty l (i : Int) = l[i] := by
      unfold rdOf
      rw [Int.toNat_natCast, List.getD_eq_getElem?_getD, List.getElem?_eq_getElem hi]
      rfl
    have ih := PathJoins_l0 l hl d (i + 1)
    have hw : wrap64 ((i : Int) + 1) = ((i + 1 : Nat) : Int) := by unfold wrap64; omega
    rw [tallymanlaw7_PathJoins.l0, if_pos (by omega), if_pos (by omega), hx]
    generalize hxe : l[i] = x at *
    by_cases h50 : (x.size : Int) > 50
    · rw [if_pos h50]
    · rw [if_neg h50, Join_eq (k + 1) (by omega), Option.bind_some, Good_eq (by omega), Option.bind_some, Depth_eq (by omega)]
      have hD := D_size x
      have hJ : (47 ∉ x.data.toList ∧ Gd (jl p.data.toList x.data.toList)) ↔ ((47 ∉ x.data.toList ∧ Nm x.data.toList) ∧ i < 4) := by
        constructor
        · rintro ⟨h1, h2⟩
          have := (hs.join h1).1 h2
          exact ⟨⟨h1, this.2⟩, this.1⟩
        · rintro ⟨⟨h1, h2⟩, h3⟩
          exact ⟨h1, (hs.join h1).2 ⟨h3, h2⟩⟩
      have hsnd : (if 47 ∉ x.data.toList ∧ Gd (jl p.data.toList x.data.toList) then ((⟨(jl p.data.toList x.data.toList).toArray⟩ : ByteArray), true) else ((⟨#[]⟩ : ByteArray), false)).2 = decide (47 ∉ x.data.toList ∧ Gd (jl p.data.toList x.data.toList)) := by
        by_cases h : 47 ∉ x.data.toList ∧ Gd (jl p.data.toList x.data.toList)
        · rw [if_pos h, decide_eq_true h]
        · rw [if_neg h, decide_eq_false h]
      have key : ∀ b : Bool, b = false →
          tallymanlaw7_PathJoins.j1 (k + 2) l p (i : Int) (if 47 ∉ x.data.toList ∧ Gd (jl p.data.toList x.data.toList) then ((⟨(jl p.data.toList x.data.toList).toArray⟩ : ByteArray), true) else ((⟨#[]⟩ : ByteArray), false)).1 (if 47 ∉ x.data.toList ∧ Gd (jl p.data.toList x.data.toList) then ((⟨(jl p.data.toList x.data.toList).toArray⟩ : ByteArray), true) else ((⟨#[]⟩ : ByteArray), false)).2 b = some true := by
        intro b hbf
        rw [tallymanlaw7_PathJoins.j1, hbf, if_neg (by decide)]
        by_cases hj : 47 ∉ x.data.toList ∧ Gd (jl p.data.toList x.data.toList)
        · rw [if_pos hj, if_pos rfl]
          obtain ⟨h47, hg⟩ := hj
          have hnext := hs.next h47 hg
          have hqs : (⟨(jl p.data.toList x.data.toList).toArray⟩ : ByteArray).size ≤ p.size + 1 + x.size := by
            rw [D_size, D_mk, D_size p, D_size x]
            unfold jl
            split <;> simp <;> omega
          have hlen : (sp (jl p.data.toList x.data.toList)).length = i + 1 := by
            rcases hnext with ⟨h, _⟩ | ⟨_, _, h⟩
            · omega
            · exact h
          have hgo := ih ⟨(jl p.data.toList x.data.toList).toArray⟩ k (by omega) (by omega) hnext (by omega)
          dsimp only
          rw [Depth_eq (by omega), Option.bind_some, D_mk, if_pos hg, hlen, hw, if_pos rfl]
          have hgD : Gd (⟨(jl p.data.toList x.data.toList).toArray⟩ : ByteArray).data.toList := hg
          have hBase : path_Base.f ⟨(jl p.data.toList x.data.toList).toArray⟩ = some x := by
            by_cases hp0 : p.data.toList = []
            · have e : (⟨(jl p.data.toList x.data.toList).toArray⟩ : ByteArray) = x := bext (by rw [D_mk, jl, if_pos hp0])
              rw [e]
              exact Base_of (parts_one (by omega) (by rw [← e]; exact hgD) h47)
            · have e : (⟨(jl p.data.toList x.data.toList).toArray⟩ : ByteArray).data.toList = p.data.toList ++ 47 :: x.data.toList := by rw [D_mk, jl, if_neg hp0]
              rw [Base_of (parts_more (by omega) hgD e h47)]
          rw [hBase, Option.bind_some, if_pos (by omega), if_pos (by omega), hx, if_pos rfl, Lib.toList_data]
          by_cases hp0 : p.data.toList = []
          · rw [if_pos hp0]
            exact hgo
          · rw [if_neg hp0]
            have hgp : Gd p.data.toList := by
              rcases hs with ⟨_, h⟩ | ⟨_, h, _⟩
              · exact absurd h hp0
              · exact h
            have hpre : p.data.toList ++ [47] <+: (⟨(jl p.data.toList x.data.toList).toArray⟩ : ByteArray).data.toList := by
              rw [D_mk, jl, if_neg hp0]
              exact ⟨x.data.toList, by simp⟩
            rw [Under_eq (by omega) (by omega), Option.bind_some, if_pos (decide_eq_true ⟨hgD, hgp, hpre⟩)]
            exact hgo
        · rw [if_neg hj, if_neg (by decide)]
          dsimp only
          rw [Lib.toList_data]
          rfl
      by_cases hg : Gd x.data.toList
      · rw [if_pos (decide_eq_true hg), Option.bind_some, if_pos hg]
        by_cases h1 : ((sp x.data.toList).length : Int) = 1
        · rw [if_pos h1]
          have h2 := one_name.1 ⟨hg, by omega⟩
          refine key _ ?_
          rw [hsnd, show decide (47 ∉ x.data.toList ∧ Gd (jl p.data.toList x.data.toList)) = decide ((i : Int) < 4) from decide_eq_decide.2 ⟨fun h => by have := (hJ.1 h).2; omega, fun h => hJ.2 ⟨h2, by omega⟩⟩]
          simp
        · rw [if_neg h1]
          have h2 : ¬ (47 ∉ x.data.toList ∧ Nm x.data.toList) := fun h => h1 (by have := (one_name.2 h).2; omega)
          refine key _ ?_
          rw [hsnd, decide_eq_false (fun h => h2 (hJ.1 h).1)]
          rfl
      · rw [if_neg (by simpa using hg)]
        have h2 : ¬ (47 ∉ x.data.toList ∧ Nm x.data.toList) := fun h => hg (one_name.2 h).1
        refine key _ ?_
        rw [hsnd, decide_eq_false (fun h => h2 (hJ.1 h).1)]
        rfl
theorem PathJoins : tallymanlaw7_PathJoins.Pure := by
  intro l _
  refine ⟨2 * l.length + 2, ?_⟩
  unfold tallymanlaw7_PathJoins.f
  rw [awake_eq, Option.bind_some, if_pos rfl]
  split
  · rfl
  · exact PathJoins_l0 l (by omega) l.length 0 ⟨#[]⟩ _ (by omega) (by omega) (.inl ⟨rfl, rfl⟩) (by decide)
end Go.Proofs.YtoedkhoddiefoaaDoor.Pure
