/- Put together by pack.py: PureTreeMoves -/
import Derived.Test.YtidlldfghkaeeaaDoorZmTreeMov
import Derived.Test.YtidlldfghkaeeaaDoorZmPfTallymanlaw8TreeMoves
namespace Go.Proofs.YtidlldfghkaeeaaDoor.Pure
open Go.RowKit Go.Proofs.YtidlldfghkaeeaaDoor.P Go.Proofs.YtidlldfghkaeeaaDoorW.PrintWords Go.Proofs.YtidlldfghkaeeaaDoorW.PrintLast
set_option linter.unusedVariables false
set_option linter.unusedSimpArgs false
theorem nB_leM {B : Nat} : ∀ {l : List S30}, (∀ x ∈ l, x.f2.length ≤ B) → nB30 l ≤ l.length * B
  | [], _ => by simp [nB30, nB]
  | x :: l, h => by
    have h1 := h x List.mem_cons_self
    have h2 := nB_leM (l := l) fun y hy => h y (List.mem_cons_of_mem _ hy)
    unfold nB30 at h2 ⊢
    rw [nB_cons, List.length_cons, Nat.succ_mul]
    omega
theorem okT_smallM {l : List S30} (h0 : ∀ x ∈ l, x.f0.size ≤ 1048576 ∧ x.f2.length ≤ 1048576) (hl : l.length ≤ 40) : okT l := by
  have h1 := nB_leM (B := 1048576) fun x hx => (h0 x hx).2
  have h2 : l.length * 1048576 ≤ 40 * 1048576 := Nat.mul_le_mul_right _ hl
  exact ⟨okP_iff.2 ⟨fun x hx => by have := (h0 x hx).1; omega, by omega⟩, by omega⟩
theorem tree_Move.eq {l : List S30} {p q : ByteArray} (h : okT l) (hp : p.size < 4294967280) (hq : q.size < 4294967280) : tree_Move.f l p q = some (move0 l p q) := by
  unfold tree_Move.f
  rw [if_pos ⟨h, hp, hq⟩]
theorem TreeMoves (l0 : List S30) (a1 a2 : ByteArray) (h0 : ∀ x ∈ l0, x.f0.size ≤ 1048576 ∧ x.f2.length ≤ 1048576) : ∃ k, tallymanlaw8_TreeMoves.f k l0 a1 a2 = some true := by
  refine ⟨54, ?_⟩
  have hj : tallymanlaw8_TreeMoves.j0 (53 + 1) a1 a2 true l0 = some true := by rw [tallymanlaw8_TreeMoves.j0, if_pos rfl]
  unfold tallymanlaw8_TreeMoves.f
  rw [show tallymanlaw8_awake.f = some true from rfl, Option.bind_some, if_pos rfl]
  by_cases q1 : (l0.length : Int) > 40
  · rw [if_pos q1]
    exact hj
  · have hok := okT_smallM h0 (by omega)
    rw [if_neg q1, tree_Good.eq hok, Option.bind_some]
    by_cases hg : GT30 l0
    · rw [if_pos (decide_eq_true hg), tree_Bytes.eq hok (by decide), if_pos hg, Option.bind_some]
      by_cases q2 : (nB30 l0 : Int) > 5000
      · rw [if_pos q2]
        exact hj
      · rw [if_neg q2]
        by_cases q3 : (a1.size : Int) > 100
        · rw [if_pos q3]
          exact hj
        · rw [if_neg q3]
          by_cases q4 : (a2.size : Int) > 100
          · rw [decide_eq_true q4]
            exact hj
          · rw [decide_eq_false q4]
            have hp : a1.size < 4294967280 := by omega
            have hq : a2.size < 4294967280 := by omega
            obtain ⟨r1, r2, r3, hf⟩ := tree_Find.eq hok hq
            have hmg := move0_GT (p := a1) (q := a2) hg
            show tallymanlaw8_TreeMoves.j0 (53 + 1) a1 a2 false l0 = some true
            rw [tallymanlaw8_TreeMoves.j0, if_neg Bool.false_ne_true, hf, Option.bind_some, tree_Move.eq hok hp hq, Option.bind_some]
            dsimp only
            by_cases e : (move0 l0 a1 a2).2 = 0
            · rw [if_pos e]
              by_cases e5 : findE l0 a2 = 5
              · obtain ⟨hb, hlen, hnb⟩ := move0_back e (findE_five.1 e5).2.2
                rw [if_pos e5, tree_Move.eq (GT_okT hmg) hq hp, Option.bind_some, hb]
                dsimp only
                rw [if_pos rfl, tree_Same.self (GT_okT hg) hg, Option.bind_some, if_pos rfl, tree_Bytes.eq (GT_okT hmg) (by decide), if_pos hmg, Option.bind_some, tree_Bytes.eq (GT_okT hg) (by decide), if_pos hg, Option.bind_some, hnb, if_pos rfl, hlen]
                simp
              · rw [if_neg e5, tree_Good.eq (GT_okT hmg), Option.bind_some, decide_eq_true hmg]
            · rw [if_neg e, move0_not e, tree_Same.self (GT_okT hg) hg, Option.bind_some]
    · rw [if_neg (by simpa using hg)]
      exact hj
end Go.Proofs.YtidlldfghkaeeaaDoor.Pure
