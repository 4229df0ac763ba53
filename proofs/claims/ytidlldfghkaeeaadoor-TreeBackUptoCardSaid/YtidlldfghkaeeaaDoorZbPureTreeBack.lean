/- Put together by pack.py: PureTreeBack -/
import Derived.Test.YtidlldfghkaeeaaDoorZbTreeLaws
import Derived.Test.YtidlldfghkaeeaaDoorZbPfTallymanlaw8TreeBack
namespace Go.Proofs.YtidlldfghkaeeaaDoor.Pure
open Go.RowKit Go.Proofs.YtidlldfghkaeeaaDoor.P Go.Proofs.YtidlldfghkaeeaaDoorW.PrintWords Go.Proofs.YtidlldfghkaeeaaDoorW.PrintLast
set_option linter.unusedVariables false
set_option linter.unusedSimpArgs false
theorem nB_le {B : Nat} : ∀ {l : List S30}, (∀ x ∈ l, x.f2.length ≤ B) → nB30 l ≤ l.length * B
  | [], _ => by simp [nB30, nB]
  | x :: l, h => by
    have h1 := h x List.mem_cons_self
    have h2 := nB_le (l := l) fun y hy => h y (List.mem_cons_of_mem _ hy)
    unfold nB30 at h2 ⊢
    rw [nB_cons, List.length_cons, Nat.succ_mul]
    omega
theorem okT_small {l : List S30} (h0 : ∀ x ∈ l, x.f0.size ≤ 1048576 ∧ x.f2.length ≤ 1048576) (hl : l.length ≤ 40) : okT l := by
  have h1 := nB_le (B := 1048576) fun x hx => (h0 x hx).2
  have h2 : l.length * 1048576 ≤ 40 * 1048576 := Nat.mul_le_mul_right _ hl
  exact ⟨okP_iff.2 ⟨fun x hx => by have := (h0 x hx).1; omega, by omega⟩, by omega⟩
section
variable {l x y : List S30} {p : ByteArray} {f n : Int}
theorem back_j3 (k : Nat) (hx : GT30 x) (hy : GT30 y) : tallymanlaw8_TreeBack.j3 (k + 1) false x y = some true := by
  rw [tallymanlaw8_TreeBack.j3, if_neg Bool.false_ne_true, tree_Good.eq (GT_okT hx), Option.bind_some, if_pos (decide_eq_true hx), tree_Good.eq (GT_okT hy), Option.bind_some, decide_eq_true hy]
theorem back_j2 (k : Nat) (hl : GT30 l) (hx : GT30 x) (hy : GT30 y) (hp : p.size < 4294967280) (hB : f = 0 → rem0 y p = (l, 0) ∧ n = 5) : tallymanlaw8_TreeBack.j2 (k + 2) p n f l x y = some true := by
  rw [tallymanlaw8_TreeBack.j2]
  by_cases hf : f = 0
  · obtain ⟨h1, rfl⟩ := hB hf
    rw [if_pos hf, tree_Remove.eq (GT_okT hy) hp, h1, Option.bind_some, if_pos rfl, tree_Same.self (GT_okT hl) hl, Option.bind_some, if_pos rfl]
    exact back_j3 k hx hy
  · rw [if_neg hf, tree_Good.eq (GT_okT hx), Option.bind_some, if_pos (decide_eq_true hx), tree_Good.eq (GT_okT hy), Option.bind_some, decide_eq_true hy]
theorem back_j1 (k : Nat) (b : Bool) (hl : GT30 l) (hx : GT30 x) (hy : GT30 y) (hp : p.size < 4294967280) (hA : b = true → rem0 x p = (l, 0)) (hB : f = 0 → rem0 y p = (l, 0) ∧ n = 5) : tallymanlaw8_TreeBack.j1 (k + 3) p n f b l x y = some true := by
  rw [tallymanlaw8_TreeBack.j1]
  by_cases hb : b = true
  · rw [if_pos hb, tree_Remove.eq (GT_okT hx) hp, hA hb, Option.bind_some, if_pos rfl, tree_Same.self (GT_okT hl) hl, Option.bind_some, if_pos rfl]
    exact back_j2 k hl hx hy hp hB
  · rw [if_neg hb]
    exact back_j2 k hl hx hy hp hB
end
theorem TreeBack (l0 : List S30) (a1 : ByteArray) (l2 : List Int) (h0 : ∀ x ∈ l0, x.f0.size ≤ 1048576 ∧ x.f2.length ≤ 1048576) : ∃ k, tallymanlaw8_TreeBack.f k l0 a1 l2 = some true := by
  refine ⟨54, ?_⟩
  have hj : tallymanlaw8_TreeBack.j0 (53 + 1) a1 l2 true l0 = some true := by rw [tallymanlaw8_TreeBack.j0, if_pos rfl]
  unfold tallymanlaw8_TreeBack.f
  rw [show tallymanlaw8_awake.f = some true from rfl, Option.bind_some, if_pos rfl]
  by_cases q1 : (l0.length : Int) > 40
  · rw [if_pos q1]
    exact hj
  · have hok := okT_small h0 (by omega)
    rw [if_neg q1, tree_Good.eq hok, Option.bind_some]
    by_cases hg : GT30 l0
    · rw [if_pos (decide_eq_true hg), tree_Bytes.eq hok (by decide), if_pos hg, Option.bind_some]
      by_cases q2 : (nB30 l0 : Int) > 5000
      · rw [if_pos q2]
        exact hj
      · rw [if_neg q2]
        by_cases q3 : (a1.size : Int) > 100
        · rw [if_pos q3]
          exact hj
        · rw [if_neg q3]
          by_cases q4 : (l2.length : Int) > 500
          · rw [decide_eq_true q4]
            exact hj
          · rw [decide_eq_false q4]
            have hp : a1.size < 4294967280 := by omega
            obtain ⟨r1, r2, r3, hf⟩ := tree_Find.eq hok hp
            show tallymanlaw8_TreeBack.j0 (53 + 1) a1 l2 false l0 = some true
            rw [tallymanlaw8_TreeBack.j0, if_neg Bool.false_ne_true, hf, Option.bind_some, tree_Put.eq hok hp (by omega), Option.bind_some, tree_Make.eq hok hp, Option.bind_some]
            dsimp only
            have hput : GT30 (put0 l0 a1 l2).1 ∧ ((put0 l0 a1 l2).2 = 0 → findE l0 a1 = 5 → rem0 (put0 l0 a1 l2).1 a1 = (l0, 0)) := by
              unfold put0
              rw [if_pos hg]
              by_cases hd : Gd a1.data.toList
              · rw [if_pos hd]
                rcases with1_cases (d := false) (b := l2) hg hd (fun h => by cases h) with ⟨h1, h2⟩ | ⟨h1, h2, _, _⟩
                · rw [h1]
                  exact ⟨hg, fun h => absurd h h2⟩
                · rw [h1]
                  exact ⟨h2, fun _ h => rem_ins hg hd (findE_five.1 h).2.2 h2⟩
              · rw [if_neg hd]
                exact ⟨hg, fun h => by cases h⟩
            have hmake : GT30 (make0 l0 a1).1 ∧ ((make0 l0 a1).2 = 0 → rem0 (make0 l0 a1).1 a1 = (l0, 0) ∧ findE l0 a1 = 5) := by
              unfold make0
              by_cases e0 : findE l0 a1 = 0
              · rw [if_pos e0]
                exact ⟨hg, fun h => by cases h⟩
              · rw [if_neg e0]
                by_cases e5 : findE l0 a1 = 5
                · obtain ⟨_, hd, hn⟩ := findE_five.1 e5
                  rw [if_pos e5]
                  rcases with1_cases (d := true) (b := []) hg hd (fun _ => rfl) with ⟨h1, h2⟩ | ⟨h1, h2, _, _⟩
                  · rw [h1]
                    exact ⟨hg, fun h => absurd h h2⟩
                  · rw [h1]
                    exact ⟨h2, fun _ => ⟨rem_ins hg hd hn h2, e5⟩⟩
                · rw [if_neg e5]
                  exact ⟨hg, fun h => absurd h e0⟩
            by_cases e : (put0 l0 a1 l2).2 = 0
            · rw [if_pos e]
              exact back_j1 50 _ hg hput.1 hmake.1 hp (fun h => hput.2 e (beq_iff_eq.1 h)) hmake.2
            · rw [if_neg e]
              exact back_j1 50 _ hg hput.1 hmake.1 hp (fun h => by cases h) hmake.2
    · rw [if_neg (by simpa using hg)]
      exact hj
end Go.Proofs.YtidlldfghkaeeaaDoor.Pure
