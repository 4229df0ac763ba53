/- PathParts, the plain part: what it is in, and its last name, make it again. Where the texts are no longer than a million bytes. -/
import Derived.Test.YtoedkhoddiefoaaDoorPx2
import Derived.Test.YtoedkhoddiefoaaDoorPx5
import Derived.Test.YtoedkhoddiefoaaDoorCmpFns
namespace Go.Proofs.YtoedkhoddiefoaaDoor.Pure
open Go.RowKit Go.Proofs.YtoedkhoddiefoaaDoor.P Go.Proofs.YtoedkhoddiefoaaDoorW.PrintWords Go.Proofs.YtoedkhoddiefoaaDoorW.PrintLast
set_option linter.unusedVariables false
set_option linter.unusedSimpArgs false

theorem parts_j1 {p q r : ByteArray} (k : Nat) (hp : p.size ≤ 1048576) (hq : q.size ≤ 200) (hr : r.size ≤ 200) (hk : 1048578 ≤ k) : tallymanlaw7_PathParts.j1 (k + 2) p q r false = some true := by
  rw [tallymanlaw7_PathParts.j1, if_neg (by decide), Cmp_eq (by omega) (by omega) (by omega), Option.bind_some, Cmp_eq (by omega) (by omega) (by omega), Option.bind_some, Cmp_eq (by omega) (by omega) (by omega), Option.bind_some, Cmp_eq (by omega) (by omega) (by omega), Option.bind_some]
  have hv := cL_vals (sp p.data.toList) (sp q.data.toList)
  have hw : wrap64 (-cL (sp p.data.toList) (sp q.data.toList)) = cL (sp q.data.toList) (sp p.data.toList) := by
    rw [cL_anti (sp p.data.toList) (sp q.data.toList)]
    unfold wrap64
    omega
  rw [if_pos hw.symm]
  have he : ((cL (sp p.data.toList) (sp q.data.toList) == 0) == (p.toList == q.toList)) = true := by
    rw [beq_iff_eq, Bool.eq_iff_iff, beq_iff_eq, beq_iff_eq, Lib.toList_data, Lib.toList_data, cL_eq]
    exact ⟨fun h => sp_inj h, fun h => by rw [h]⟩
  rw [if_pos he]
  have last : ∀ (f g h : Bool → Option Bool), True → (path_Under.f q p).bind (fun t162 => if t162 = true then ((path_Under.f r q).bind fun t163 => if t163 = true then ((path_Under.f r p).bind fun t164 => some t164) else some true) else some true) = some true := by
    intro _ _ _ _
    rw [Under_eq (by omega) (by omega), Option.bind_some]
    by_cases h1 : Gd q.data.toList ∧ Gd p.data.toList ∧ p.data.toList ++ [47] <+: q.data.toList
    · rw [if_pos (decide_eq_true h1), Under_eq (by omega) (by omega), Option.bind_some]
      by_cases h2 : Gd r.data.toList ∧ Gd q.data.toList ∧ q.data.toList ++ [47] <+: r.data.toList
      · rw [if_pos (decide_eq_true h2), Under_eq (by omega) (by omega), Option.bind_some, decide_eq_true ⟨h2.1, h1.2.1, h1.2.2.trans ((List.prefix_append _ _).trans h2.2.2)⟩]
      · rw [if_neg (by simpa using h2)]
    · rw [if_neg (by simpa using h1)]
  have fin := last some some some trivial
  split
  · exact fin
  · rename_i h1
    split
    · exact fin
    · rename_i h2
      rw [if_pos (cL_trans (sp p.data.toList) (sp q.data.toList) (sp r.data.toList) (by omega) (by omega))]
      exact fin
theorem PathParts (p q r : ByteArray) (hp : p.size ≤ 1048576) : ∃ k, tallymanlaw7_PathParts.f k p q r = some true := by
  refine ⟨1048590, ?_⟩
  unfold tallymanlaw7_PathParts.f
  rw [awake_eq, Option.bind_some, if_pos rfl, Good_eq (by omega), Option.bind_some]
  by_cases hg : Gd p.data.toList
  · rw [if_pos (decide_eq_true hg)]
    by_cases hq : (q.size : Int) > 200
    · rw [if_pos hq]
      rfl
    · rw [if_neg hq]
      by_cases hr : (r.size : Int) > 200
      · rw [decide_eq_true hr]
        rfl
      · rw [decide_eq_false hr]
        show tallymanlaw7_PathParts.j0 (1048589 + 1) p q r false = some true
        rw [tallymanlaw7_PathParts.j0, if_neg (by decide)]
        have hj1 := parts_j1 (p := p) (q := q) (r := r) 1048587 hp (by omega) (by omega) (by omega)
        rcases last_part p.data.toList with h47 | ⟨u, x, e, h47⟩
        · have hP := parts_one (by omega) hg h47
          have hjl : jl (⟨#[]⟩ : ByteArray).data.toList p.data.toList = p.data.toList := by rw [jl, if_pos rfl]
          have hJ := Join_eq (p := ⟨#[]⟩) (x := p) 1048588 (by have : (⟨#[]⟩ : ByteArray).size = 0 := rfl; omega)
          rw [hjl, if_pos ⟨h47, hg⟩] at hJ
          rw [Up_of hP, Option.bind_some, Base_of hP, Option.bind_some]
          dsimp only
          rw [hJ, Option.bind_some, if_pos rfl, if_pos rfl, if_pos (by simp only [Lib.toList_data]), if_pos (by rw [Lib.toList_data])]
          exact hj1
        · have hP := parts_more (by omega) hg e h47
          have hsp : sp p.data.toList = sp u ++ [x] := by rw [e, sp_app, sp_none x h47]
          have hu : u ≠ [] := fun h => by
            have := hg.2 [] (by rw [hsp, h]; simp [sp])
            exact this.1 rfl
          have hgu : Gd u := ⟨by have := hg.1; rw [hsp, List.length_append] at this; omega, fun y hy => hg.2 y (by rw [hsp]; exact List.mem_append_left _ hy)⟩
          have hus : (⟨u.toArray⟩ : ByteArray).size ≤ p.size := by rw [D_size, D_size p, D_mk, e, List.length_append]; omega
          have hxs : (⟨x.toArray⟩ : ByteArray).size ≤ p.size := by rw [D_size, D_size p, D_mk, e]; simp; omega
          have hjl : jl (⟨u.toArray⟩ : ByteArray).data.toList (⟨x.toArray⟩ : ByteArray).data.toList = p.data.toList := by rw [D_mk, D_mk, jl, if_neg hu, e]
          have hJ := Join_eq (p := ⟨u.toArray⟩) (x := ⟨x.toArray⟩) 1048588 (by omega)
          rw [hjl, if_pos ⟨h47, hg⟩] at hJ
          have hpre : (⟨u.toArray⟩ : ByteArray).data.toList ++ [47] <+: p.data.toList := by
            rw [D_mk, e]
            exact ⟨x, by simp⟩
          rw [Up_of hP, Option.bind_some, Base_of hP, Option.bind_some]
          dsimp only
          rw [hJ, Option.bind_some, if_pos rfl, if_pos rfl, if_pos (by simp only [Lib.toList_data]), if_neg (by rw [Lib.toList_data]; exact hu), Under_eq (by omega) (by omega), Option.bind_some, if_pos (decide_eq_true ⟨hg, hgu, hpre⟩),
            Cmp_eq (by omega) (by omega) (by omega), Option.bind_some, D_mk, hsp, if_pos (cL_longer _ _), Depth_eq (by omega), Option.bind_some, Depth_eq (by omega), Option.bind_some, D_mk, if_pos hgu, if_pos hg, hsp]
          have hd : wrap64 (((sp u ++ [x]).length : Nat) - 1 : Int) = ((sp u).length : Int) := by
            have := hgu.1
            rw [List.length_append, List.length_singleton]
            unfold wrap64
            omega
          rw [hd, bne_self_eq_false]
          exact hj1
  · rw [if_neg (by simpa using hg)]
    rfl
end Go.Proofs.YtoedkhoddiefoaaDoor.Pure
