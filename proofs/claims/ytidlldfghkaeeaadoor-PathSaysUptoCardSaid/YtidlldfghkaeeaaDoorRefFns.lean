/- What the document's own functions over paths come to. -/
import Derived.Test.YtidlldfghkaeeaaDoorPthFns
import Derived.Test.YtidlldfghkaeeaaDoorPthUp
import Derived.Test.YtidlldfghkaeeaaDoorRefCmp
namespace Go.Proofs.YtidlldfghkaeeaaDoor.P
open Go.RowKit Go.Proofs.YtidlldfghkaeeaaDoorW.PrintWords Go.Proofs.YtidlldfghkaeeaaDoorW.PrintLast Go.Proofs.YtidlldfghkaeeaaDoorW.PrintMore
set_option linter.unusedVariables false
set_option linter.unusedSimpArgs false

theorem RGood_eq {s : ByteArray} (h : s.size < 4294967280) : tallymanref7_Good.f s = some (decide (Gd s.data.toList)) := by
  unfold tallymanref7_Good.f
  rw [if_pos h]
theorem Rnames_eq {s : ByteArray} (h : s.size < 4294967280) : tallymanref7_names.f s = some ((sp s.data.toList).map mkB) := by
  unfold tallymanref7_names.f
  rw [if_pos h]
theorem mkB_data (x : List UInt8) : (mkB x).data.toList = x := rfl
theorem rdM {xs : List (List UInt8)} {i : Nat} (h : i < xs.length) : rdOf ByteArray.empty (xs.map mkB) (i : Int) = mkB xs[i] := by
  unfold rdOf
  rw [Int.toNat_natCast, List.getD_eq_getElem?_getD, List.getElem?_map, List.getElem?_eq_getElem h]
  rfl
theorem Up_eq {s : ByteArray} (h : s.size < 4294967281) : path_Up.f s = some (if Gd s.data.toList then (upB s, true) else (⟨#[]⟩, false)) := by
  by_cases hg : Gd s.data.toList
  · rw [if_pos hg]
    rcases last_part s.data.toList with h1 | ⟨u, x, e, hx⟩
    · rw [Up_of (parts_one h hg h1)]
      unfold upB
      rw [upL_one h1]
    · rw [Up_of (parts_more h hg e hx)]
      unfold upB
      rw [e, upL_more hx]
  · rw [if_neg hg, Up_of (parts_bad h hg)]
theorem RUp_l0 (xs : List (List UInt8)) (hn : xs.length ≤ 4) (hz : ∀ x ∈ xs, x.length ≤ 16) : ∀ (d i k : Nat) (acc : ByteArray), i + d + 1 = xs.length → d < k → acc.data.toList = jn (xs.take i) →
    tallymanref7_Up.l0 k (xs.map mkB) acc (i : Int) = some (⟨(jn (xs.take (i + d))).toArray⟩, true)
  | 0, i, k, acc, hd, hk, ha => by
    obtain ⟨k, rfl⟩ : ∃ m, k = m + 1 := ⟨k - 1, by omega⟩
    have hw : wrap64 ((i : Int) + 1) = ((i + 1 : Nat) : Int) := by unfold wrap64; omega
    rw [tallymanref7_Up.l0, hw, if_neg (by rw [List.length_map]; omega)]
    congr 2
    exact bext (by rw [ha]; rfl)
  | d + 1, i, k, acc, hd, hk, ha => by
    obtain ⟨k, rfl⟩ : ∃ m, k = m + 1 := ⟨k - 1, by omega⟩
    have hw : wrap64 ((i : Int) + 1) = ((i + 1 : Nat) : Int) := by unfold wrap64; omega
    have hi : i < xs.length := by omega
    have hb := hz _ (List.getElem_mem hi)
    have hal : acc.size ≤ 68 := by
      have h1 := jn_len (xs.take i) (fun x hx => hz x (List.mem_of_mem_take hx))
      rw [List.length_take] at h1
      rw [D_size, ha]
      omega
    have hms : (mkB xs[i]).size ≤ 16 := by rw [D_size]; exact hb
    have hs : (acc ++ (⟨#[47]⟩ : ByteArray)).size = acc.size + 1 := by rw [ByteArray.size_append]; rfl
    have ht : xs.take (i + 1) = xs.take i ++ [xs[i]] := by rw [List.take_add_one, List.getElem?_eq_getElem hi]; rfl
    rw [tallymanref7_Up.l0, hw, if_pos (by rw [List.length_map]; omega), List.length_map, rdM hi, hs]
    by_cases h0 : i = 0
    · subst h0
      rw [if_neg (by omega), if_pos (by omega), if_pos (by omega), if_pos (by omega)]
      have h := RUp_l0 xs hn hz d 1 k (acc ++ mkB xs[0]) (by omega) (by omega) (by rw [D_app, ha, ht]; rfl)
      rw [show 0 + (d + 1) = 1 + d by omega]
      exact h
    · rw [if_pos (by omega), if_pos (by omega), if_pos (by omega), if_pos (by omega), if_pos (by omega)]
      have h := RUp_l0 xs hn hz d (i + 1) k (acc ++ (⟨#[47]⟩ : ByteArray) ++ mkB xs[i]) (by omega) (by omega) (by
        rw [D_app, D_app, ha, ht, jn_snoc _ _ (by
          intro e
          have := congrArg List.length e
          rw [List.length_take, List.length_nil] at this
          omega), List.append_assoc]
        rfl)
      rw [show i + (d + 1) = i + 1 + d by omega]
      exact h
theorem RUp_eq {s : ByteArray} {k : Nat} (h : s.size < 4294967280) (hk : 5 ≤ k) : tallymanref7_Up.f k s = some (if Gd s.data.toList then (upB s, true) else (⟨#[]⟩, false)) := by
  unfold tallymanref7_Up.f
  rw [RGood_eq h, Option.bind_some]
  by_cases hg : Gd s.data.toList
  · have hl : 0 < (sp s.data.toList).length := List.length_pos_iff.2 (sp_ne _)
    have h4 := hg.1
    rw [if_pos (decide_eq_true hg), Rnames_eq h, Option.bind_some, if_pos hg]
    have hl0 := RUp_l0 (sp s.data.toList) h4 (fun x hx => (hg.2 x hx).2.1) ((sp s.data.toList).length - 1) 0 k ⟨#[]⟩ (by omega) (by omega) rfl
    rw [Nat.zero_add, ← List.dropLast_eq_take] at hl0
    exact hl0
  · rw [if_neg (by simpa using hg), if_neg hg]
/-- The last name. -/
def lastL (p : List UInt8) : List UInt8 := (sp p).getLast (sp_ne p)
theorem Base_eq {s : ByteArray} (h : s.size < 4294967281) : path_Base.f s = some (if Gd s.data.toList then ⟨(lastL s.data.toList).toArray⟩ else ⟨#[]⟩) := by
  by_cases hg : Gd s.data.toList
  · rw [if_pos hg]
    rcases last_part s.data.toList with h1 | ⟨u, x, e, hx⟩
    · rw [Base_of (parts_one h hg h1)]
      congr 1
      refine bext ?_
      unfold lastL
      have e := sp_none _ h1
      rw [D_mk]
      simp only [e, List.getLast_singleton]
    · rw [Base_of (parts_more h hg e hx)]
      congr 1
      refine bext ?_
      unfold lastL
      have e2 : sp s.data.toList = sp u ++ [x] := by rw [e, sp_app, sp_none x hx]
      rw [D_mk, D_mk]
      simp only [e2, List.getLast_concat]
  · rw [if_neg hg, Base_of (parts_bad h hg)]
theorem RBase_eq {s : ByteArray} (h : s.size < 4294967280) : tallymanref7_Base.f s = some (if Gd s.data.toList then ⟨(lastL s.data.toList).toArray⟩ else ⟨#[]⟩) := by
  unfold tallymanref7_Base.f
  rw [RGood_eq h, Option.bind_some]
  by_cases hg : Gd s.data.toList
  · have hl : 0 < (sp s.data.toList).length := List.length_pos_iff.2 (sp_ne _)
    have h4 := hg.1
    have hw : wrap64 (((sp s.data.toList).length : Int) - 1) = (((sp s.data.toList).length - 1 : Nat) : Int) := by unfold wrap64; omega
    rw [if_pos (decide_eq_true hg), Rnames_eq h, Option.bind_some, if_pos hg, List.length_map, hw, if_pos (by omega), if_pos (by omega), rdM (by omega)]
    congr 1
    refine bext ?_
    rw [mkB_data]
    show _ = lastL s.data.toList
    unfold lastL
    rw [List.getLast_eq_getElem]
  · rw [if_neg (by simpa using hg), if_neg hg]
theorem RDepth_eq {s : ByteArray} (h : s.size < 4294967280) : tallymanref7_Depth.f s = some (if Gd s.data.toList then ((sp s.data.toList).length : Int) else 0) := by
  unfold tallymanref7_Depth.f
  rw [RGood_eq h, Option.bind_some]
  by_cases hg : Gd s.data.toList
  · rw [if_pos (decide_eq_true hg), Rnames_eq h, Option.bind_some, if_pos hg, List.length_map]
  · rw [if_neg (by simpa using hg), if_neg hg]
theorem RJoin_eq {p x : ByteArray} (k : Nat) (h : p.size + x.size < 4294967270) :
    tallymanref7_Join.f (k + 1) p x = some (if 47 ∉ x.data.toList ∧ Gd (jl p.data.toList x.data.toList) then (⟨(jl p.data.toList x.data.toList).toArray⟩, true) else (⟨#[]⟩, false)) := by
  have key : ∀ (r : ByteArray), r.size ≤ p.size + 1 + x.size → r.data.toList = jl p.data.toList x.data.toList → tallymanref7_Join.j0 (k + 1) x r = some (if 47 ∉ x.data.toList ∧ Gd (jl p.data.toList x.data.toList) then (⟨(jl p.data.toList x.data.toList).toArray⟩, true) else (⟨#[]⟩, false)) := by
    intro r hr he
    simp only [tallymanref7_Join.j0]
    rw [RGood_eq (by omega), Option.bind_some, he]
    by_cases hg : Gd (jl p.data.toList x.data.toList)
    · rw [if_pos (decide_eq_true hg), Rnames_eq (by omega), Option.bind_some, List.length_map, sp_len]
      by_cases hm : 47 ∈ x.data.toList
      · have := List.count_pos_iff.2 hm
        rw [if_neg (by omega), if_neg (fun h => h.1 hm)]
      · have := List.count_eq_zero.2 hm
        rw [if_pos (by omega), if_pos ⟨hm, hg⟩]
        congr 2
        exact bext (by rw [he])
    · rw [if_neg (by simpa using hg), if_neg (fun h => hg h.2)]
  unfold tallymanref7_Join.f
  rw [Lib.toList_data]
  split
  · rename_i h0
    exact key x (by omega) (by simp [jl, h0])
  · rename_i h0
    have hs : (p ++ (⟨#[47]⟩ : ByteArray)).size = p.size + 1 := by rw [ByteArray.size_append]; rfl
    rw [hs, if_pos (by omega), if_pos (by omega)]
    refine key _ (by rw [ByteArray.size_append, hs]; exact Nat.le_refl _) ?_
    rw [D_app, D_app, jl, if_neg h0, List.append_assoc]
    rfl
theorem RUnder_eq {q p : ByteArray} (hq : q.size < 4294967280) (hp : p.size < 4294967280) : tallymanref7_Under.f q p = some (decide (Gd q.data.toList ∧ Gd p.data.toList ∧ (p.data.toList ++ [47]) <+: q.data.toList)) := by
  unfold tallymanref7_Under.f
  rw [if_pos hq, if_pos hp]
/-- Where a receiver works. -/
def work_ : ByteArray := ⟨#[46, 119, 111, 114, 107]⟩
def insideL (p : List UInt8) : Prop := p = work_.data.toList ∨ Gd p ∧ (work_.data.toList ++ [47]) <+: p
instance (p : List UInt8) : Decidable (insideL p) := by unfold insideL; exact inferInstance
theorem Inside_eq {s : ByteArray} (h : s.size < 4294967280) : path_Inside.f s = some (decide (insideL s.data.toList)) := by
  unfold path_Inside.f
  rw [Lib.toList_data]
  by_cases h0 : s.data.toList = [46, 119, 111, 114, 107]
  · rw [if_pos h0]
    congr 1
    exact (decide_eq_true (.inl h0)).symm
  · have hg : Gd (⟨#[46, 119, 111, 114, 107]⟩ : ByteArray).data.toList := by decide
    rw [if_neg h0, Under_eq h (by decide), Option.bind_some]
    congr 1
    rw [Bool.eq_iff_iff, decide_eq_true_eq, decide_eq_true_eq]
    exact ⟨fun h => .inr ⟨h.1, h.2.2⟩, fun h => h.elim (fun e => absurd e h0) (fun h => ⟨h.1, hg, h.2⟩)⟩
theorem RInside_eq {s : ByteArray} (h : s.size < 4294967280) : tallymanref7_Inside.f s = some (decide (insideL s.data.toList)) := by
  unfold tallymanref7_Inside.f
  rw [Lib.toList_data]
  by_cases h0 : s.data.toList = [46, 119, 111, 114, 107]
  · rw [if_pos h0]
    congr 1
    exact (decide_eq_true (.inl h0)).symm
  · have hg : Gd (⟨#[46, 119, 111, 114, 107]⟩ : ByteArray).data.toList := by decide
    rw [if_neg h0, RUnder_eq h (by decide), Option.bind_some]
    congr 1
    rw [Bool.eq_iff_iff, decide_eq_true_eq, decide_eq_true_eq]
    exact ⟨fun h => .inr ⟨h.1, h.2.2⟩, fun h => h.elim (fun e => absurd e h0) (fun h => ⟨h.1, hg, h.2⟩)⟩
end Go.Proofs.YtidlldfghkaeeaaDoor.P
