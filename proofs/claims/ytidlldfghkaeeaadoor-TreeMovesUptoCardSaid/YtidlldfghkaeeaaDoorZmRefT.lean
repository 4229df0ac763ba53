/- Put together by pack.py: RefT -/
import Derived.Test.YtidlldfghkaeeaaDoorZmPthT
import Derived.Test.YtidlldfghkaeeaaDoorZmPaths
import Derived.Test.YtidlldfghkaeeaaDoorZmPthUp
namespace Go.Proofs.YtidlldfghkaeeaaDoor.P
open Go.RowKit Go.Proofs.YtidlldfghkaeeaaDoorW.PrintWords Go.Proofs.YtidlldfghkaeeaaDoorW.PrintLast Go.Proofs.YtidlldfghkaeeaaDoorW.PrintMore
set_option linter.unusedVariables false
set_option linter.unusedSimpArgs false

theorem Up_eq {s : ByteArray} (h : s.size < 4294967281) : path_Up.f s = some (if Gd s.data.toList then (upB s, true) else (⟨#[]⟩, false)) := by
  by_cases hg : Gd s.data.toList
  · rw [if_pos hg]
    rcases last_part s.data.toList with h1 | ⟨u, x, e, hx⟩
    · rw [Up_of (parts_one h hg h1)]
      unfold upB
      rw [upL_one h1]
    · rw [Up_of (parts_more h hg e hx)]
      unfold upB
      rw [e, upL_more hx]
  · rw [if_neg hg, Up_of (parts_bad h hg)]
/-- Where a receiver works. -/
def work_ : ByteArray := ⟨#[46, 119, 111, 114, 107]⟩
def insideL (p : List UInt8) : Prop := p = work_.data.toList ∨ Gd p ∧ (work_.data.toList ++ [47]) <+: p
instance (p : List UInt8) : Decidable (insideL p) := by unfold insideL; exact inferInstance
theorem Inside_eq {s : ByteArray} (h : s.size < 4294967280) : path_Inside.f s = some (decide (insideL s.data.toList)) := by
  unfold path_Inside.f
  rw [Lib.toList_data]
  by_cases h0 : s.data.toList = [46, 119, 111, 114, 107]
  · rw [if_pos h0]
    congr 1
    exact (decide_eq_true (.inl h0)).symm
  · have hg : Gd (⟨#[46, 119, 111, 114, 107]⟩ : ByteArray).data.toList := by decide
    rw [if_neg h0, Under_eq h (by decide), Option.bind_some]
    congr 1
    rw [Bool.eq_iff_iff, decide_eq_true_eq, decide_eq_true_eq]
    exact ⟨fun h => .inr ⟨h.1, h.2.2⟩, fun h => h.elim (fun e => absurd e h0) (fun h => ⟨h.1, hg, h.2⟩)⟩
end Go.Proofs.YtidlldfghkaeeaaDoor.P
