/- Put together by pack.py: CmpS -/
import Derived.Test.YtidlldfghkaeeaaDoorZmStr
namespace Go.Proofs.YtidlldfghkaeeaaDoor.P
open Go.RowKit Go.Proofs.YtidlldfghkaeeaaDoorW.PrintWords Go.Proofs.YtidlldfghkaeeaaDoorW.PrintLast Go.Proofs.YtidlldfghkaeeaaDoorW.PrintMore
set_option linter.unusedVariables false
set_option linter.unusedSimpArgs false

theorem bl_irr : ∀ a : List UInt8, Op.bytesLess a a = false
  | [] => rfl
  | b :: l => by simp [Op.bytesLess, bl_irr l]
theorem bl_tot : ∀ a b : List UInt8, Op.bytesLess a b = false → Op.bytesLess b a = false → a = b
  | [], [], _, _ => rfl
  | [], b :: y, h, _ => by simp [Op.bytesLess] at h
  | a :: x, [], _, h => by simp [Op.bytesLess] at h
  | a :: x, b :: y, h1, h2 => by
    simp only [Op.bytesLess, Bool.or_eq_false_iff, decide_eq_false_iff_not, Bool.and_eq_false_iff, beq_eq_false_iff_ne] at h1 h2
    have e : a = b := UInt8.le_antisymm (UInt8.not_lt.1 h2.1) (UInt8.not_lt.1 h1.1)
    subst e
    rw [bl_tot x y (h1.2.resolve_left (fun h => h rfl)) (h2.2.resolve_left (fun h => h rfl))]
theorem bl_trans : ∀ a b c : List UInt8, Op.bytesLess a b = true → Op.bytesLess b c = true → Op.bytesLess a c = true
  | _, [], _, h, _ => by simp [Op.bytesLess] at h
  | _, _ :: _, [], _, h => by simp [Op.bytesLess] at h
  | [], _ :: _, _ :: _, _, _ => rfl
  | a :: x, b :: y, c :: z, h1, h2 => by
    simp only [Op.bytesLess, Bool.or_eq_true, decide_eq_true_eq, Bool.and_eq_true, beq_iff_eq] at h1 h2 ⊢
    rcases h1 with h1 | ⟨rfl, h1⟩
    · rcases h2 with h2 | ⟨rfl, h2⟩
      · exact .inl (UInt8.lt_trans h1 h2)
      · exact .inl h1
    · rcases h2 with h2 | ⟨rfl, h2⟩
      · exact .inl h2
      · exact .inr ⟨rfl, bl_trans x y z h1 h2⟩
set_option maxRecDepth 100000 in
theorem isNaN_calls (s : ByteArray) (w : World) : Calls Tryd.prog 130 #[.string s] w fun e w' => e = .returned (.bool false) ∧ w' = w := by
  go_enter Tryd.func130, Tryd.ntmps130
  go_wp2
  go_ret
  exact ⟨by simp, rfl⟩
theorem gtr_ (a0 a1 : ByteArray) (W : World) : Sem.run Tryd.prog (binOp .gtr 9 (.string a0) (.string a1)) W = Result.ok (.bool (Op.bytesLess a1.toList a0.toList)) W := by
  have e : Sem.run Tryd.prog (binOp .gtr 9 (.string a0) (.string a1)) W = Result.ok (.bool (!(Op.bytesLess a0.toList a1.toList || a0.toList == a1.toList))) W := rfl
  rw [e]
  congr 2
  cases h1 : Op.bytesLess a0.toList a1.toList with
  | true =>
    cases h2 : Op.bytesLess a1.toList a0.toList with
    | false => rfl
    | true =>
      have := bl_trans _ _ _ h1 h2
      rw [bl_irr] at this
      cases this
  | false =>
    cases h2 : Op.bytesLess a1.toList a0.toList with
    | false =>
      rw [bl_tot _ _ h1 h2]
      simp
    | true =>
      have hne : ¬ a0.toList = a1.toList := fun e => by
        rw [e, bl_irr] at h2
        cases h2
      simp [hne]
/-- Two texts, byte by byte. -/
def cmp_Compare_string.f (a0 a1 : ByteArray) : Option Int := some (if Op.bytesLess a0.toList a1.toList = true then -1 else if Op.bytesLess a1.toList a0.toList = true then 1 else 0)
set_option maxRecDepth 100000 in
theorem cmp_Compare_string.calls (a0 a1 : ByteArray) (r : Int) (w : World) (h : cmp_Compare_string.f a0 a1 = some r) :
    Calls Tryd.prog 113 #[.string a0, .string a1] w fun e w' => e = .returned (.int .i64 r) ∧ Drawn0 w w' := by
  have h := Option.some.inj h
  have hgt := gtr_ a0 a1
  cases h1 : Op.bytesLess a0.toList a1.toList with
  | true =>
    rw [h1, if_pos rfl] at h
    subst h
    go_enter Tryd.func113, Tryd.ntmps113
    go_wp2_with (go_at_call 130; refine (isNaN_calls _ _).mono ?_; rintro e w' ⟨rfl, rfl⟩)
    go_ret
    exact ⟨rfl, Drawn0.refl _⟩
  | false =>
    rw [h1, if_neg (by decide)] at h
    cases h2 : Op.bytesLess a1.toList a0.toList with
    | true =>
      rw [h2, if_pos rfl] at h
      subst h
      go_enter Tryd.func113, Tryd.ntmps113
      go_wp2_with (go_at_call 130; refine (isNaN_calls _ _).mono ?_; rintro e w' ⟨rfl, rfl⟩)
      go_ret
      exact ⟨rfl, Drawn0.refl _⟩
    | false =>
      rw [h2, if_neg (by decide)] at h
      subst h
      go_enter Tryd.func113, Tryd.ntmps113
      go_wp2_with (go_at_call 130; refine (isNaN_calls _ _).mono ?_; rintro e w' ⟨rfl, rfl⟩)
      go_ret
      exact ⟨rfl, Drawn0.refl _⟩
end Go.Proofs.YtidlldfghkaeeaaDoor.P
