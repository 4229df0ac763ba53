/- tallymanref7: names, Good, Under as contracts without fuel. -/
import Derived.Test.YtidlldfghkaeeaaDoorRefGood
namespace Go.Proofs.YtidlldfghkaeeaaDoor.P
open Go.RowKit Go.Proofs.YtidlldfghkaeeaaDoorW.PrintWords Go.Proofs.YtidlldfghkaeeaaDoorW.PrintLast Go.Proofs.YtidlldfghkaeeaaDoorW.PrintMore
set_option linter.unusedVariables false
set_option linter.unusedSimpArgs false

def tallymanref7_names.f (a0 : ByteArray) : Option (List ByteArray) := if a0.size < 4294967280 then some ((sp a0.data.toList).map mkB) else none
theorem tallymanref7_names.calls (a0 : ByteArray) (r : List ByteArray) (w : World) (h : tallymanref7_names.f a0 = some r) :
    Calls Tryd.prog 83 #[.string a0] w fun e w' => ∃ v0_ : Value, e = .returned (v0_) ∧ Kd.R Kd.string 9 w' w.heap.size (fun _ => True) v0_ r ∧ Below w.heap.size w w' := by
  unfold tallymanref7_names.f at h
  split at h
  · rename_i h1
    exact ref7_names.calls (a0.size + 2) a0 r w ((names_eq (by omega) (Nat.le_refl _)).trans h)
  · cases h
def tallymanref7_Good.f (a0 : ByteArray) : Option Bool := if a0.size < 4294967280 then some (decide (Gd a0.data.toList)) else none
theorem tallymanref7_Good.calls (a0 : ByteArray) (r : Bool) (w : World) (h : tallymanref7_Good.f a0 = some r) :
    Calls Tryd.prog 42 #[.string a0] w fun e w' => e = .returned (.bool r) ∧ Below w.heap.size w w' := by
  unfold tallymanref7_Good.f at h
  split at h
  · rename_i h1
    exact ref7_Good.calls ((a0.size + 1) * (a0.size + 3) + 2) a0 r w ((GoodRef_eq h1 (Nat.le_refl _)).trans h)
  · cases h
def tallymanref7_Under.f (a0 a1 : ByteArray) : Option Bool := if a0.size < 4294967280 then if a1.size < 4294967280 then some (decide (Gd a0.data.toList ∧ Gd a1.data.toList ∧ (a1.data.toList ++ [47]) <+: a0.data.toList)) else none else none
theorem tallymanref7_Under.calls (a0 a1 : ByteArray) (r : Bool) (w : World) (h : tallymanref7_Under.f a0 a1 = some r) :
    Calls Tryd.prog 48 #[.string a0, .string a1] w fun e w' => e = .returned (.bool r) ∧ Below w.heap.size w w' := by
  unfold tallymanref7_Under.f at h
  split at h
  · rename_i h0
    split at h
    · rename_i h1
      have k0 := fun W => tallymanref7_Good.calls a0 (decide (Gd a0.data.toList)) W (by unfold tallymanref7_Good.f; rw [if_pos h0])
      have k1 := fun W => tallymanref7_Good.calls a1 (decide (Gd a1.data.toList)) W (by unfold tallymanref7_Good.f; rw [if_pos h1])
      obtain rfl := Option.some.inj h
      clear h
      by_cases g0 : Gd a0.data.toList
      · by_cases g1 : Gd a1.data.toList
        · rw [decide_eq_true g0] at k0
          rw [decide_eq_true g1] at k1
          by_cases c1 : a1.size < a0.size
          · have hl : a1.data.toList.length < a0.data.toList.length := by rw [← D_size, ← D_size]; exact c1
            have c2 : decide ((a1.size : Int) < (a0.size : Int)) = true := decide_eq_true (by omega)
            have hx : (a0.extract 0 a1.size).data.toList = a0.data.toList.take a1.data.toList.length := by rw [D_ex, List.drop_zero, D_size a1]
            have p12 : (0 ≤ (a1.size : Int)) = True := eq_true (by omega)
            have p13 : ((a1.size : Int) ≤ (a0.size : Int)) = True := eq_true (by omega)
            have p14 : ((a1.size : Int) < (a0.size : Int)) = True := eq_true (by omega)
            have hb : bt a0 (a1.size : Int) = ((a0.data.toList[a1.data.toList.length]).toNat : Int) := by
              unfold bt
              rw [dif_pos (by omega)]
              simp only [Int.toNat_natCast, D_size a1]
              rfl
            have hbt := bt_at a0 (a1.size : Int)
            by_cases c3 : (a0.extract 0 a1.size).toList = a1.toList
            · have c3b : ((a0.extract 0 a1.size).toList == a1.toList) = true := beq_iff_eq.2 c3
              have e : decide (Gd a0.data.toList ∧ Gd a1.data.toList ∧ (a1.data.toList ++ [47]) <+: a0.data.toList) = (bt a0 (a1.size : Int) == 47) := by
                rw [hb, Bool.eq_iff_iff, decide_eq_true_eq, beq_iff_eq]
                rw [Lib.toList_data, Lib.toList_data, hx] at c3
                have hd : a0.data.toList.drop a1.data.toList.length = a0.data.toList[a1.data.toList.length] :: a0.data.toList.drop (a1.data.toList.length + 1) := List.drop_eq_getElem_cons hl
                have ht : a0.data.toList = a1.data.toList ++ (a0.data.toList[a1.data.toList.length] :: a0.data.toList.drop (a1.data.toList.length + 1)) := by
                  rw [← hd]
                  conv => lhs; rw [← List.take_append_drop a1.data.toList.length a0.data.toList, c3]
                generalize a0.data.toList[a1.data.toList.length] = b at *
                constructor
                · rintro ⟨_, _, t, h⟩
                  rw [ht, List.append_assoc, List.append_cancel_left_eq] at h
                  injection h with h _
                  rw [← h]
                  rfl
                · intro h
                  refine ⟨g0, g1, a0.data.toList.drop (a1.data.toList.length + 1), ?_⟩
                  rw [u47 h] at ht
                  conv => rhs; rw [ht]
                  simp
              rw [e]
              clear e g0 g1 h0 h1 c1 hb hx c3 hl
              go_enter Tryd.func48, Tryd.ntmps48
              go_wp2_with (fail)
              refine (k0 _).mono ?_
              rintro e w2 ⟨rfl, hb2⟩
              dsimp only
              go_wp2_with (fail)
              refine (k1 _).mono ?_
              rintro e w3 ⟨rfl, hb3⟩
              dsimp only
              clear k0 k1
              go_wp2_with (fail)
              go_ret
              have hq := hbt (by have := of_eq_true p14; omega)
              rw [← hq]
              exact ⟨rfl, hb2.trans (hb3.mono hb2.size)⟩
            · have c3b : ((a0.extract 0 a1.size).toList == a1.toList) = false := beq_eq_false_iff_ne.2 c3
              have e : decide (Gd a0.data.toList ∧ Gd a1.data.toList ∧ (a1.data.toList ++ [47]) <+: a0.data.toList) = false := decide_eq_false (fun h => c3 (by
                obtain ⟨_, _, t, h⟩ := h
                rw [Lib.toList_data, Lib.toList_data, hx, ← h, List.append_assoc, List.take_left]))
              rw [e]
              clear e g0 g1 h0 h1 c1 hb hx c3 hl hbt
              go_enter Tryd.func48, Tryd.ntmps48
              go_wp2_with (fail)
              refine (k0 _).mono ?_
              rintro e w2 ⟨rfl, hb2⟩
              dsimp only
              go_wp2_with (fail)
              refine (k1 _).mono ?_
              rintro e w3 ⟨rfl, hb3⟩
              dsimp only
              clear k0 k1
              go_wp2_with (fail)
              go_ret
              exact ⟨rfl, hb2.trans (hb3.mono hb2.size)⟩
          · have e : decide (Gd a0.data.toList ∧ Gd a1.data.toList ∧ (a1.data.toList ++ [47]) <+: a0.data.toList) = false := decide_eq_false (fun h => by
              have := h.2.2.length_le
              rw [List.length_append, ← D_size, ← D_size, List.length_singleton] at this
              omega)
            rw [e]
            have c2 : decide ((a1.size : Int) < (a0.size : Int)) = false := decide_eq_false (by omega)
            have c2' : decide (a1.size < a0.size) = false := decide_eq_false (by omega)
            clear e g0 g1 h0 h1 c1
            go_enter Tryd.func48, Tryd.ntmps48
            go_wp2_with (fail)
            refine (k0 _).mono ?_
            rintro e w2 ⟨rfl, hb2⟩
            dsimp only
            go_wp2_with (fail)
            refine (k1 _).mono ?_
            rintro e w3 ⟨rfl, hb3⟩
            dsimp only
            clear k0 k1
            go_wp2_with (fail)
            go_ret
            exact ⟨rfl, hb2.trans (hb3.mono hb2.size)⟩
        · have e : decide (Gd a0.data.toList ∧ Gd a1.data.toList ∧ (a1.data.toList ++ [47]) <+: a0.data.toList) = false := decide_eq_false (fun h => g1 h.2.1)
          rw [e]
          rw [decide_eq_true g0] at k0
          rw [decide_eq_false g1] at k1
          clear e g0 g1 h0 h1
          go_enter Tryd.func48, Tryd.ntmps48
          go_wp2_with (fail)
          refine (k0 _).mono ?_
          rintro e w2 ⟨rfl, hb2⟩
          dsimp only
          go_wp2_with (fail)
          refine (k1 _).mono ?_
          rintro e w3 ⟨rfl, hb3⟩
          dsimp only
          clear k0 k1
          go_wp2_with (fail)
          go_ret
          exact ⟨rfl, hb2.trans (hb3.mono hb2.size)⟩
      · have e : decide (Gd a0.data.toList ∧ Gd a1.data.toList ∧ (a1.data.toList ++ [47]) <+: a0.data.toList) = false := decide_eq_false (fun h => g0 h.1)
        rw [e]
        rw [decide_eq_false g0] at k0
        clear e g0 h0 h1
        go_enter Tryd.func48, Tryd.ntmps48
        go_wp2_with (go_at_call 42; refine (k0 _).mono ?_; rintro e w2 ⟨rfl, hb2⟩)
        go_ret
        exact ⟨rfl, hb2⟩
    · cases h
  · cases h
end Go.Proofs.YtidlldfghkaeeaaDoor.P
