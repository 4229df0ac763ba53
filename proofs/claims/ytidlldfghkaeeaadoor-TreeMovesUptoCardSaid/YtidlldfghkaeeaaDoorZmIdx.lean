/- Put together by pack.py: Idx -/
import Derived.Test.YtidlldfghkaeeaaDoorZmPth
import Derived.Lib.SliceRun
namespace Go.Proofs.YtidlldfghkaeeaaDoor.P
open Go.RowKit Go.Proofs.YtidlldfghkaeeaaDoorW.PrintWords Go.Proofs.YtidlldfghkaeeaaDoorW.PrintLast Go.Proofs.YtidlldfghkaeeaaDoorW.PrintMore
set_option linter.unusedVariables false
set_option linter.unusedSimpArgs false

theorem Sort1_calls (s : ByteArray) (w : World) (hs : s.size < 4294967281) : Calls Tryd.prog 94 #[.string s] w fun e w' => e = .returned (.bool (!decide (GPieces (pieces s)))) ∧ Below w.heap.size w w' := by
  have hG := path_Good.calls s (decide (GPieces (pieces s))) 
  go_enter Tryd.func94, Tryd.ntmps94
  go_wp2_with (go_at_call 41; refine (hG _ (by unfold path_Good.f; rw [if_pos hs])).mono ?_; rintro e w' ⟨rfl, hb⟩)
  go_ret
  exact ⟨rfl, by assumption⟩
/-- What a test does: it answers, and leaves what was there. -/
def Tst (g : Nat) (p : ByteArray → Bool) (x : ByteArray) : Prop := ∀ W : World, Calls Tryd.prog g #[.string x] W fun e w' => e = .returned (.bool (p x)) ∧ Below W.heap.size W w'
set_option maxHeartbeats 4000000 in
theorem IndexFunc_calls (g : Nat) (p : ByteArray → Bool) (eg : ∀ args w, (callFunc g args).run Tryd.prog w = .ok (.enter g args) w) (A : Option Addr) (c : Nat) (ps : List ByteArray) (w : World) (hC : Kd.string.C w A ps.length ps) (hl : ps.length ≤ 9223372036854775807) (hs : ∀ x ∈ ps, Tst g p x) :
    Calls Tryd.prog 108 #[.slice A ps.length c, .func (.func g) #[] #[]] w fun e w' => ∃ r : Int, e = .returned (.int .i64 r) ∧ ((r = -1 ∧ ∀ x ∈ ps, p x = false) ∨ ∃ i : Nat, r = i ∧ i < ps.length ∧ (∀ x ∈ ps.take i, p x = false) ∧ ∀ x, ps[i]? = some x → p x = true) ∧ Below w.heap.size w w' := by
  have HS := Aside0.mk hs
  clear hs
  have HL := Aside0.mk hl
  clear hl
  go_enter Tryd.func108, Tryd.ntmps108
  go_wp2_with (fail)
  go_loopg [5, 8] ps.length (fun gg s5 s8 wr => ∃ i : Nat, i ≤ ps.length ∧ gg = ps.length - i ∧ s8 = .int .i64 i ∧ (∀ x ∈ ps.take i, p x = false) ∧ Below w.heap.size w wr)
  case atStart => exact ⟨0, Nat.zero_le _, rfl, rfl, by simp, Below.refl _ _⟩
  case round =>
    obtain ⟨i, hi, rfl, rfl, hg, hb⟩ := hrel
    by_cases a : i < ps.length
    · have a1 : decide ((i : Int) < (ps.length : Int)) = true := decide_eq_true (by omega)
      obtain ⟨ad, cs, rfl, hcl, hK, hc0⟩ := Kd.C_get (Kd.C_below hC hb) (ByteArray.empty) (i : Int) (by omega) (by omega)
      have hx : ps.getD i ByteArray.empty = ps[i] := by rw [List.getD_eq_getElem?_getD, List.getElem?_eq_getElem a]; rfl
      rw [Int.toNat_natCast, hx] at hK
      rw [Int.toNat_natCast] at hc0
      have hmem : ps[i] ∈ ps := List.getElem_mem a
      have hat : ∀ x, ps[i]? = some x → x = ps[i] := fun x hx => by rw [List.getElem?_eq_getElem a] at hx; exact (Option.some.inj hx).symm
      have htake : ∀ x ∈ ps.take (i + 1), x ∈ ps.take i ∨ x = ps[i] := fun x hx => by
        rw [List.take_add_one, List.getElem?_eq_getElem a, List.mem_append] at hx
        simpa using hx
      generalize ps[i] = x at *
      obtain rfl : cs = [.string x] := hK
      have c0 := hc0 0 _ rfl
      rw [show Kd.string.sz = 1 from rfl, Nat.mul_one, Nat.add_zero] at c0
      have hP := HS.out x hmem
      have HG := Aside0.mk hg
      clear hg hc0 hcl
      have HT := Aside0.mk htake
      have HA := Aside0.mk hat
      clear htake hat
      unfold Tst at hP
      cases hx : p x with
      | false =>
        simp only [hx] at hP
        have HX := Aside0.mk hx
        clear hx
        go_wp2_with (go_at_fn g; refine (hP _).mono ?_; rintro e w2 ⟨rfl, hb2⟩)
        go_roundg (ps.length - (i + 1))
        case measure => omega
        case rel =>
          have hl := HL.out
          have hw : wrap64 ((i : Int) + 1) = ((i + 1 : Nat) : Int) := by unfold wrap64; omega
          exact ⟨i + 1, by omega, rfl, by first | (rw [hw]) | go_num, fun y hy => (HT.out y hy).elim (HG.out y) (fun e => e ▸ HX.out), hb.trans (hb2.mono hb.size)⟩
      | true =>
        simp only [hx] at hP
        have HX := Aside0.mk hx
        clear hx
        go_wp2_with (go_at_fn g; refine (hP _).mono ?_; rintro e w2 ⟨rfl, hb2⟩)
        go_ret
        exact ⟨_, rfl, .inr ⟨i, rfl, a, HG.out, fun y hy => HA.out y hy ▸ HX.out⟩, hb.trans (hb2.mono hb.size)⟩
    · have a1 : decide ((i : Int) < (ps.length : Int)) = false := decide_eq_false (by omega)
      go_wp2_with (fail)
      go_ret
      refine ⟨_, rfl, .inl ⟨rfl, fun x hx => hg x ?_⟩, hb⟩
      rw [List.take_of_length_le (by omega)]
      exact hx
end Go.Proofs.YtidlldfghkaeeaaDoor.P
