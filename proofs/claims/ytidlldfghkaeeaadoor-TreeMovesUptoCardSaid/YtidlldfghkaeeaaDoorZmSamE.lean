/- Put together by pack.py: SamE -/
import Derived.Test.YtidlldfghkaeeaaDoorZmTreeWith
import Derived.Test.YtidlldfghkaeeaaDoorZmPfBytesEqual
namespace Go.Proofs.YtidlldfghkaeeaaDoor.P
open Go.RowKit Go.Proofs.YtidlldfghkaeeaaDoorW.PrintWords Go.Proofs.YtidlldfghkaeeaaDoorW.PrintLast Go.Proofs.YtidlldfghkaeeaaDoorW.PrintMore
set_option linter.unusedVariables false
set_option linter.unusedSimpArgs false

/-- Two entries, as the program tells them alike. -/
def sameE (x y : S30) : Bool := (x.f0.toList == y.f0.toList) && (x.f1 == y.f1) && ((strOfNums x.f2).toList == (strOfNums y.f2).toList)
def sameL (l l' : List S30) : Bool := decide (l.length = l'.length) && (l.zip l').all fun p => sameE p.1 p.2
theorem sameE_self (x : S30) : sameE x x = true := by simp [sameE]
theorem sameL_self (l : List S30) : sameL l l = true := by
  unfold sameL
  rw [decide_eq_true rfl, Bool.true_and, List.all_eq_true]
  intro p hp
  obtain ⟨i, hi, rfl⟩ := List.mem_iff_getElem.1 hp
  rw [List.getElem_zip]
  exact sameE_self _
set_option maxHeartbeats 8000000 in
set_option maxRecDepth 100000 in
theorem same1_calls (p : ByteArray) (d : Bool) (A : Option Addr) (c : Nat) (b : List Int) (q : ByteArray) (t : Bool) (B : Option Addr) (k : Nat) (e : List Int) (w : World) (hr : Kd.C (Kd.int .u8) w A b.length b) (hc : b.length ≤ c) (hr' : Kd.C (Kd.int .u8) w B e.length e) (hk : e.length ≤ k) :
    Calls Tryd.prog 70 #[.agg #[.string p, .bool d, .slice A b.length c], .agg #[.string q, .bool t, .slice B e.length k]] w fun x w' => x = .returned (.bool (sameE ⟨p, d, b⟩ ⟨q, t, e⟩)) ∧ Below w.heap.size w w' := by
  have hu30 := Tryd.underlying30
  obtain ⟨res, hres⟩ : ∃ res, res = sameE ⟨p, d, b⟩ ⟨q, t, e⟩ := ⟨_, rfl⟩
  rw [← hres]
  have HRES := Aside0.mk hres
  have HR := Aside0.mk hr
  have HR' := Aside0.mk hr'
  clear hres hr hr'
  have b1 := below_alloc (Below.refl w.heap.size w) (.cells #[.string p, .bool d, .slice A b.length c] 30)
  have b2 := below_alloc b1 (.cells #[.string q, .bool t, .slice B e.length k] 30)
  go_enter Tryd.func70, Tryd.ntmps70
  by_cases h1 : p.toList == q.toList
  · cases d <;> cases t
    · go_wp2_with (fail)
      refine (bytes_Equal.calls A c b B k e _ _ (Kd.C_below HR.out b2) hc (Kd.C_below HR'.out b2) hk rfl).mono ?_
      rintro x W2 ⟨rfl, hd⟩
      have hb := b2.trans (hd.below.mono b2.size)
      clear hd b1 b2
      dsimp only
      go_wp2_with (fail)
      go_ret
      exact ⟨by rw [HRES.out, sameE, h1, Bool.true_and, beq_self_eq_true, Bool.true_and]; rfl, hb⟩
    · go_wp2_with (fail)
      go_ret
      exact ⟨by rw [HRES.out, sameE, h1]; rfl, b2⟩
    · go_wp2_with (fail)
      go_ret
      exact ⟨by rw [HRES.out, sameE, h1]; rfl, b2⟩
    · go_wp2_with (fail)
      refine (bytes_Equal.calls A c b B k e _ _ (Kd.C_below HR.out b2) hc (Kd.C_below HR'.out b2) hk rfl).mono ?_
      rintro x W2 ⟨rfl, hd⟩
      have hb := b2.trans (hd.below.mono b2.size)
      clear hd b1 b2
      dsimp only
      go_wp2_with (fail)
      go_ret
      exact ⟨by rw [HRES.out, sameE, h1, Bool.true_and, beq_self_eq_true, Bool.true_and]; rfl, hb⟩
  · have h1' : (p.toList == q.toList) = false := by simpa using h1
    go_wp2_with (fail)
    go_ret
    exact ⟨by rw [HRES.out, sameE, h1']; rfl, b2⟩
set_option maxHeartbeats 8000000 in
set_option maxRecDepth 100000 in
theorem EqualFunc_calls (A0 : Option Addr) (c0 : Nat) (l0 : List S30) (A1 : Option Addr) (c1 : Nat) (l1 : List S30) (w : World) (hr0 : Kd.C k30 w A0 l0.length l0) (hc0 : l0.length ≤ c0) (hr1 : Kd.C k30 w A1 l1.length l1) (hc1 : l1.length ≤ c1) (hl : l0.length ≤ 100000) :
    Calls Tryd.prog 69 #[.slice A0 l0.length c0, .slice A1 l1.length c1, .func (.func 70) #[] #[]] w fun e w' => e = .returned (.bool (sameL l0 l1)) ∧ Below w.heap.size w w' := by
  have hu30 := Tryd.underlying30
  have HR := Aside0.mk hr0
  have HR1 := Aside0.mk hr1
  have HL := Aside0.mk hl
  clear hr0 hr1 hl
  obtain ⟨res, hres⟩ : ∃ res, res = sameL l0 l1 := ⟨_, rfl⟩
  rw [← hres]
  have HRES := Aside0.mk hres
  clear hres
  go_enter Tryd.func69, Tryd.ntmps69
  obtain ⟨n0, hn0⟩ : ∃ n0, n0 = l0.length := ⟨_, rfl⟩
  obtain ⟨n1, hn1⟩ : ∃ n1, n1 = l1.length := ⟨_, rfl⟩
  rw [← hn0] at hc0 ⊢
  rw [← hn1] at hc1 ⊢
  have HN0 := Aside0.mk hn0
  have HN1 := Aside0.mk hn1
  clear hn0 hn1
  by_cases q1 : n0 = n1
  · subst q1
    go_wp2_with (fail)
    go_loopg [17] n0 (fun gg s17 wr => ∃ i : Nat, i ≤ n0 ∧ gg = n0 - i ∧ s17 = .int .i64 i ∧ (∀ j (h0 : j < l0.length) (h1 : j < l1.length), j < i → sameE l0[j] l1[j] = true) ∧ Below w.heap.size w wr)
    case atStart => exact ⟨0, Nat.zero_le _, rfl, rfl, fun j _ _ h => absurd h (Nat.not_lt_zero j), Below.refl _ _⟩
    case round =>
      obtain ⟨i, hi, rfl, rfl, hS, hB⟩ := hrel
      have HSS := Aside0.mk hS
      clear hS
      by_cases a : i < n0
      · have a1 : decide ((i : Int) < (n0 : Int)) = true := decide_eq_true (by omega)
        have a2 : decide (0 ≤ (i : Int)) = true := decide_eq_true (by omega)
        have h0 : i < l0.length := by rw [← HN0.out]; exact a
        have h1 : i < l1.length := by rw [← HN1.out]; exact a
        obtain ⟨ad, A9, c9, e9, k0, k1, k2, k3, k4⟩ := atT (Kd.C_below HR.out hB) i h0
        obtain ⟨ad', A8, c8, e8, k5, k6, k7, k8, k9⟩ := atT (Kd.C_below HR1.out hB) i h1
        subst e9
        subst e8
        have hall : sameE l0[i] l1[i] = false → sameL l0 l1 = false := fun h => by
          unfold sameL
          rw [Bool.and_eq_false_iff]
          refine .inr ?_
          rw [List.all_eq_false]
          refine ⟨(l0[i], l1[i]), ?_, by rw [h]; exact Bool.false_ne_true⟩
          rw [List.mem_iff_getElem]
          exact ⟨i, by rw [List.length_zip]; omega, by rw [List.getElem_zip]⟩
        have hone := fun W (hr : Kd.C (Kd.int .u8) W A9 l0[i].f2.length l0[i].f2) (hr' : Kd.C (Kd.int .u8) W A8 l1[i].f2.length l1[i].f2) => same1_calls l0[i].f0 l0[i].f1 A9 c9 l0[i].f2 l1[i].f0 l1[i].f1 A8 c8 l1[i].f2 W hr k3 hr' k8
        obtain ⟨X, hX⟩ : ∃ X, X = l0[i] := ⟨_, rfl⟩
        obtain ⟨Y, hY⟩ : ∃ Y, Y = l1[i] := ⟨_, rfl⟩
        rw [← hX] at k0 k1 k2 k3 k4 hall hone
        rw [← hY] at k5 k6 k7 k8 k9 hall hone
        have HX := Aside0.mk hX
        have HY := Aside0.mk hY
        have HA := Aside0.mk hall
        have HONE := Aside0.mk hone
        have HC4 := Aside0.mk k4
        have HC9 := Aside0.mk k9
        have HWI : Aside0 (wrap64 ((i : Int) + 1) = ((i + 1 : Nat) : Int)) := ⟨wr1 (by have := HL.out; omega)⟩
        clear hX hY hall hone k4 k9
        obtain ⟨n2, hn2⟩ : ∃ n2, n2 = X.f2.length := ⟨_, rfl⟩
        obtain ⟨m2, hm2⟩ : ∃ m2, m2 = Y.f2.length := ⟨_, rfl⟩
        rw [← hn2] at k2 k3
        rw [← hm2] at k7 k8
        have HN2 := Aside0.mk hn2
        have HM2 := Aside0.mk hm2
        clear hn2 hm2
        have b1 := below_alloc hB (.cells #[.string X.f0, .bool X.f1, .slice A9 n2 c9] 30)
        have b2 := below_alloc b1 (.cells #[.string Y.f0, .bool Y.f1, .slice A8 m2 c8] 30)
        have bz := below_alloc (below_alloc (Below.refl _ wr) (.cells #[.string X.f0, .bool X.f1, .slice A9 n2 c9] 30)) (.cells #[.string Y.f0, .bool Y.f1, .slice A8 m2 c8] 30)
        have bq := below_alloc (Below.refl _ wr) (.cells #[.string X.f0, .bool X.f1, .slice A9 n2 c9] 30)
        replace k5 := (bq.cell (cell_lt2 k5)).trans k5
        replace k6 := (bq.cell (cell_lt2 k6)).trans k6
        replace k7 := (bq.cell (cell_lt2 k7)).trans k7
        clear bq
        have HBZ := Aside0.mk bz
        clear bz
        go_wp2_with (fail)
        have hcall := HONE.out _ (Kd.C_below HC4.out HBZ.out) (Kd.C_below HC9.out HBZ.out)
        rw [← HN2.out, ← HM2.out] at hcall
        refine hcall.mono ?_
        clear hcall
        rintro e W2 ⟨rfl, hb2⟩
        obtain ⟨ss, hss⟩ : ∃ ss, ss = sameE X Y := ⟨_, rfl⟩
        rw [show sameE ⟨X.f0, X.f1, X.f2⟩ ⟨Y.f0, Y.f1, Y.f2⟩ = ss from hss.symm]
        have HSSQ := Aside0.mk hss
        have hB2 := b2.trans (hb2.mono b2.size)
        clear hss hb2 b1 b2 k0 k1 k2 k5 k6 k7 hB
        dsimp only
        cases ss with
        | true =>
          go_wp2_with (fail)
          go_roundg (n0 - (i + 1))
          case measure => omega
          case rel =>
            refine ⟨i + 1, a, rfl, by rw [HWI.out], fun j h0 h1 hj => ?_, hB2⟩
            rcases Nat.lt_or_ge j i with h | h
            · exact HSS.out j h0 h1 h
            · obtain rfl : j = i := by omega
              rw [← HX.out, ← HY.out]
              exact HSSQ.out.symm
        | false =>
          go_wp2_with (fail)
          go_ret
          exact ⟨by rw [HRES.out, HA.out HSSQ.out.symm]; rfl, hB2⟩
      · have a1 : decide ((i : Int) < (n0 : Int)) = false := decide_eq_false (by omega)
        have hall : sameL l0 l1 = true := by
          unfold sameL
          rw [decide_eq_true (HN0.out.symm.trans HN1.out), Bool.true_and, List.all_eq_true]
          intro p hp
          obtain ⟨j, hj, rfl⟩ := List.mem_iff_getElem.1 hp
          rw [List.getElem_zip]
          rw [List.length_zip] at hj
          exact HSS.out j (by omega) (by omega) (by have := HN0.out; omega)
        have HA := Aside0.mk hall
        clear hall
        go_wp2_with (fail)
        go_ret
        exact ⟨by rw [HRES.out, HA.out]; rfl, hB⟩
  · have p1 : ((n0 : Int) != (n1 : Int)) = true := bne_iff_ne.2 (by omega)
    go_wp2_with (fail)
    go_ret
    refine ⟨?_, Below.refl _ _⟩
    rw [HRES.out, sameL, ← HN0.out, ← HN1.out, decide_eq_false q1]
    rfl
end Go.Proofs.YtidlldfghkaeeaaDoor.P
