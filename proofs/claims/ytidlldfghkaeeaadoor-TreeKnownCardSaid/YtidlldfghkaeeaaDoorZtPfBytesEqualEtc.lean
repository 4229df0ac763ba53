/- Put together by pack2.py: PfBytesEqual, SamE, TreeSam, DelE -/
import Derived.Test.YtidlldfghkaeeaaDoorZtOwn53Etc
import Derived.Test.YtidlldfghkaeeaaDoorZtPfTreeEntryOwnEtc
import Derived.Test.YtidlldfghkaeeaaDoorZtTreeOk
import Derived.Test.YtidlldfghkaeeaaDoorZtInsEEtc
import Derived.Test.YtidlldfghkaeeaaDoorZtW0
section
namespace Go.Proofs.YtidlldfghkaeeaaDoor.P
open Go.RowKit Go.Proofs.YtidlldfghkaeeaaDoorW.PrintWords Go.Proofs.YtidlldfghkaeeaaDoorW.PrintLast Go.Proofs.YtidlldfghkaeeaaDoorW.PrintMore
attribute [local go_sem] max2_int min2_int max_two min_two max_three min_three max_four min_four   -- for this text's walks alone
set_option linter.unusedVariables false
set_option linter.unusedSimpArgs false
/-! ### bytes_Equal: function 71 -/
def bytes_Equal.f (l0 : List Int) (l1 : List Int) : Option (Bool) := some ((strOfNums l0).toList == (strOfNums l1).toList)
set_option maxHeartbeats 8000000 in
set_option maxRecDepth 100000 in
theorem bytes_Equal.calls (A0 : Option Addr) (c0 : Nat) (l0 : List Int) (A1 : Option Addr) (c1 : Nat) (l1 : List Int) (r : Bool) (w : World) (hr0 : Kd.C (Kd.int .u8) w A0 l0.length l0) (hc0 : l0.length ≤ c0) (hr1 : Kd.C (Kd.int .u8) w A1 l1.length l1) (hc1 : l1.length ≤ c1) (h : bytes_Equal.f l0 l1 = some r) :
  Calls Tryd.prog 71 #[.slice A0 l0.length c0, .slice A1 l1.length c1] w fun e w' => e = .returned (.bool r) ∧ Drawn0 w w' := by
 have HR0 := Aside0.mk hr0
 have HC0 := Aside0.mk hc0
 clear hr0 hc0
 have HR1 := Aside0.mk hr1
 have HC1 := Aside0.mk hc1
 clear hr1 hc1
 have H : (some ((strOfNums l0).toList == (strOfNums l1).toList)) = some r := h
 clear h
 obtain rfl := Option.some.inj H
 have hcv3 := Kd.C_string (P := Tryd.prog) (A := A0) (c := c0) Tryd.underlying23 Tryd.underlying5 Tryd.underlying9 HR0.out
 have hcv4 := Kd.C_string (P := Tryd.prog) (A := A1) (c := c1) Tryd.underlying23 Tryd.underlying5 Tryd.underlying9 HR1.out
 go_enter Tryd.func71, Tryd.ntmps71
 go_wp2
 go_ret
 exact ⟨by first | rfl | (simp; done) | (simp [*]; done), by repeat (first | exact Drawn0.refl _ | apply Drawn0.step)⟩


end Go.Proofs.YtidlldfghkaeeaaDoor.P
end
section
namespace Go.Proofs.YtidlldfghkaeeaaDoor.P
open Go.RowKit Go.Proofs.YtidlldfghkaeeaaDoorW.PrintWords Go.Proofs.YtidlldfghkaeeaaDoorW.PrintLast Go.Proofs.YtidlldfghkaeeaaDoorW.PrintMore
set_option linter.unusedVariables false
set_option linter.unusedSimpArgs false

/-- Two entries, as the program tells them alike. -/
def sameE (x y : S30) : Bool := (x.f0.toList == y.f0.toList) && (x.f1 == y.f1) && ((strOfNums x.f2).toList == (strOfNums y.f2).toList)
def sameL (l l' : List S30) : Bool := decide (l.length = l'.length) && (l.zip l').all fun p => sameE p.1 p.2
set_option maxHeartbeats 8000000 in
set_option maxRecDepth 100000 in
theorem same1_calls (p : ByteArray) (d : Bool) (A : Option Addr) (c : Nat) (b : List Int) (q : ByteArray) (t : Bool) (B : Option Addr) (k : Nat) (e : List Int) (w : World) (hr : Kd.C (Kd.int .u8) w A b.length b) (hc : b.length ≤ c) (hr' : Kd.C (Kd.int .u8) w B e.length e) (hk : e.length ≤ k) :
    Calls Tryd.prog 70 #[.agg #[.string p, .bool d, .slice A b.length c], .agg #[.string q, .bool t, .slice B e.length k]] w fun x w' => x = .returned (.bool (sameE ⟨p, d, b⟩ ⟨q, t, e⟩)) ∧ Below w.heap.size w w' := by
  have hu30 := Tryd.underlying30
  obtain ⟨res, hres⟩ : ∃ res, res = sameE ⟨p, d, b⟩ ⟨q, t, e⟩ := ⟨_, rfl⟩
  rw [← hres]
  have HRES := Aside0.mk hres
  have HR := Aside0.mk hr
  have HR' := Aside0.mk hr'
  clear hres hr hr'
  have b1 := below_alloc (Below.refl w.heap.size w) (.cells #[.string p, .bool d, .slice A b.length c] 30)
  have b2 := below_alloc b1 (.cells #[.string q, .bool t, .slice B e.length k] 30)
  go_enter Tryd.func70, Tryd.ntmps70
  by_cases h1 : p.toList == q.toList
  · cases d <;> cases t
    · go_wp2_with (fail)
      refine (bytes_Equal.calls A c b B k e _ _ (Kd.C_below HR.out b2) hc (Kd.C_below HR'.out b2) hk rfl).mono ?_
      rintro x W2 ⟨rfl, hd⟩
      have hb := b2.trans (hd.below.mono b2.size)
      clear hd b1 b2
      dsimp only
      go_wp2_with (fail)
      go_ret
      exact ⟨by rw [HRES.out, sameE, h1, Bool.true_and, beq_self_eq_true, Bool.true_and]; rfl, hb⟩
    · go_wp2_with (fail)
      go_ret
      exact ⟨by rw [HRES.out, sameE, h1]; rfl, b2⟩
    · go_wp2_with (fail)
      go_ret
      exact ⟨by rw [HRES.out, sameE, h1]; rfl, b2⟩
    · go_wp2_with (fail)
      refine (bytes_Equal.calls A c b B k e _ _ (Kd.C_below HR.out b2) hc (Kd.C_below HR'.out b2) hk rfl).mono ?_
      rintro x W2 ⟨rfl, hd⟩
      have hb := b2.trans (hd.below.mono b2.size)
      clear hd b1 b2
      dsimp only
      go_wp2_with (fail)
      go_ret
      exact ⟨by rw [HRES.out, sameE, h1, Bool.true_and, beq_self_eq_true, Bool.true_and]; rfl, hb⟩
  · have h1' : (p.toList == q.toList) = false := by simpa using h1
    go_wp2_with (fail)
    go_ret
    exact ⟨by rw [HRES.out, sameE, h1']; rfl, b2⟩
set_option maxHeartbeats 8000000 in
set_option maxRecDepth 100000 in
theorem EqualFunc_calls (A0 : Option Addr) (c0 : Nat) (l0 : List S30) (A1 : Option Addr) (c1 : Nat) (l1 : List S30) (w : World) (hr0 : Kd.C k30 w A0 l0.length l0) (hc0 : l0.length ≤ c0) (hr1 : Kd.C k30 w A1 l1.length l1) (hc1 : l1.length ≤ c1) (hl : l0.length ≤ 100000) :
    Calls Tryd.prog 69 #[.slice A0 l0.length c0, .slice A1 l1.length c1, .func (.func 70) #[] #[]] w fun e w' => e = .returned (.bool (sameL l0 l1)) ∧ Below w.heap.size w w' := by
  have hu30 := Tryd.underlying30
  have HR := Aside0.mk hr0
  have HR1 := Aside0.mk hr1
  have HL := Aside0.mk hl
  clear hr0 hr1 hl
  obtain ⟨res, hres⟩ : ∃ res, res = sameL l0 l1 := ⟨_, rfl⟩
  rw [← hres]
  have HRES := Aside0.mk hres
  clear hres
  go_enter Tryd.func69, Tryd.ntmps69
  obtain ⟨n0, hn0⟩ : ∃ n0, n0 = l0.length := ⟨_, rfl⟩
  obtain ⟨n1, hn1⟩ : ∃ n1, n1 = l1.length := ⟨_, rfl⟩
  rw [← hn0] at hc0 ⊢
  rw [← hn1] at hc1 ⊢
  have HN0 := Aside0.mk hn0
  have HN1 := Aside0.mk hn1
  clear hn0 hn1
  by_cases q1 : n0 = n1
  · subst q1
    go_wp2_with (fail)
    go_loopg [17] n0 (fun gg s17 wr => ∃ i : Nat, i ≤ n0 ∧ gg = n0 - i ∧ s17 = .int .i64 i ∧ (∀ j (h0 : j < l0.length) (h1 : j < l1.length), j < i → sameE l0[j] l1[j] = true) ∧ Below w.heap.size w wr)
    case atStart => exact ⟨0, Nat.zero_le _, rfl, rfl, fun j _ _ h => absurd h (Nat.not_lt_zero j), Below.refl _ _⟩
    case round =>
      obtain ⟨i, hi, rfl, rfl, hS, hB⟩ := hrel
      have HSS := Aside0.mk hS
      clear hS
      by_cases a : i < n0
      · have a1 : decide ((i : Int) < (n0 : Int)) = true := decide_eq_true (by omega)
        have a2 : decide (0 ≤ (i : Int)) = true := decide_eq_true (by omega)
        have h0 : i < l0.length := by rw [← HN0.out]; exact a
        have h1 : i < l1.length := by rw [← HN1.out]; exact a
        obtain ⟨ad, A9, c9, e9, k0, k1, k2, k3, k4⟩ := atT (Kd.C_below HR.out hB) i h0
        obtain ⟨ad', A8, c8, e8, k5, k6, k7, k8, k9⟩ := atT (Kd.C_below HR1.out hB) i h1
        subst e9
        subst e8
        have hall : sameE l0[i] l1[i] = false → sameL l0 l1 = false := fun h => by
          unfold sameL
          rw [Bool.and_eq_false_iff]
          refine .inr ?_
          rw [List.all_eq_false]
          refine ⟨(l0[i], l1[i]), ?_, by rw [h]; exact Bool.false_ne_true⟩
          rw [List.mem_iff_getElem]
          exact ⟨i, by rw [List.length_zip]; omega, by rw [List.getElem_zip]⟩
        have hone := fun W (hr : Kd.C (Kd.int .u8) W A9 l0[i].f2.length l0[i].f2) (hr' : Kd.C (Kd.int .u8) W A8 l1[i].f2.length l1[i].f2) => same1_calls l0[i].f0 l0[i].f1 A9 c9 l0[i].f2 l1[i].f0 l1[i].f1 A8 c8 l1[i].f2 W hr k3 hr' k8
        obtain ⟨X, hX⟩ : ∃ X, X = l0[i] := ⟨_, rfl⟩
        obtain ⟨Y, hY⟩ : ∃ Y, Y = l1[i] := ⟨_, rfl⟩
        rw [← hX] at k0 k1 k2 k3 k4 hall hone
        rw [← hY] at k5 k6 k7 k8 k9 hall hone
        have HX := Aside0.mk hX
        have HY := Aside0.mk hY
        have HA := Aside0.mk hall
        have HONE := Aside0.mk hone
        have HC4 := Aside0.mk k4
        have HC9 := Aside0.mk k9
        have HWI : Aside0 (wrap64 ((i : Int) + 1) = ((i + 1 : Nat) : Int)) := ⟨wr1 (by have := HL.out; omega)⟩
        clear hX hY hall hone k4 k9
        obtain ⟨n2, hn2⟩ : ∃ n2, n2 = X.f2.length := ⟨_, rfl⟩
        obtain ⟨m2, hm2⟩ : ∃ m2, m2 = Y.f2.length := ⟨_, rfl⟩
        rw [← hn2] at k2 k3
        rw [← hm2] at k7 k8
        have HN2 := Aside0.mk hn2
        have HM2 := Aside0.mk hm2
        clear hn2 hm2
        have b1 := below_alloc hB (.cells #[.string X.f0, .bool X.f1, .slice A9 n2 c9] 30)
        have b2 := below_alloc b1 (.cells #[.string Y.f0, .bool Y.f1, .slice A8 m2 c8] 30)
        have bz := below_alloc (below_alloc (Below.refl _ wr) (.cells #[.string X.f0, .bool X.f1, .slice A9 n2 c9] 30)) (.cells #[.string Y.f0, .bool Y.f1, .slice A8 m2 c8] 30)
        have bq := below_alloc (Below.refl _ wr) (.cells #[.string X.f0, .bool X.f1, .slice A9 n2 c9] 30)
        replace k5 := (bq.cell (cell_lt2 k5)).trans k5
        replace k6 := (bq.cell (cell_lt2 k6)).trans k6
        replace k7 := (bq.cell (cell_lt2 k7)).trans k7
        clear bq
        have HBZ := Aside0.mk bz
        clear bz
        go_wp2_with (fail)
        have hcall := HONE.out _ (Kd.C_below HC4.out HBZ.out) (Kd.C_below HC9.out HBZ.out)
        rw [← HN2.out, ← HM2.out] at hcall
        refine hcall.mono ?_
        clear hcall
        rintro e W2 ⟨rfl, hb2⟩
        obtain ⟨ss, hss⟩ : ∃ ss, ss = sameE X Y := ⟨_, rfl⟩
        rw [show sameE ⟨X.f0, X.f1, X.f2⟩ ⟨Y.f0, Y.f1, Y.f2⟩ = ss from hss.symm]
        have HSSQ := Aside0.mk hss
        have hB2 := b2.trans (hb2.mono b2.size)
        clear hss hb2 b1 b2 k0 k1 k2 k5 k6 k7 hB
        dsimp only
        cases ss with
        | true =>
          go_wp2_with (fail)
          go_roundg (n0 - (i + 1))
          case measure => omega
          case rel =>
            refine ⟨i + 1, a, rfl, by rw [HWI.out], fun j h0 h1 hj => ?_, hB2⟩
            rcases Nat.lt_or_ge j i with h | h
            · exact HSS.out j h0 h1 h
            · obtain rfl : j = i := by omega
              rw [← HX.out, ← HY.out]
              exact HSSQ.out.symm
        | false =>
          go_wp2_with (fail)
          go_ret
          exact ⟨by rw [HRES.out, HA.out HSSQ.out.symm]; rfl, hB2⟩
      · have a1 : decide ((i : Int) < (n0 : Int)) = false := decide_eq_false (by omega)
        have hall : sameL l0 l1 = true := by
          unfold sameL
          rw [decide_eq_true (HN0.out.symm.trans HN1.out), Bool.true_and, List.all_eq_true]
          intro p hp
          obtain ⟨j, hj, rfl⟩ := List.mem_iff_getElem.1 hp
          rw [List.getElem_zip]
          rw [List.length_zip] at hj
          exact HSS.out j (by omega) (by omega) (by have := HN0.out; omega)
        have HA := Aside0.mk hall
        clear hall
        go_wp2_with (fail)
        go_ret
        exact ⟨by rw [HRES.out, HA.out]; rfl, hB⟩
  · have p1 : ((n0 : Int) != (n1 : Int)) = true := bne_iff_ne.2 (by omega)
    go_wp2_with (fail)
    go_ret
    refine ⟨?_, Below.refl _ _⟩
    rw [HRES.out, sameL, ← HN0.out, ← HN1.out, decide_eq_false q1]
    rfl
end Go.Proofs.YtidlldfghkaeeaaDoor.P
end
section
namespace Go.Proofs.YtidlldfghkaeeaaDoor.P
open Go.RowKit Go.Proofs.YtidlldfghkaeeaaDoorW.PrintWords Go.Proofs.YtidlldfghkaeeaaDoorW.PrintLast Go.Proofs.YtidlldfghkaeeaaDoorW.PrintMore
set_option linter.unusedVariables false
set_option linter.unusedSimpArgs false

def okT (l : List S30) : Prop := okP l = true ∧ nB30 l ≤ 1000000000000
instance (l : List S30) : Decidable (okT l) := by unfold okT; exact inferInstance
theorem tree_Good.eq {l : List S30} (h : okT l) : tree_Good.f l = some (decide (GT30 l)) := by
  unfold tree_Good.f
  exact if_pos h
def tree_Same.f (l l' : List S30) : Option Bool := if okT l ∧ okT l' then some (decide (GT30 l) && decide (GT30 l') && sameL l l') else none
set_option maxHeartbeats 8000000 in
set_option maxRecDepth 100000 in
theorem tree_Same.calls (A0_0 : Option Addr) (c0_0 : Nat) (l0_0 : List S30) (A1_0 : Option Addr) (c1_0 : Nat) (l1_0 : List S30) (r : Bool) (w : World) (hr0_0 : Kd.C k30 w A0_0 l0_0.length l0_0) (hc0_0 : l0_0.length ≤ c0_0) (hr1_0 : Kd.C k30 w A1_0 l1_0.length l1_0) (hc1_0 : l1_0.length ≤ c1_0) (h : tree_Same.f l0_0 l1_0 = some r) :
    Calls Tryd.prog 20 #[.agg #[.slice A0_0 l0_0.length c0_0], .agg #[.slice A1_0 l1_0.length c1_0]] w fun e w' => e = .returned (.bool r) ∧ Below w.heap.size w w' := by
  unfold tree_Same.f at h
  split at h
  · rename_i hh
    obtain rfl := Option.some.inj h
    obtain ⟨h0, h1⟩ := hh
    have hu26 := Tryd.underlying26
    have HR := Aside0.mk hr0_0
    have HR1 := Aside0.mk hr1_0
    have HL : Aside0 (l0_0.length ≤ 100000) := ⟨(okP_iff.1 h0.1).2⟩
    have e0 := tree_Good.eq h0
    have e1 := tree_Good.eq h1
    clear h hr0_0 hr1_0 h0 h1
    obtain ⟨g0, hg0⟩ : ∃ g0, g0 = decide (GT30 l0_0) := ⟨_, rfl⟩
    obtain ⟨g1, hg1⟩ : ∃ g1, g1 = decide (GT30 l1_0) := ⟨_, rfl⟩
    rw [← hg0] at e0 ⊢
    rw [← hg1] at e1 ⊢
    clear hg0 hg1
    obtain ⟨n0, hn0⟩ : ∃ n0, n0 = l0_0.length := ⟨_, rfl⟩
    obtain ⟨n1, hn1⟩ : ∃ n1, n1 = l1_0.length := ⟨_, rfl⟩
    rw [← hn0] at hc0_0 ⊢
    rw [← hn1] at hc1_0 ⊢
    have HN0 := Aside0.mk hn0
    have HN1 := Aside0.mk hn1
    clear hn0 hn1
    have kG := fun W (hb : Below w.heap.size w W) => tree_Good.calls A0_0 c0_0 l0_0 g0 W (Kd.C_below HR.out hb) (by rw [← HN0.out]; exact hc0_0) e0
    have kG1 := fun W (hb : Below w.heap.size w W) => tree_Good.calls A1_0 c1_0 l1_0 g1 W (Kd.C_below HR1.out hb) (by rw [← HN1.out]; exact hc1_0) e1
    have kE := fun W (hb : Below w.heap.size w W) => EqualFunc_calls A0_0 c0_0 l0_0 A1_0 c1_0 l1_0 W (Kd.C_below HR.out hb) (by rw [← HN0.out]; exact hc0_0) (Kd.C_below HR1.out hb) (by rw [← HN1.out]; exact hc1_0) HL.out
    rw [← HN0.out] at kG
    rw [← HN1.out] at kG1
    rw [← HN0.out, ← HN1.out] at kE
    obtain ⟨ss, hss⟩ : ∃ ss, ss = sameL l0_0 l1_0 := ⟨_, rfl⟩
    rw [← hss] at kE ⊢
    clear hss e0 e1
    have KG := Aside0.mk kG
    have KG1 := Aside0.mk kG1
    have KE := Aside0.mk kE
    clear kG kG1 kE
    have k0 := blk_alloc (blk_new w (.cells #[.slice A0_0 n0 c0_0] 26)) (.cells #[.slice A1_0 n1 c1_0] 26)
    have k1 := blk_new (w.alloc (.cells #[.slice A0_0 n0 c0_0] 26)) (.cells #[.slice A1_0 n1 c1_0] 26)
    rw [World.size_alloc] at k1
    have b0 := below_alloc (below_alloc (Below.refl _ w) (.cells #[.slice A0_0 n0 c0_0] 26)) (.cells #[.slice A1_0 n1 c1_0] 26)
    have m0 := blk_cell k0 0
    have m1 := blk_cell k1 0
    go_enter Tryd.func20, Tryd.ntmps20
    go_wp2_with (fail)
    refine (KG.out _ b0).mono ?_
    rintro e W1 ⟨rfl, hb1⟩
    have b1 := b0.trans (hb1.mono b0.size)
    replace k0 := (hb1.block _ (blk_lt k0)).trans k0
    replace k1 := (hb1.block _ (blk_lt k1)).trans k1
    clear b0 hb1 m0 m1
    have m0 := blk_cell k0 0
    have m1 := blk_cell k1 0
    dsimp only
    cases g0 with
    | false =>
      go_wp2_with (fail)
      go_ret
      exact ⟨rfl, b1⟩
    | true =>
      go_wp2_with (fail)
      refine (KG1.out _ b1).mono ?_
      rintro e W2 ⟨rfl, hb2⟩
      have b2 := b1.trans (hb2.mono b1.size)
      replace k0 := (hb2.block _ (blk_lt k0)).trans k0
      replace k1 := (hb2.block _ (blk_lt k1)).trans k1
      clear b1 hb2 m0 m1
      have m0 := blk_cell k0 0
      have m1 := blk_cell k1 0
      dsimp only
      cases g1 with
      | false =>
        go_wp2_with (fail)
        go_ret
        exact ⟨rfl, b2⟩
      | true =>
        go_wp2_with (fail)
        refine (KE.out _ b2).mono ?_
        rintro e W3 ⟨rfl, hb3⟩
        have b3 := b2.trans (hb3.mono b2.size)
        dsimp only
        go_wp2_with (fail)
        go_ret
        exact ⟨by simp, b3⟩
  · cases h
end Go.Proofs.YtidlldfghkaeeaaDoor.P
end
section
namespace Go.Proofs.YtidlldfghkaeeaaDoor.P
open Go.RowKit Go.Proofs.YtidlldfghkaeeaaDoorW.PrintWords Go.Proofs.YtidlldfghkaeeaaDoorW.PrintLast Go.Proofs.YtidlldfghkaeeaaDoorW.PrintMore
set_option linter.unusedVariables false
set_option linter.unusedSimpArgs false

/-- Cuts of any row, told out. -/
theorem run_lowX (A : Option Addr) (n c m : Nat) (hn : m ≤ n) (W : World) : (Instr.slice 22 (.slice A n c) (some (.int .i64 (m : Int))) none none).run Tryd.prog W = .ok (.slice (if c = m then A else A.map (·.add (m * 3))) (n - m) (c - m)) W := by
 have hs := sizeE
 cases hq : Tryd.prog.info? 30 with
 | none => simp [hq] at hs
 | some i =>
  have hi : i.size = 3 := by simpa [hq] using hs
  have hel : Tryd.prog.elem 22 = 30 := by simp [Program.elem, Tryd.underlying22]
  have hu : Tryd.prog.underlying 22 = some (.slice (Tryd.prog.elem 22)) := by rw [hel]; exact Tryd.underlying22
  rw [run_slice_l W 22 A n c hu .i64 (m : Int) (Int.natCast_nonneg _) (by omega), hel]
  simp [sizeOf, typeInfo, hq, hi, sliced, Result.andThen]
theorem run_lhm (A : Option Addr) (n c l h m : Nat) (h1 : l ≤ h) (h2 : h ≤ m) (h3 : m ≤ c) : ∃ v : Value, ∀ W : World, (Instr.slice 22 (.slice A n c) (some (.int .i64 (l : Int))) (some (.int .i64 (h : Int))) (some (.int .i64 (m : Int)))).run Tryd.prog W = .ok v W := by
 have hs := sizeE
 cases hq : Tryd.prog.info? 30 with
 | none => simp [hq] at hs
 | some i =>
  have hi : i.size = 3 := by simpa [hq] using hs
  have hel : Tryd.prog.elem 22 = 30 := by simp [Program.elem, Tryd.underlying22]
  have hu : Tryd.prog.underlying 22 = some (.slice (Tryd.prog.elem 22)) := by rw [hel]; exact Tryd.underlying22
  refine ⟨sliced A l h m 3, fun W => ?_⟩
  rw [run_slice_lhm W 22 A n c hu .i64 .i64 .i64 (l : Int) (h : Int) (m : Int) (Int.natCast_nonneg _) (by omega) (by omega) (by omega), hel]
  simp [sizeOf, typeInfo, hq, hi, Result.andThen]
theorem run_lh (g n c l h : Nat) (h1 : l ≤ h) (h2 : h ≤ c) (h3 : l < c) (W : World) : (Instr.slice 22 (.slice (some ⟨g, 0, none⟩) n c) (some (.int .i64 (l : Int))) (some (.int .i64 (h : Int))) none).run Tryd.prog W = .ok (.slice (some ⟨g, l * 3, none⟩) (h - l) (c - l)) W := by
 have hs := sizeE
 cases hq : Tryd.prog.info? 30 with
 | none => simp [hq] at hs
 | some i =>
  have hi : i.size = 3 := by simpa [hq] using hs
  have hel : Tryd.prog.elem 22 = 30 := by simp [Program.elem, Tryd.underlying22]
  have hu : Tryd.prog.underlying 22 = some (.slice (Tryd.prog.elem 22)) := by rw [hel]; exact Tryd.underlying22
  rw [run_slice_lh W 22 _ n c hu .i64 .i64 (l : Int) (h : Int) (Int.natCast_nonneg _) (by omega) (by omega), hel]
  simp [sizeOf, typeInfo, hq, hi, sliced, Result.andThen, show ¬ c = l by omega, add_at]
/-- clear, at elements of three cells. -/
theorem run_clear3 (w : World) (g o n : Nat) (cur : Array Value) (hg : w.heap[g]? = some (.cells cur 30 (0, 0))) (hn : 0 < n) (hfit : o + n * 3 ≤ cur.size) : ∃ zs : List Value, zs.length = n * 3 ∧ ∀ ty c,
  (Builtin.clear_ #[22] ty #[.slice (some ⟨g, o, none⟩) n c]).run Tryd.prog w = .ok (.tuple #[]) (w.setRow g (cur.toList.take o ++ zs ++ cur.toList.drop (o + n * 3)).toArray) := by
 have hz : ∀ W, (zeroValue 30).run Tryd.prog W = .ok (.agg #[.string ⟨#[]⟩, .bool false, .slice none 0 0]) W := fun W => by
  have h := infoE
  cases hh : Tryd.prog.info? 30 with
  | none => rw [hh] at h; cases h
  | some v =>
   rw [hh] at h
   simp only [Option.map_some, Option.some.injEq, Prod.mk.injEq] at h
   simp [zeroValue, typeInfo, hh, h.1]
 obtain ⟨zs, hzs⟩ : ∃ zs, zs = (Builtin.zeroCells (Value.cells (.agg #[.string ⟨#[]⟩, .bool false, .slice none 0 0])) n).toList := ⟨_, rfl⟩
 have hc : Value.cells (.agg #[.string ⟨#[]⟩, .bool false, .slice none 0 0]) = #[.string ⟨#[]⟩, .bool false, .slice none 0 0] := rfl
 have hl : zs.length = n * 3 := by
  rw [hzs, hc]
  simp [Builtin.zeroCells]
 have h1 : ∀ v ∈ zs, v.oneCell' = true := by
  intro v hv
  rw [hzs, hc] at hv
  simp only [Builtin.zeroCells, Array.toList_map, List.mem_map] at hv
  obtain ⟨i, _, rfl⟩ := hv
  have hi : i % 3 = 0 ∨ i % 3 = 1 ∨ i % 3 = 2 := by omega
  show (#[Value.string ⟨#[]⟩, .bool false, .slice none 0 0][i % 3]!).oneCell' = true
  rcases hi with h | h | h <;> rw [h] <;> rfl
 refine ⟨zs, hl, fun ty c => ?_⟩
 have hst := run_storeCells_at Tryd.prog g o 30 zs 0 cur w hg (by rw [hl]; omega) h1
 simp only [Nat.add_zero] at hst
 rw [hl] at hst
 obtain ⟨m, rfl⟩ : ∃ m, n = m + 1 := ⟨n - 1, by omega⟩
 have hu := Tryd.underlying22
 simp [Builtin.clear_, run_underlying hu, hz, ← hzs, hst]
/-- What lies behind a row may turn. -/
theorem NB.tail {W : World} {base : Nat} {ok : Nat → Prop} {g n cap : Nat} {rows : List (List Value)} {tail : List Value} {xs : List S30} (h : NB W base ok g n cap rows tail xs) {tail' : List Value} (ht : tail'.length = tail.length) : NB (W.setRow g (rows.flatten ++ tail').toArray) base ok g n cap rows tail' xs :=
 ⟨setRow_heap _ g _ _ _ _ h.hb, h.hg, h.hok, h.hn, h.hc, h.hm, h.hl, h.hw, by rw [ht]; exact h.ht, fun j x c hx hc => Kd.FK_step (h.hf j x c hx hc) fun k hk hlt => setRow_other _ _ _ _ hk.2⟩
/-- clear of what lies behind a row. -/
theorem clear_tail {W : World} {base : Nat} {ok : Nat → Prop} {g n cap : Nat} {xs : List S30} (h : Kd.N k30 30 W base ok (.slice (some ⟨g, 0, none⟩) n cap) xs) (k : Nat) (hk : 0 < k) (hc : n + k ≤ cap) : ∃ W' : World, (∀ ty c', (Builtin.clear_ #[22] ty #[.slice (some ⟨g, n * 3, none⟩) k c']).run Tryd.prog W = .ok (.tuple #[]) W') ∧ Kd.N k30 30 W' base ok (.slice (some ⟨g, 0, none⟩) n cap) xs ∧ ∀ B w, Below B w W → B ≤ base → Below B w W' := by
 obtain ⟨rows, tail, hNB⟩ := N_NB h
 have hfl := flat_len (fun r hr => (hNB.hw r hr).1)
 have hl := hNB.hl
 have ht := hNB.ht
 have hsz : (rows.flatten ++ tail).toArray.size = cap * 3 := by
  rw [List.size_toArray, List.length_append, hfl, ht, hl]
  have := hNB.hc
  omega
 have e : ∀ zs : List Value, zs.length = k * 3 → ((rows.flatten ++ tail).toArray.toList.take (n * 3) ++ zs ++ (rows.flatten ++ tail).toArray.toList.drop (n * 3 + k * 3)) = rows.flatten ++ (zs ++ tail.drop (k * 3)) := fun zs hz => by
  rw [List.toList_toArray, List.take_append_of_le_length (by rw [hfl, hl]; exact Nat.le_refl _), List.take_of_length_le (by rw [hfl, hl]; exact Nat.le_refl _), List.append_assoc, List.drop_append, List.drop_of_length_le (l := rows.flatten) (by rw [hfl, hl]; omega), List.nil_append, hfl, hl, show n * 3 + k * 3 - n * 3 = k * 3 by omega]
 have hall : ∃ zs : List Value, zs.length = k * 3 ∧ ∀ ty c', (Builtin.clear_ #[22] ty #[.slice (some ⟨g, n * 3, none⟩) k c']).run Tryd.prog W = .ok (.tuple #[]) (W.setRow g (rows.flatten ++ (zs ++ tail.drop (k * 3))).toArray) := by
  obtain ⟨zs, hzl, hrun⟩ := run_clear3 W g (n * 3) k _ hNB.hb hk (by rw [hsz]; omega)
  refine ⟨zs, hzl, fun ty c' => ?_⟩
  rw [← e zs hzl]
  exact hrun ty c'
 obtain ⟨zs, hzl, hrun⟩ := hall
 exact ⟨_, hrun, NB_N (hNB.tail (by rw [List.length_append, hzl, List.length_drop, ht]; have := hNB.hc; omega)), fun B w hb hB => below_setRow hb (Nat.le_trans hB hNB.hg) _⟩
/-- clear of what lies behind a row; no other block turns. -/
theorem clear_tailK {W : World} {base : Nat} {ok : Nat → Prop} {g n cap : Nat} {xs : List S30} (h : Kd.N k30 30 W base ok (.slice (some ⟨g, 0, none⟩) n cap) xs) (k : Nat) (hk : 0 < k) (hc : n + k ≤ cap) : ∃ W' : World, (∀ ty c', (Builtin.clear_ #[22] ty #[.slice (some ⟨g, n * 3, none⟩) k c']).run Tryd.prog W = .ok (.tuple #[]) W') ∧ Kd.N k30 30 W' base ok (.slice (some ⟨g, 0, none⟩) n cap) xs ∧ (∀ B w, Below B w W → B ≤ base → Below B w W') ∧ ∀ j, j ≠ g → W'.heap[j]? = W.heap[j]? := by
 obtain ⟨rows, tail, hNB⟩ := N_NB h
 have hfl := flat_len (fun r hr => (hNB.hw r hr).1)
 have hl := hNB.hl
 have ht := hNB.ht
 have hsz : (rows.flatten ++ tail).toArray.size = cap * 3 := by
  rw [List.size_toArray, List.length_append, hfl, ht, hl]
  have := hNB.hc
  omega
 have e : ∀ zs : List Value, zs.length = k * 3 → ((rows.flatten ++ tail).toArray.toList.take (n * 3) ++ zs ++ (rows.flatten ++ tail).toArray.toList.drop (n * 3 + k * 3)) = rows.flatten ++ (zs ++ tail.drop (k * 3)) := fun zs hz => by
  rw [List.toList_toArray, List.take_append_of_le_length (by rw [hfl, hl]; exact Nat.le_refl _), List.take_of_length_le (by rw [hfl, hl]; exact Nat.le_refl _), List.append_assoc, List.drop_append, List.drop_of_length_le (l := rows.flatten) (by rw [hfl, hl]; omega), List.nil_append, hfl, hl, show n * 3 + k * 3 - n * 3 = k * 3 by omega]
 obtain ⟨zs, hzl, hrun⟩ := run_clear3 W g (n * 3) k _ hNB.hb hk (by rw [hsz]; omega)
 refine ⟨W.setRow g (rows.flatten ++ (zs ++ tail.drop (k * 3))).toArray, fun ty c' => ?_, NB_N (hNB.tail (by rw [List.length_append, hzl, List.length_drop, ht]; have := hNB.hc; omega)), fun B w hb hB => below_setRow hb (Nat.le_trans hB hNB.hg) _, fun j hj => setRow_other _ _ _ _ hj⟩
 rw [← e zs hzl]
 exact hrun ty c'
set_option maxHeartbeats 8000000 in
set_option maxRecDepth 100000 in
theorem DeleteEK_calls (B : Nat) (ok : Nat → Prop) (v0 : Value) (i : Nat) (ii jj : Int) (xs : List S30) (w : World) (h : Kd.N k30 30 w B ok v0 xs) (hB : B ≤ w.heap.size) (hi : i < xs.length) (hn : xs.length ≤ 100000) (hii : ii = (i : Int)) (hjj : jj = ((i + 1 : Nat) : Int)) :
  Calls Tryd.prog 67 #[v0, .int .i64 ii, .int .i64 jj] w fun e w' => ∃ v', e = .returned v' ∧ Kd.N k30 30 w' B ok v' (xs.eraseIdx i) ∧ Below B w w' ∧ ∀ k, k < w.heap.size → some k ≠ v0.ownBlock → w'.heap[k]? = w.heap[k]? := by
 obtain ⟨g, c, rfl, hg1, hg2, _⟩ := Kd.N_form h (by omega)
 obtain ⟨n, hnx⟩ : ∃ n, n = xs.length := ⟨_, rfl⟩
 rw [← hnx] at h hi hn ⊢
 have hnc := (Kd.N_reads' h).2.1
 obtain ⟨v1, hs0⟩ := run_lhm (some ⟨g, 0, none⟩) n c i (i + 1) n (by omega) (by omega) hnc
 have hs1 := fun W => run_high W (some ⟨g, 0, none⟩) n c i (by omega)
 obtain ⟨A', hA'⟩ : ∃ A' : Option Addr, A' = if c = i + 1 then (some ⟨g, 0, none⟩ : Option Addr) else (some (⟨g, 0, none⟩ : Addr)).map (·.add ((i + 1) * 3)) := ⟨_, rfl⟩
 have hs2 := fun W => run_lowX (some ⟨g, 0, none⟩) n c (i + 1) (by omega) W
 rw [← hA'] at hs2
 obtain ⟨q, hq⟩ : ∃ q, q = n - 1 := ⟨_, rfl⟩
 have hs3 := fun W => run_lh g q c q n (by omega) hnc (by omega) W
 rw [show n - q = 1 by omega] at hs3
 have hA2 : A' = if c = i + 1 then (some ⟨g, 0, none⟩ : Option Addr) else (some (⟨g, 0, none⟩ : Addr)).map (·.add ((i + 1) * k30.sz)) := hA'
 rw [← hii] at hs0 hs1
 rw [← hjj] at hs0 hs2
 have g1 : (ii == jj) = false := beq_eq_false_iff_ne.2 (by omega)
 have HQ := Aside0.mk hq
 have HA2 := Aside0.mk hA2
 have HI := Aside0.mk hi
 have HNC := Aside0.mk hnc
 have HS3 := Aside0.mk hs3
 clear hq hA2 hA' hii hjj hnx hnc hs3
 go_enter Tryd.func67, Tryd.ntmps67
 go_wp2_with (fail)
 have hDd : Below w.heap.size w w.drew := below_drew (Below.refl _ _)
 have hNd := Kd.N_below h hDd
 have hBd : B ≤ w.drew.heap.size := hB
 refine start_ (n := 8) (S := fun w' => True) (ds := []) (bs_ 8 0x0) (by kernel_rfl) rfl rfl trivial (fun hHeld => ?_)
 generalize w.drew = wd at hNd hBd hHeld hDd ⊢
 refine pure_ (i := 0) (N := some 20) (v := ?_) (a' := ?_) (bs_ 8 0x1) rfl rfl (by kernel_rfl) (fun _ _ _ h => h) (Or.inl ⟨by rfl, ?_⟩) ?_ ?_; rotate_left; (intro w'; go_simp; with_reducible rfl); rotate_left; (simp only [nm_]; rfl)
 refine pure_ (i := 1) (N := some 21) (v := ?_) (a' := ?_) (bs_ 8 0x3) rfl rfl (by kernel_rfl) (fun _ _ _ h => h) (Or.inl ⟨by rfl, ?_⟩) ?_ ?_; rotate_left; (intro w'; go_simp; with_reducible rfl); rotate_left; (simp only [nm_]; rfl)
 refine pure_ (i := 2) (N := some 22) (v := ?_) (a' := ?_) (bs_ 8 0x7) rfl rfl (by kernel_rfl) (fun _ _ _ h => h) (Or.inl ⟨by rfl, ?_⟩) ?_ ?_; rotate_left; (intro w'; go_simp; with_reducible rfl); rotate_left; (simp only [nm_]; rfl)
 refine pure_ (i := 3) (N := some 23) (v := ?_) (a' := ?_) (bs_ 8 0xf) rfl rfl (by kernel_rfl) (fun _ _ _ h => h) (Or.inl ⟨by rfl, ?_⟩) ?_ ?_; rotate_left; (intro w'; go_simp; with_reducible rfl); rotate_left; (simp only [nm_]; rfl)
 refine pure_ (i := 4) (N := some 24) (v := ?_) (a' := ?_) (bs_ 8 0x1f) rfl rfl (by kernel_rfl) (fun _ _ _ h => h) (Or.inl ⟨by rfl, ?_⟩) ?_ ?_; rotate_left; (intro w'; go_simp; with_reducible rfl); rotate_left; (simp only [nm_]; rfl)
 refine pure_ (i := 5) (N := some 25) (v := ?_) (a' := ?_) (bs_ 8 0x3f) rfl rfl (by kernel_rfl) (fun _ _ _ h => h) (Or.inl ⟨by rfl, ?_⟩) ?_ ?_; rotate_left; (intro w'; go_simp; with_reducible rfl); rotate_left; (simp only [nm_]; rfl)
 refine one_ (i := 6) (N := some 26) (bs_ 8 0x7f) rfl rfl (by kernel_rfl) (by decide) (fun K hK => ?_)
 refine Kd.N_delete_step k30 (w0 := wd) B (by rfl) (.tmp 22) (.tmp 25) 22 30 rfl Tryd.underlying22 sizeE (k := i) (n := n) (g := g) (c := c) rfl rfl HA2.out rfl hNd HI.out (Below.refl _ _) hBd ?_
 intro w2 hr2 hb2 hg2
 refine hK.out _ _ trivial (fun hHeld => ?_)
 clear hK K
 refine norm_ (a' := ?_) ?_ ?_
 rotate_left
 ·show Act.put _ (some 26) _ = _
  simp only [nm_]
  rfl
 refine pure_ (i := 7) (N := some 0) (v := ?_) (a' := ?_) (bs_ 8 0xff) rfl rfl (by kernel_rfl) (fun _ _ _ h => h) (Or.inl ⟨by rfl, ?_⟩) ?_ ?_; rotate_left; (intro w'; go_simp; with_reducible rfl); rotate_left; (simp only [nm_]; rfl)
 refine done_ (by kernel_rfl) ?_

 have hqn : n - 1 = q := HQ.out.symm
 rw [hqn] at hr2 ⊢
 clear hqn
 obtain ⟨W5, hcl, hN5, hB5, hK5⟩ := clear_tailK hr2 1 (by omega) (by have := HNC.out; have := HQ.out; have := HI.out; omega)
 have hs3 := HS3.out
 have HN5 := Aside0.mk hN5
 have HB5 : Aside0 (Below B w W5) := ⟨hB5 B w ((hDd.mono hB).trans hb2) (Nat.le_refl _)⟩
 have HK5 : Aside0 (∀ k, k < w.heap.size → some k ≠ (Value.slice (some ⟨g, 0, none⟩) n c).ownBlock → W5.heap[k]? = w.heap[k]?) := ⟨fun k hk hne => by
  have hkg : k ≠ g := fun e => hne (by rw [e]; rfl)
  exact (hK5 k hkg).trans ((hg2.block k (Nat.lt_of_lt_of_le hk hDd.size) (by intro e; injection e with e; exact hkg e)).trans (hDd.block k hk))⟩
 clear hK5 hN5 hB5 hr2 hb2 hg2 hNd hDd hs0 hs1 hs2 h
 go_wp2_with (fail)
 go_ret
 exact ⟨_, rfl, HN5.out, HB5.out, HK5.out⟩
theorem DeleteE_calls (B : Nat) (ok : Nat → Prop) (v0 : Value) (i : Nat) (ii jj : Int) (xs : List S30) (w : World) (h : Kd.N k30 30 w B ok v0 xs) (hB : B ≤ w.heap.size) (hi : i < xs.length) (hn : xs.length ≤ 100000) (hii : ii = (i : Int)) (hjj : jj = ((i + 1 : Nat) : Int)) :
  Calls Tryd.prog 67 #[v0, .int .i64 ii, .int .i64 jj] w fun e w' => ∃ v', e = .returned v' ∧ Kd.N k30 30 w' B ok v' (xs.eraseIdx i) ∧ Below B w w' :=
 (DeleteEK_calls B ok v0 i ii jj xs w h hB hi hn hii hjj).mono fun _ _ ⟨v', h1, h2, h3, _⟩ => ⟨v', h1, h2, h3⟩
end Go.Proofs.YtidlldfghkaeeaaDoor.P
end
