/- Put together by pack.py: TreeSam -/
import Derived.Test.YtidlldfghkaeeaaDoorZmTreeOk
import Derived.Test.YtidlldfghkaeeaaDoorZmSamE
namespace Go.Proofs.YtidlldfghkaeeaaDoor.P
open Go.RowKit Go.Proofs.YtidlldfghkaeeaaDoorW.PrintWords Go.Proofs.YtidlldfghkaeeaaDoorW.PrintLast Go.Proofs.YtidlldfghkaeeaaDoorW.PrintMore
set_option linter.unusedVariables false
set_option linter.unusedSimpArgs false

def okT (l : List S30) : Prop := okP l = true ∧ nB30 l ≤ 1000000000000
instance (l : List S30) : Decidable (okT l) := by unfold okT; exact inferInstance
theorem tree_Good.eq {l : List S30} (h : okT l) : tree_Good.f l = some (decide (GT30 l)) := by
  unfold tree_Good.f
  exact if_pos h
def tree_Same.f (l l' : List S30) : Option Bool := if okT l ∧ okT l' then some (decide (GT30 l) && decide (GT30 l') && sameL l l') else none
set_option maxHeartbeats 8000000 in
set_option maxRecDepth 100000 in
theorem tree_Same.calls (A0_0 : Option Addr) (c0_0 : Nat) (l0_0 : List S30) (A1_0 : Option Addr) (c1_0 : Nat) (l1_0 : List S30) (r : Bool) (w : World) (hr0_0 : Kd.C k30 w A0_0 l0_0.length l0_0) (hc0_0 : l0_0.length ≤ c0_0) (hr1_0 : Kd.C k30 w A1_0 l1_0.length l1_0) (hc1_0 : l1_0.length ≤ c1_0) (h : tree_Same.f l0_0 l1_0 = some r) :
    Calls Tryd.prog 20 #[.agg #[.slice A0_0 l0_0.length c0_0], .agg #[.slice A1_0 l1_0.length c1_0]] w fun e w' => e = .returned (.bool r) ∧ Below w.heap.size w w' := by
  unfold tree_Same.f at h
  split at h
  · rename_i hh
    obtain rfl := Option.some.inj h
    obtain ⟨h0, h1⟩ := hh
    have hu26 := Tryd.underlying26
    have HR := Aside0.mk hr0_0
    have HR1 := Aside0.mk hr1_0
    have HL : Aside0 (l0_0.length ≤ 100000) := ⟨(okP_iff.1 h0.1).2⟩
    have e0 := tree_Good.eq h0
    have e1 := tree_Good.eq h1
    clear h hr0_0 hr1_0 h0 h1
    obtain ⟨g0, hg0⟩ : ∃ g0, g0 = decide (GT30 l0_0) := ⟨_, rfl⟩
    obtain ⟨g1, hg1⟩ : ∃ g1, g1 = decide (GT30 l1_0) := ⟨_, rfl⟩
    rw [← hg0] at e0 ⊢
    rw [← hg1] at e1 ⊢
    clear hg0 hg1
    obtain ⟨n0, hn0⟩ : ∃ n0, n0 = l0_0.length := ⟨_, rfl⟩
    obtain ⟨n1, hn1⟩ : ∃ n1, n1 = l1_0.length := ⟨_, rfl⟩
    rw [← hn0] at hc0_0 ⊢
    rw [← hn1] at hc1_0 ⊢
    have HN0 := Aside0.mk hn0
    have HN1 := Aside0.mk hn1
    clear hn0 hn1
    have kG := fun W (hb : Below w.heap.size w W) => tree_Good.calls A0_0 c0_0 l0_0 g0 W (Kd.C_below HR.out hb) (by rw [← HN0.out]; exact hc0_0) e0
    have kG1 := fun W (hb : Below w.heap.size w W) => tree_Good.calls A1_0 c1_0 l1_0 g1 W (Kd.C_below HR1.out hb) (by rw [← HN1.out]; exact hc1_0) e1
    have kE := fun W (hb : Below w.heap.size w W) => EqualFunc_calls A0_0 c0_0 l0_0 A1_0 c1_0 l1_0 W (Kd.C_below HR.out hb) (by rw [← HN0.out]; exact hc0_0) (Kd.C_below HR1.out hb) (by rw [← HN1.out]; exact hc1_0) HL.out
    rw [← HN0.out] at kG
    rw [← HN1.out] at kG1
    rw [← HN0.out, ← HN1.out] at kE
    obtain ⟨ss, hss⟩ : ∃ ss, ss = sameL l0_0 l1_0 := ⟨_, rfl⟩
    rw [← hss] at kE ⊢
    clear hss e0 e1
    have KG := Aside0.mk kG
    have KG1 := Aside0.mk kG1
    have KE := Aside0.mk kE
    clear kG kG1 kE
    have k0 := blk_alloc (blk_new w (.cells #[.slice A0_0 n0 c0_0] 26)) (.cells #[.slice A1_0 n1 c1_0] 26)
    have k1 := blk_new (w.alloc (.cells #[.slice A0_0 n0 c0_0] 26)) (.cells #[.slice A1_0 n1 c1_0] 26)
    rw [World.size_alloc] at k1
    have b0 := below_alloc (below_alloc (Below.refl _ w) (.cells #[.slice A0_0 n0 c0_0] 26)) (.cells #[.slice A1_0 n1 c1_0] 26)
    have m0 := blk_cell k0 0
    have m1 := blk_cell k1 0
    go_enter Tryd.func20, Tryd.ntmps20
    go_wp2_with (fail)
    refine (KG.out _ b0).mono ?_
    rintro e W1 ⟨rfl, hb1⟩
    have b1 := b0.trans (hb1.mono b0.size)
    replace k0 := (hb1.block _ (blk_lt k0)).trans k0
    replace k1 := (hb1.block _ (blk_lt k1)).trans k1
    clear b0 hb1 m0 m1
    have m0 := blk_cell k0 0
    have m1 := blk_cell k1 0
    dsimp only
    cases g0 with
    | false =>
      go_wp2_with (fail)
      go_ret
      exact ⟨rfl, b1⟩
    | true =>
      go_wp2_with (fail)
      refine (KG1.out _ b1).mono ?_
      rintro e W2 ⟨rfl, hb2⟩
      have b2 := b1.trans (hb2.mono b1.size)
      replace k0 := (hb2.block _ (blk_lt k0)).trans k0
      replace k1 := (hb2.block _ (blk_lt k1)).trans k1
      clear b1 hb2 m0 m1
      have m0 := blk_cell k0 0
      have m1 := blk_cell k1 0
      dsimp only
      cases g1 with
      | false =>
        go_wp2_with (fail)
        go_ret
        exact ⟨rfl, b2⟩
      | true =>
        go_wp2_with (fail)
        refine (KE.out _ b2).mono ?_
        rintro e W3 ⟨rfl, hb3⟩
        have b3 := b2.trans (hb3.mono b2.size)
        dsimp only
        go_wp2_with (fail)
        go_ret
        exact ⟨by simp, b3⟩
  · cases h
end Go.Proofs.YtidlldfghkaeeaaDoor.P
