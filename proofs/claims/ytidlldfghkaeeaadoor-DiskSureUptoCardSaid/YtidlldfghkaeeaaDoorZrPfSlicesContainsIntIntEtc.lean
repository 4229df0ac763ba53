/- Put together by pack2.py: PfSlicesContainsIntInt, DskE -/
import Derived.Test.YtidlldfghkaeeaaDoorZrPfTreeKidsEtc
import Derived.Test.YtidlldfghkaeeaaDoorZrDskDEtc
import Derived.Test.YtidlldfghkaeeaaDoorZrW0
section
namespace Go.Proofs.YtidlldfghkaeeaaDoor.P
open Go.RowKit Go.Proofs.YtidlldfghkaeeaaDoorW.PrintWords Go.Proofs.YtidlldfghkaeeaaDoorW.PrintLast Go.Proofs.YtidlldfghkaeeaaDoorW.PrintMore
attribute [local go_sem] max2_int min2_int max_two min_two max_three min_three max_four min_four   -- for this text's walks alone
set_option linter.unusedVariables false
set_option linter.unusedSimpArgs false
/-! ### slices_Contains_int_int: function 97 -/
def slices_Contains_int_int.f (k : Nat) (l0 : List Int) (a1 : Int) : Option (Bool) := (slices_Index_int_int.f k l0 a1).bind fun t191 => (some (decide (t191 ≥ 0)))
set_option maxHeartbeats 8000000 in
set_option maxRecDepth 100000 in
theorem slices_Contains_int_int.calls (k : Nat) (A0 : Option Addr) (c0 : Nat) (l0 : List Int) (a1 : Int) (r : Bool) (w : World) (hr0 : Kd.C (Kd.int .i64) w A0 l0.length l0) (hc0 : l0.length ≤ c0) (h : slices_Contains_int_int.f k l0 a1 = some r) :
  Calls Tryd.prog 97 #[.slice A0 l0.length c0, .int .i64 a1] w fun e w' => e = .returned (.bool r) ∧ Drawn0 w w' := by
 have HR0 := Aside0.mk hr0
 have HC0 := Aside0.mk hc0
 clear hr0 hc0
 have H : ((slices_Index_int_int.f k l0 a1).bind fun t191 => (some (decide (t191 ≥ 0)))) = some r := h
 clear h
 replace H := Option.bind_eq_some_iff.mp H
 obtain ⟨t191, A30, H⟩ := H
 replace H : (some (decide (t191 ≥ 0))) = some r := H
 have A3 := Aside0.mk A30
 clear A30
 obtain rfl := Option.some.inj H
 go_enter Tryd.func97, Tryd.ntmps97
 go_wp2_with (first | ((with_reducible refine gate_callee (f := 116) rfl ?_); refine goesL_ (some 7) rfl rfl Tryd.func116 (by kernel_rfl) rfl #[.slice A0 l0.length c0, .int .i64 a1] rfl (by (try simp only [List.map_toArray, List.map_cons, List.map_nil]); first | done | rfl | (simp only [List.length_drop, List.length_take]; rfl)) ?_; (with_reducible refine (slices_Index_int_int.calls k _ _ l0 a1 t191 _ ?side1 ?side2 A3.out).mono ?_); (case side1 => repeat (first | exact HR0.out | (with_reducible refine Kd.C_alloc ?_ _) | (with_reducible refine Kd.C_drewN ?_ _) | (with_reducible refine Kd.C_drew ?_))); (case side2 => exact HC0.out); rintro e w' ⟨rfl, ⟨nd, rfl⟩⟩; refine ⟨_, rfl, ?_⟩))
 go_ret
 exact ⟨by first | rfl | (simp; done) | (simp [*]; done), by repeat (first | exact Drawn0.refl _ | apply Drawn0.step)⟩

-- NOT PRINTED: function 57 (disk_Disk_Crash)

-- NOT PRINTED: function 79 (disk_Disk_begin)


end Go.Proofs.YtidlldfghkaeeaaDoor.P
end
section
namespace Go.Proofs.YtidlldfghkaeeaaDoor.P
open Go.RowKit Go.Proofs.YtidlldfghkaeeaaDoorW.PrintWords Go.Proofs.YtidlldfghkaeeaaDoorW.PrintLast Go.Proofs.YtidlldfghkaeeaaDoorW.PrintMore
set_option linter.unusedVariables false
set_option linter.unusedSimpArgs false
theorem Contains_nil (i : Int) : slices_Contains_int_int.f 3 [] i = some false := rfl
theorem rd61 {xs : List S61} {i : Nat} (h : i < xs.length) : rd_T61 xs (i : Int) = xs[i] := by
  unfold rd_T61
  rw [Int.toNat_natCast, List.getD_eq_getElem?_getD, List.getElem?_eq_getElem h]
  rfl
theorem Contains_nil_calls (i : Int) (w : World) : Calls Tryd.prog 97 #[.slice none 0 0, .int .i64 i] w fun e w' => e = .returned (.bool false) ∧ Below w.heap.size w w' :=
  (slices_Contains_int_int.calls 3 none 0 [] i false w (Kd.C_nil _ w) (Nat.le_refl _) (Contains_nil i)).mono fun e w' ⟨h1, h2⟩ => ⟨h1, h2.below⟩
set_option maxHeartbeats 8000000 in
set_option maxRecDepth 100000 in
theorem Crash_nil (W : World) (B g : Nat) (s : Dk) (vn vl vw vk : Value) (n : Int) (h : At W B g s vn vl vw vk) (hw : s.waits.length ≤ 100000) (ho : s.off = false) :
    Calls Tryd.prog 57 #[.pointer (some ⟨g, 0, none⟩), .slice none 0 0, .int .i64 n] W fun e w' => e = .returned (.tuple #[]) ∧ At w' B g { s with now := s.last, waits := [], off := true, fuse := 0 } vl vl (.slice none 0 0) vk ∧ Kept W w' (fun k => k = g) ∧ Below B W w' := by
  have hu101 := Tryd.underlying101
  have hu26 := Tryd.underlying26
  have hu61 := Tryd.underlying61
  have HH := Aside0.mk h
  have HW := Aside0.mk hw
  obtain ⟨c0, c1, c2, c3, c4, c5, c6, c7, c8⟩ := h.cells
  rw [ho] at c4
  have HO := Aside0.mk ho
  obtain ⟨Aw, cw, hvw⟩ := Kd.N_slice h.w
  subst hvw
  clear h hw ho c0 c1 c2 c5 c6 c7 c8
  go_enter Tryd.func57, Tryd.ntmps57
  go_wp2_with (fail)
  go_loopg [6, 7, 8, 9, 19, 20, 21, 22, 23, 24, 25, 26, 27] s.waits.length (fun gg _ _ _ _ s19 _ _ _ _ _ _ _ _ wr => ∃ i : Nat, i ≤ s.waits.length ∧ gg = s.waits.length - i ∧ s19 = .int .i64 i ∧ Below W.heap.size W wr)
  case atStart => exact ⟨0, Nat.zero_le _, rfl, rfl, Below.refl _ _⟩
  case round =>
    obtain ⟨i, hi, rfl, rfl, hb⟩ := hrel
    by_cases a : i < s.waits.length
    · have a1 : decide ((i : Int) < (s.waits.length : Int)) = true := decide_eq_true (by omega)
      have hC := Kd.C_below (Kd.N_reads' HH.out.w).2.2 hb
      obtain ⟨ad, A3, c3', ead, K0, K1, K2, K3, _, _⟩ := at_T61 hC (i : Int) (by omega) (by omega)
      rw [rd61 a, Int.toNat_natCast] at K0 K1 K2 K3
      subst ead
      obtain ⟨X, hX⟩ : ∃ X, X = s.waits[i] := ⟨_, rfl⟩
      rw [← hX] at K0 K1 K2 K3
      clear hX hC
      go_wp2_with (fail)
      have hb1 := hb.trans ((below_alloc (Below.refl wr.heap.size wr) (.cells #[.int .i64 X.f0, .string X.f1, .string X.f2, .slice A3 X.f3.length c3'] 61)).mono hb.size)
      refine (Contains_nil_calls i _).mono ?_
      rintro e W2 ⟨rfl, hb2⟩
      have hb3 := hb1.trans (hb2.mono hb1.size)
      have hw1 : wrap64 ((i : Int) + 1) = ((i + 1 : Nat) : Int) := by have := HW.out; exact wr1 (by omega)
      clear hb1 hb2 hb K0 K1 K2 K3
      dsimp only
      go_wp2_with (fail)
      go_roundg (s.waits.length - (i + 1))
      case measure => omega
      case rel => exact ⟨i + 1, by omega, rfl, by first | rfl | rw [hw1], hb3⟩
    · have a1 : decide ((i : Int) < (s.waits.length : Int)) = false := decide_eq_false (by omega)
      have hX := HH.out.below hb
      have HX := Aside0.mk hX
      have fz := hX.frozen
      obtain ⟨Al, cl, hvl, _⟩ := hX.l
      subst hvl
      obtain ⟨c0, c1, c2, c3, c4, c5, c6, c7, c8⟩ := hX.cells
      have HB := Aside0.mk hb
      clear hX hb
      go_wp2_with (fail)
      go_end0
      have hk1 := blk_put HX.out.hg 1 (.slice Al s.last.length cl) (cs' := #[.int .i64 s.q, .slice Al s.last.length cl, .slice Al s.last.length cl, .slice Aw s.waits.length cw, .bool s.off, .int .i64 s.count, .int .i64 s.fuse, vk, .int .i64 s.torn]) rfl
      have hk2 := blk_put hk1 3 (.slice none 0 0) (cs' := #[.int .i64 s.q, .slice Al s.last.length cl, .slice Al s.last.length cl, .slice none 0 0, .bool s.off, .int .i64 s.count, .int .i64 s.fuse, vk, .int .i64 s.torn]) rfl
      have hk3 := blk_put hk2 4 (.bool true) (cs' := #[.int .i64 s.q, .slice Al s.last.length cl, .slice Al s.last.length cl, .slice none 0 0, .bool true, .int .i64 s.count, .int .i64 s.fuse, vk, .int .i64 s.torn]) rfl
      have hk4 := blk_put hk3 6 (.int .i64 0) (cs' := #[.int .i64 s.q, .slice Al s.last.length cl, .slice Al s.last.length cl, .slice none 0 0, .bool true, .int .i64 s.count, .int .i64 0, vk, .int .i64 s.torn]) rfl
      have hK := Ke_set (Ke_set (Ke_set (Ke_set (Kept.refl wr (fun k => k = g)) 1 (.slice Al s.last.length cl)) 3 (.slice none 0 0)) 4 (.bool true)) 6 (.int .i64 0)
      have hKW := (Kept.of_below HB.out (fun k => k = g)).then_ hK (fun k h => .inl h)
      have hBW : B ≤ W.heap.size := by have := HH.out.hB; have := blk_lt HH.out.hg; omega
      have hBB := Be_set (Be_set (Be_set (Be_set (HB.out.mono hBW) HX.out.hB 1 (.slice Al s.last.length cl)) HX.out.hB 3 (.slice none 0 0)) HX.out.hB 4 (.bool true)) HX.out.hB 6 (.int .i64 0)
      generalize (((wr.setCell ⟨g, 1, none⟩ (.slice Al s.last.length cl)).setCell ⟨g, 3, none⟩ (.slice none 0 0)).setCell ⟨g, 4, none⟩ (.bool true)).setCell ⟨g, 6, none⟩ (.int .i64 0) = w2 at *
      clear hk1 hk2 hk3
      have hl := Kd.V_mono HX.out.l (ok' := fun k => B ≤ k ∧ k ≠ g ∧ some k ≠ (Value.slice none 0 0).ownBlock) fun k h => ⟨h.1, h.2.1, no_own⟩
      have hkp := Kd.V_mono HX.out.k (ok' := fun k => B ≤ k ∧ k ≠ g ∧ some k ≠ (Value.slice none 0 0).ownBlock) fun k h => ⟨h.1, h.2.1, no_own⟩
      exact ⟨rfl, At.turn hK HX.out.hB hk4 hl hl (Kd.N_nil _ _ _ _ _) hkp, hKW, hBB⟩
end Go.Proofs.YtidlldfghkaeeaaDoor.P
end
