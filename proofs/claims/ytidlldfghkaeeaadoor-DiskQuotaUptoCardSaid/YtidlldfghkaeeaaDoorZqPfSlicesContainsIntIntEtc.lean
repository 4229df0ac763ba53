/- Put together by pack2.py: PfSlicesContainsIntInt, DskE, TreeAwk, DskW, DskQ, Opens, OpenU -/
import Derived.Test.YtidlldfghkaeeaaDoorZqPfTreeKidsEtc
import Derived.Test.YtidlldfghkaeeaaDoorZqDskDEtc
import Derived.Test.YtidlldfghkaeeaaDoorZqPfTreeMakeEtc
import Derived.Test.YtidlldfghkaeeaaDoorZqW0
import Derived.ChangeArms
import Derived.DataReads
import Derived.ChangeOld
import Derived.Test.YtidlldfghkaeeaaDoorRows
section
namespace Go.Proofs.YtidlldfghkaeeaaDoor.P
open Go.RowKit Go.Proofs.YtidlldfghkaeeaaDoorW.PrintWords Go.Proofs.YtidlldfghkaeeaaDoorW.PrintLast Go.Proofs.YtidlldfghkaeeaaDoorW.PrintMore
attribute [local go_sem] max2_int min2_int max_two min_two max_three min_three max_four min_four   -- for this text's walks alone
set_option linter.unusedVariables false
set_option linter.unusedSimpArgs false
/-! ### slices_Contains_int_int: function 97 -/
def slices_Contains_int_int.f (k : Nat) (l0 : List Int) (a1 : Int) : Option (Bool) := (slices_Index_int_int.f k l0 a1).bind fun t191 => (some (decide (t191 ≥ 0)))
set_option maxHeartbeats 8000000 in
set_option maxRecDepth 100000 in
theorem slices_Contains_int_int.calls (k : Nat) (A0 : Option Addr) (c0 : Nat) (l0 : List Int) (a1 : Int) (r : Bool) (w : World) (hr0 : Kd.C (Kd.int .i64) w A0 l0.length l0) (hc0 : l0.length ≤ c0) (h : slices_Contains_int_int.f k l0 a1 = some r) :
  Calls Tryd.prog 97 #[.slice A0 l0.length c0, .int .i64 a1] w fun e w' => e = .returned (.bool r) ∧ Drawn0 w w' := by
 have HR0 := Aside0.mk hr0
 have HC0 := Aside0.mk hc0
 clear hr0 hc0
 have H : ((slices_Index_int_int.f k l0 a1).bind fun t191 => (some (decide (t191 ≥ 0)))) = some r := h
 clear h
 replace H := Option.bind_eq_some_iff.mp H
 obtain ⟨t191, A30, H⟩ := H
 replace H : (some (decide (t191 ≥ 0))) = some r := H
 have A3 := Aside0.mk A30
 clear A30
 obtain rfl := Option.some.inj H
 go_enter Tryd.func97, Tryd.ntmps97
 go_wp2_with (first | ((with_reducible refine gate_callee (f := 116) rfl ?_); refine goesL_ (some 7) rfl rfl Tryd.func116 (by kernel_rfl) rfl #[.slice A0 l0.length c0, .int .i64 a1] rfl (by (try simp only [List.map_toArray, List.map_cons, List.map_nil]); first | done | rfl | (simp only [List.length_drop, List.length_take]; rfl)) ?_; (with_reducible refine (slices_Index_int_int.calls k _ _ l0 a1 t191 _ ?side1 ?side2 A3.out).mono ?_); (case side1 => repeat (first | exact HR0.out | (with_reducible refine Kd.C_alloc ?_ _) | (with_reducible refine Kd.C_drewN ?_ _) | (with_reducible refine Kd.C_drew ?_))); (case side2 => exact HC0.out); rintro e w' ⟨rfl, ⟨nd, rfl⟩⟩; refine ⟨_, rfl, ?_⟩))
 go_ret
 exact ⟨by first | rfl | (simp; done) | (simp [*]; done), by repeat (first | exact Drawn0.refl _ | apply Drawn0.step)⟩

-- NOT PRINTED: function 57 (disk_Disk_Crash)

-- NOT PRINTED: function 79 (disk_Disk_begin)


end Go.Proofs.YtidlldfghkaeeaaDoor.P
end
section
namespace Go.Proofs.YtidlldfghkaeeaaDoor.P
open Go.RowKit Go.Proofs.YtidlldfghkaeeaaDoorW.PrintWords Go.Proofs.YtidlldfghkaeeaaDoorW.PrintLast Go.Proofs.YtidlldfghkaeeaaDoorW.PrintMore
set_option linter.unusedVariables false
set_option linter.unusedSimpArgs false
theorem Contains_nil (i : Int) : slices_Contains_int_int.f 3 [] i = some false := rfl
theorem rd61 {xs : List S61} {i : Nat} (h : i < xs.length) : rd_T61 xs (i : Int) = xs[i] := by
  unfold rd_T61
  rw [Int.toNat_natCast, List.getD_eq_getElem?_getD, List.getElem?_eq_getElem h]
  rfl
theorem Contains_nil_calls (i : Int) (w : World) : Calls Tryd.prog 97 #[.slice none 0 0, .int .i64 i] w fun e w' => e = .returned (.bool false) ∧ Below w.heap.size w w' :=
  (slices_Contains_int_int.calls 3 none 0 [] i false w (Kd.C_nil _ w) (Nat.le_refl _) (Contains_nil i)).mono fun e w' ⟨h1, h2⟩ => ⟨h1, h2.below⟩
set_option maxHeartbeats 8000000 in
set_option maxRecDepth 100000 in
theorem Crash_nil (W : World) (B g : Nat) (s : Dk) (vn vl vw vk : Value) (n : Int) (h : At W B g s vn vl vw vk) (hw : s.waits.length ≤ 100000) (ho : s.off = false) :
    Calls Tryd.prog 57 #[.pointer (some ⟨g, 0, none⟩), .slice none 0 0, .int .i64 n] W fun e w' => e = .returned (.tuple #[]) ∧ At w' B g { s with now := s.last, waits := [], off := true, fuse := 0 } vl vl (.slice none 0 0) vk ∧ Kept W w' (fun k => k = g) ∧ Below B W w' := by
  have hu101 := Tryd.underlying101
  have hu26 := Tryd.underlying26
  have hu61 := Tryd.underlying61
  have HH := Aside0.mk h
  have HW := Aside0.mk hw
  obtain ⟨c0, c1, c2, c3, c4, c5, c6, c7, c8⟩ := h.cells
  rw [ho] at c4
  have HO := Aside0.mk ho
  obtain ⟨Aw, cw, hvw⟩ := Kd.N_slice h.w
  subst hvw
  clear h hw ho c0 c1 c2 c5 c6 c7 c8
  go_enter Tryd.func57, Tryd.ntmps57
  go_wp2_with (fail)
  go_loopg [6, 7, 8, 9, 19, 20, 21, 22, 23, 24, 25, 26, 27] s.waits.length (fun gg _ _ _ _ s19 _ _ _ _ _ _ _ _ wr => ∃ i : Nat, i ≤ s.waits.length ∧ gg = s.waits.length - i ∧ s19 = .int .i64 i ∧ Below W.heap.size W wr)
  case atStart => exact ⟨0, Nat.zero_le _, rfl, rfl, Below.refl _ _⟩
  case round =>
    obtain ⟨i, hi, rfl, rfl, hb⟩ := hrel
    by_cases a : i < s.waits.length
    · have a1 : decide ((i : Int) < (s.waits.length : Int)) = true := decide_eq_true (by omega)
      have hC := Kd.C_below (Kd.N_reads' HH.out.w).2.2 hb
      obtain ⟨ad, A3, c3', ead, K0, K1, K2, K3, _, _⟩ := at_T61 hC (i : Int) (by omega) (by omega)
      rw [rd61 a, Int.toNat_natCast] at K0 K1 K2 K3
      subst ead
      obtain ⟨X, hX⟩ : ∃ X, X = s.waits[i] := ⟨_, rfl⟩
      rw [← hX] at K0 K1 K2 K3
      clear hX hC
      go_wp2_with (fail)
      have hb1 := hb.trans ((below_alloc (Below.refl wr.heap.size wr) (.cells #[.int .i64 X.f0, .string X.f1, .string X.f2, .slice A3 X.f3.length c3'] 61)).mono hb.size)
      refine (Contains_nil_calls i _).mono ?_
      rintro e W2 ⟨rfl, hb2⟩
      have hb3 := hb1.trans (hb2.mono hb1.size)
      have hw1 : wrap64 ((i : Int) + 1) = ((i + 1 : Nat) : Int) := by have := HW.out; exact wr1 (by omega)
      clear hb1 hb2 hb K0 K1 K2 K3
      dsimp only
      go_wp2_with (fail)
      go_roundg (s.waits.length - (i + 1))
      case measure => omega
      case rel => exact ⟨i + 1, by omega, rfl, by first | rfl | rw [hw1], hb3⟩
    · have a1 : decide ((i : Int) < (s.waits.length : Int)) = false := decide_eq_false (by omega)
      have hX := HH.out.below hb
      have HX := Aside0.mk hX
      have fz := hX.frozen
      obtain ⟨Al, cl, hvl, _⟩ := hX.l
      subst hvl
      obtain ⟨c0, c1, c2, c3, c4, c5, c6, c7, c8⟩ := hX.cells
      have HB := Aside0.mk hb
      clear hX hb
      go_wp2_with (fail)
      go_end0
      have hk1 := blk_put HX.out.hg 1 (.slice Al s.last.length cl) (cs' := #[.int .i64 s.q, .slice Al s.last.length cl, .slice Al s.last.length cl, .slice Aw s.waits.length cw, .bool s.off, .int .i64 s.count, .int .i64 s.fuse, vk, .int .i64 s.torn]) rfl
      have hk2 := blk_put hk1 3 (.slice none 0 0) (cs' := #[.int .i64 s.q, .slice Al s.last.length cl, .slice Al s.last.length cl, .slice none 0 0, .bool s.off, .int .i64 s.count, .int .i64 s.fuse, vk, .int .i64 s.torn]) rfl
      have hk3 := blk_put hk2 4 (.bool true) (cs' := #[.int .i64 s.q, .slice Al s.last.length cl, .slice Al s.last.length cl, .slice none 0 0, .bool true, .int .i64 s.count, .int .i64 s.fuse, vk, .int .i64 s.torn]) rfl
      have hk4 := blk_put hk3 6 (.int .i64 0) (cs' := #[.int .i64 s.q, .slice Al s.last.length cl, .slice Al s.last.length cl, .slice none 0 0, .bool true, .int .i64 s.count, .int .i64 0, vk, .int .i64 s.torn]) rfl
      have hK := Ke_set (Ke_set (Ke_set (Ke_set (Kept.refl wr (fun k => k = g)) 1 (.slice Al s.last.length cl)) 3 (.slice none 0 0)) 4 (.bool true)) 6 (.int .i64 0)
      have hKW := (Kept.of_below HB.out (fun k => k = g)).then_ hK (fun k h => .inl h)
      have hBW : B ≤ W.heap.size := by have := HH.out.hB; have := blk_lt HH.out.hg; omega
      have hBB := Be_set (Be_set (Be_set (Be_set (HB.out.mono hBW) HX.out.hB 1 (.slice Al s.last.length cl)) HX.out.hB 3 (.slice none 0 0)) HX.out.hB 4 (.bool true)) HX.out.hB 6 (.int .i64 0)
      generalize (((wr.setCell ⟨g, 1, none⟩ (.slice Al s.last.length cl)).setCell ⟨g, 3, none⟩ (.slice none 0 0)).setCell ⟨g, 4, none⟩ (.bool true)).setCell ⟨g, 6, none⟩ (.int .i64 0) = w2 at *
      clear hk1 hk2 hk3
      have hl := Kd.V_mono HX.out.l (ok' := fun k => B ≤ k ∧ k ≠ g ∧ some k ≠ (Value.slice none 0 0).ownBlock) fun k h => ⟨h.1, h.2.1, no_own⟩
      have hkp := Kd.V_mono HX.out.k (ok' := fun k => B ≤ k ∧ k ≠ g ∧ some k ≠ (Value.slice none 0 0).ownBlock) fun k h => ⟨h.1, h.2.1, no_own⟩
      exact ⟨rfl, At.turn hK HX.out.hB hk4 hl hl (Kd.N_nil _ _ _ _ _) hkp, hKW, hBB⟩
end Go.Proofs.YtidlldfghkaeeaaDoor.P
end
section
namespace Go.Proofs.YtidlldfghkaeeaaDoor.P
open Go.RowKit Go.Proofs.YtidlldfghkaeeaaDoorW.PrintWords Go.Proofs.YtidlldfghkaeeaaDoorW.PrintLast Go.Proofs.YtidlldfghkaeeaaDoorW.PrintMore
set_option linter.unusedVariables false
set_option linter.unusedSimpArgs false
instance : DecidableEq S30 := fun a b => if h : a.f0 = b.f0 ∧ a.f1 = b.f1 ∧ a.f2 = b.f2 then isTrue (by cases a; cases b; simp_all) else isFalse (by rintro rfl; exact h ⟨rfl, rfl, rfl⟩)
def tallymanlaw8_awake.f : Option Bool := some true
end Go.Proofs.YtidlldfghkaeeaaDoor.P
end
section
namespace Go.Proofs.YtidlldfghkaeeaaDoor.P
open Go.RowKit Go.Proofs.YtidlldfghkaeeaaDoorW.PrintWords Go.Proofs.YtidlldfghkaeeaaDoorW.PrintLast Go.Proofs.YtidlldfghkaeeaaDoorW.PrintMore
set_option linter.unusedVariables false
set_option linter.unusedSimpArgs false
theorem fld26 (v : Value) (W : World) : (Instr.field 26 (.agg #[v]) 0).run Tryd.prog W = .ok v W := by kernel_rfl
def dw1 : List S30 := [⟨⟨#[97]⟩, false, [120, 121]⟩]
def dwc : S61 := ⟨1, ⟨#[97]⟩, ⟨#[]⟩, [120, 121]⟩
theorem dw_done : done0 [] dwc = (dw1, 0) := by decide +kernel
def dw0 : Dk := ⟨99, [], [], [], false, 0, 0, [], 0⟩
theorem dw_do : do0 dw0 dwc = ({ dw0 with now := dw1, waits := [dwc], count := wrap64 (0 + 1) }, 0) := by
  unfold do0
  have h : done0 dw0.now dwc = (dw1, 0) := dw_done
  rw [if_neg (by decide), h, if_neg (by decide), if_neg (by decide)]
  rfl
theorem dw_okG : okG dwc := ⟨by decide, by decide, by decide⟩
theorem dw_GT : GT30 dw1 := by have := done0_GT (c := dwc) GT_nil30; rw [dw_done] at this; exact this
set_option maxHeartbeats 8000000 in
set_option maxRecDepth 100000 in
theorem awake9_calls (w : World) :
    Calls Tryd.prog 31 #[] w fun e w' => e = .returned (.bool true) ∧ Below w.heap.size w w' := by
  have hu26 := Tryd.underlying26
  have hu61 := Tryd.underlying61
  have hf26 := fld26
  go_enter Tryd.func31, Tryd.ntmps31
  go_wp2_with (fail)
  refine (New_calls 99 w (by decide)).mono ?_
  rintro e W1 ⟨g, vn, vl, rfl, hX1, hb1⟩
  dsimp only
  have HX1 := Aside0.mk hX1
  have HB1 := Aside0.mk hb1
  clear hX1 hb1
  go_wp2_with ((with_reducible refine gate_dst (N := 18) rfl ?_); refine V_mlit (xs := [120, 121]) (n := 2) (N := 18) ?hg ?hd (.tmp 17) (t := 23) (e := 5) rfl rfl Tryd.underlying23 Tryd.underlying5 rfl rfl (by decide) ?_; (case hd => rfl); (case hg => rfl); intro vx wx hv bx hg_ hnew; refine Stop.out ?_)
  obtain ⟨Ax, cx, rfl⟩ := Kd.V_slice hv
  have HV := Aside0.mk hv
  have HBX := Aside0.mk bx
  clear hv bx hg_ hnew
  constructor
  go_wp2_with (fail)
  have hX2 := HX1.out.below HBX.out
  have hcx := (Kd.V_reads' HV.out).2.1
  have hgW := blk_lt HX1.out.hg
  refine (Do_calls wx w.heap.size g dw0 vn vl (.slice none 0 0) (.slice none 0 0) dwc Ax cx hX2 (Int.le_refl 0) GT_nil30 (fun W' hK => (Kd.V_reads' (Kd.V_kept HV.out hK fun k hk h => ?_)).2.2) hcx dw_okG (Nat.zero_le _)).mono ?_
  · rcases h with h | h
    · omega
    · cases h
  rintro e W3 ⟨vn3, vw3, rfl, hX3, hK3, hB3⟩
  rw [dw_do] at hX3 ⊢
  have HX3 := Aside0.mk hX3
  have HK3 := Aside0.mk ((HX1.out.thenB HB1.out HBX.out).trans hB3)
  clear hX3 hK3 hB3 hX2 hcx hgW
  dsimp only
  go_wp2_with (fail)
  refine (Now_calls W3 w.heap.size g _ vn3 vl vw3 (.slice none 0 0) HX3.out (GT_okC dw_GT)).mono ?_
  rintro e W4 ⟨v4, rfl, hv4, hb4⟩
  obtain ⟨A4, c4, rfl⟩ := Kd.V_slice hv4
  have HX4 := Aside0.mk (HX3.out.below hb4)
  have HK4 := Aside0.mk (HX3.out.thenB HK3.out hb4)
  clear hv4 hb4
  dsimp only
  go_wp2_with (fail)
  refine (Crash_nil W4 w.heap.size g _ vn3 vl vw3 (.slice none 0 0) (-1) HX4.out (by decide) rfl).mono ?_
  rintro e W5 ⟨rfl, hX5, hK5, hB5⟩
  have HX5 := Aside0.mk hX5
  have HK5 := Aside0.mk (HK4.out.trans hB5)
  clear hX5 hK5 hB5
  dsimp only
  go_wp2_with (fail)
  refine (Now_calls W5 w.heap.size g _ vl vl (.slice none 0 0) (.slice none 0 0) HX5.out (GT_okC GT_nil30)).mono ?_
  rintro e W6 ⟨v6, rfl, hv6, hb6⟩
  obtain ⟨A6, c6, rfl⟩ := Kd.V_slice hv6
  have HX6 := Aside0.mk (HX5.out.below hb6)
  have HK6 := Aside0.mk (HX5.out.thenB HK5.out hb6)
  clear hv6 hb6
  dsimp only
  go_wp2_with (fail)
  refine (Off_calls W6 w.heap.size g _ vl vl (.slice none 0 0) (.slice none 0 0) HX6.out).mono ?_
  rintro e W7 ⟨rfl, rfl⟩
  dsimp only
  go_wp2_with (fail)
  go_ret
  exact ⟨rfl, HK6.out⟩
end Go.Proofs.YtidlldfghkaeeaaDoor.P
end
section
namespace Go.Proofs.YtidlldfghkaeeaaDoor.P
open Go.RowKit Go.Proofs.YtidlldfghkaeeaaDoorW.PrintWords Go.Proofs.YtidlldfghkaeeaaDoorW.PrintLast Go.Proofs.YtidlldfghkaeeaaDoorW.PrintMore
set_option linter.unusedVariables false
set_option linter.unusedSimpArgs false
/-- What holds of the disk behind i changes. -/
structure Qi (q : Int) (i : Nat) (s : Dk) : Prop where
  nq : (nB30 s.now : Int) ≤ q
  q : s.q = q
  off : s.off = false
  fu : s.fuse ≤ 0
  wl : s.waits.length ≤ i
  c0 : 0 ≤ s.count
  c1 : s.count ≤ i
theorem do0_Qi {q : Int} {i : Nat} {s : Dk} {c : S61} (h : Qi q i s) (hg : GT30 s.now) (hi : i ≤ 1000) : GT30 (do0 s c).1.now ∧ Qi q (i + 1) (do0 s c).1 ∧ (((do0 s c).2 = 0 ∧ (do0 s c).1.count = s.count + 1) ∨ ((do0 s c).2 ≠ 0 ∧ (do0 s c).1.count = s.count)) := by
  have hs : Qi q (i + 1) s := ⟨h.nq, h.q, h.off, h.fu, by have := h.wl; omega, h.c0, by have := h.c1; omega⟩
  have hgt := done0_GT (c := c) hg
  unfold do0
  rw [if_neg (by rw [h.off]; exact Bool.false_ne_true)]
  by_cases h1 : (done0 s.now c).2 ≠ 0
  · rw [if_pos h1]
    exact ⟨hg, hs, .inr ⟨h1, rfl⟩⟩
  · rw [if_neg h1]
    by_cases h2 : (nB30 (done0 s.now c).1 : Int) > s.q ∧ nB30 (done0 s.now c).1 > nB30 s.now
    · rw [if_pos h2]
      exact ⟨hg, hs, .inr ⟨by show (9 : Int) ≠ 0; decide, rfl⟩⟩
    · rw [if_neg h2]
      have hw : wrap64 (s.count + 1) = s.count + 1 := by have := h.c0; have := h.c1; unfold wrap64; omega
      have hq := h.q
      have hnq := h.nq
      refine ⟨hgt, ⟨?_, h.q, h.off, h.fu, ?_, ?_, ?_⟩, .inl ⟨rfl, hw⟩⟩
      · show (nB30 (done0 s.now c).1 : Int) ≤ q
        by_cases h3 : nB30 (done0 s.now c).1 > nB30 s.now
        · have h4 := fun h => h2 ⟨h, h3⟩
          omega
        · have h4 : (nB30 (done0 s.now c).1 : Int) ≤ (nB30 s.now : Int) := Int.ofNat_le.2 (Nat.le_of_not_lt h3)
          omega
      · show (s.waits ++ [c]).length ≤ i + 1
        rw [List.length_append, List.length_singleton]
        have := h.wl
        omega
      · show 0 ≤ wrap64 (s.count + 1)
        rw [hw]
        have := h.c0
        omega
      · show wrap64 (s.count + 1) ≤ ((i + 1 : Nat) : Int)
        rw [hw]
        have := h.c1
        omega
set_option maxHeartbeats 8000000 in
set_option maxRecDepth 100000 in
theorem DiskQuota_calls (q : Int) (A1 : Option Addr) (c1 : Nat) (l : List S61) (W : World) (hC : Kd.C k61 W A1 l.length l) (hc : l.length ≤ c1) (hz : ∀ x ∈ l, x.f1.size < 4294967280 ∧ x.f2.size < 4294967280) :
    Calls Tryd.prog 8 #[.int .i64 q, .slice A1 l.length c1] W fun e w' => e = .returned (.bool true) ∧ Below W.heap.size W w' := by
  have hu26 := Tryd.underlying26
  have hu61 := Tryd.underlying61
  have HCC := Aside0.mk hC
  have HZ := Aside0.mk hz
  clear hC hz
  go_enter Tryd.func8, Tryd.ntmps8
  go_wp2_with (fail)
  refine (awake9_calls W).mono ?_
  rintro e W0 ⟨rfl, hb0⟩
  dsimp only
  go_wp2_with (fail)
  by_cases hq : 0 ≤ q ∧ q ≤ 16384
  · have HQ := Aside0.mk hq
    clear hq
    refine (New_calls q W0 HQ.out).mono ?_
    rintro e W1 ⟨g, vn, vl, rfl, hX1, hb1⟩
    obtain ⟨B, hB⟩ : ∃ B, B = W0.heap.size := ⟨_, rfl⟩
    rw [← hB] at hX1
    have HX1 := Aside0.mk hX1
    have HBW : Aside0 (W.heap.size ≤ B) := ⟨by rw [hB]; exact hb0.size⟩
    have HB1W := Aside0.mk (hb0.trans (hb1.mono hb0.size))
    clear hX1 hb0 hb1 hB
    dsimp only
    by_cases hl : 40 < l.length
    · have p1 : decide ((40 : Int) < (l.length : Int)) = true := decide_eq_true (by omega)
      go_wp2_with (fail)
      go_ret
      exact ⟨rfl, HB1W.out⟩
    · have p1 : decide ((40 : Int) < (l.length : Int)) = false := decide_eq_false (by omega)
      obtain ⟨vk, hvk⟩ : ∃ vk, vk = Value.slice none 0 0 := ⟨_, rfl⟩
      have hQ0 : Qi q 0 ⟨q, [], [], [], false, 0, 0, [], 0⟩ := ⟨by show ((nB30 [] : Nat) : Int) ≤ q; exact HQ.out.1, rfl, rfl, Int.le_refl _, Nat.le_refl _, Int.le_refl _, Int.le_refl _⟩
      have HX0 : Aside0 (At W1 B g ⟨q, [], [], [], false, 0, 0, [], 0⟩ vn vl (.slice none 0 0) vk) := ⟨by rw [hvk]; exact HX1.out⟩
      have HQ0 := Aside0.mk hQ0
      clear hvk hQ0 HX1
      go_wp2_with (fail)
      go_loopg [7, 8, 9, 25, 26, 27, 28, 29, 30, 31, 32, 33, 34, 35, 36, 37, 38, 39, 40, 41, 42, 43, 44, 45, 46, 47, 48, 49, 50, 51, 52, 53, 54, 55, 56, 57, 58, 59, 60, 61, 62, 63, 64, 65, 66, 67, 68, 69, 70, 71, 72, 73, 74, 75, 76] l.length (fun gg s7 _ _ _ _ _ _ _ _ _ _ _ _ _ _ _ _ _ _ _ _ _ _ _ _ _ _ _ _ _ _ _ _ _ _ _ _ _ _ _ _ _ _ _ _ _ _ _ _ _ _ _ _ _ _ wr => ∃ (i : Nat) (s : Dk) (vn vw : Value), i ≤ l.length ∧ gg = l.length - i ∧ s7 = .int .i64 i ∧ At wr B g s vn vl vw vk ∧ Below W.heap.size W wr ∧ GT30 s.now ∧ Qi q i s)
      case atStart => exact ⟨0, _, vn, _, Nat.zero_le _, rfl, rfl, HX0.out, HB1W.out, GT_nil30, HQ0.out⟩
      case round =>
        clear HB1W
        obtain ⟨i, s, vn, vw, hi, rfl, rfl, hX, hb, hgt, hQi⟩ := hrel
        by_cases a : i < l.length
        · have a1 : decide ((i : Int) < (l.length : Int)) = true := decide_eq_true (by omega)
          obtain ⟨ad, A3, c3, ead, K0, K1, K2, K3, hc3, hC3⟩ := at_T61 HCC.out (i : Int) (by omega) (by omega)
          rw [rd61 a] at K0 K1 K2 K3 hc3 hC3
          subst ead
          have hmem := HZ.out _ (List.getElem_mem a)
          obtain ⟨c, hcq⟩ : ∃ c, c = l[i] := ⟨_, rfl⟩
          rw [← hcq] at K0 K1 K2 K3 hc3 hC3 hmem
          clear hcq
          rw [Int.toNat_natCast] at K0 K1 K2 K3
          have k0 := (hb.cell (World.block_lt_of_cell? W _ K0)).trans K0
          have k1 := (hb.cell (World.block_lt_of_cell? W _ K1)).trans K1
          have k2 := (hb.cell (World.block_lt_of_cell? W _ K2)).trans K2
          have k3 := (hb.cell (World.block_lt_of_cell? W _ K3)).trans K3
          have HX := Aside0.mk hX
          have HB1W := Aside0.mk hb
          have HGT := Aside0.mk hgt
          have HQI := Aside0.mk hQi
          have HC3 := Aside0.mk hC3
          clear K0 K1 K2 K3 hX hb hgt hQi hC3
          by_cases hl3 : 2100 < c.f3.length
          · have p2 : decide ((2100 : Int) < (c.f3.length : Int)) = true := decide_eq_true (by omega)
            go_wp2_with (fail)
            go_ret
            exact ⟨rfl, HB1W.out⟩
          · have p2 : decide ((2100 : Int) < (c.f3.length : Int)) = false := decide_eq_false (by omega)
            have hgc : okG c := ⟨hmem.1, hmem.2, by omega⟩
            have HGC := Aside0.mk hgc
            clear hmem hgc
            go_wp2_with (fail)
            refine (Count_calls wr B g s vn vl vw vk HX.out).mono ?_
            rintro e Wc ⟨rfl, rfl⟩
            dsimp only
            obtain ⟨n0, hn0⟩ : ∃ n0, n0 = s.count := ⟨_, rfl⟩
            rw [← hn0]
            have HN0 := Aside0.mk hn0
            clear hn0
            go_wp2_with (fail)
            refine (Do_calls Wc B g s vn vl vw vk c A3 c3 HX.out HQI.out.fu HGT.out (Kd.C_kept_came (Kd.heap_int .u8) HC3.out HB1W.out fun k h => ?_) hc3 HGC.out (by have := HQI.out.wl; omega)).mono ?_
            · have h1 := HBW.out
              rcases h with h | h
              · rw [h]; exact Nat.le_trans h1 HX.out.hB
              · exact Nat.le_trans h1 (Kd.N_base HX.out.w k h)
            rintro e W2 ⟨vn2, vw2, rfl, hX2, _, hB2⟩
            obtain ⟨hgt2, hQ2, hca⟩ := do0_Qi (c := c) HQI.out HGT.out (by omega)
            obtain ⟨s', f, hsf⟩ : ∃ s' f, do0 s c = (s', f) := ⟨_, _, rfl⟩
            rw [hsf] at hX2 hgt2 hQ2 hca ⊢
            dsimp only at hX2 hgt2 hQ2 hca ⊢
            have HX2 := Aside0.mk hX2
            have HB2 := Aside0.mk hB2
            have HC2 := Aside0.mk hQ2
            have HNQ := Aside0.mk hQ2.nq
            have hge2 := tree_Good.eq (GT_okT hgt2)
            rw [decide_eq_true hgt2] at hge2
            clear hX2 hB2 hQ2 hsf k0 k1 k2 k3
            rcases hca with ⟨hf, hcn⟩ | ⟨hf, hcn⟩
            · have HN1 : Aside0 (s'.count = n0 + 1) := ⟨by rw [hcn, HN0.out]⟩
              have d1 : ((n0 + 1) != n0) = true := bne_iff_ne.2 (by omega)
              have d2 : ((n0 + 1) == n0) = false := beq_eq_false_iff_ne.2 (by omega)
              subst hf
              clear hcn
              go_wp2_with (fail)
              refine (Now_calls W2 B g s' vn2 vl vw2 vk HX2.out (GT_okC hgt2)).mono ?_
              rintro e W3 ⟨v3, rfl, hv3, hb3⟩
              obtain ⟨A3', c3', rfl⟩ := Kd.V_slice hv3
              have HX3 := Aside0.mk (HX2.out.below hb3)
              have HB3 := Aside0.mk (HX2.out.thenB HB2.out hb3)
              have HV3 := Aside0.mk hv3
              clear hv3 hb3
              dsimp only
              go_wp2_with (fail)
              refine (tree_Bytes.calls 50 A3' c3' s'.now (nB30 s'.now) W3 (Kd.V_reads' HV3.out).2.2 (Kd.V_reads' HV3.out).2.1 (GT_B hgt2)).mono ?_
              rintro e W4 ⟨rfl, hb4⟩
              have HX4 := Aside0.mk (HX3.out.below hb4)
              have HB4 := Aside0.mk (HX3.out.thenB HB3.out hb4)
              clear hb4
              dsimp only
              have pq : decide (q < (nB30 s'.now : Int)) = false := decide_eq_false (by have := HNQ.out; omega)
              go_wp2_with (fail)
              refine (Count_calls W4 B g s' vn2 vl vw2 vk HX4.out).mono ?_
              rintro e W5 ⟨rfl, rfl⟩
              dsimp only
              rw [HN1.out]
              go_wp2_with (fail)
              refine (Count_calls W5 B g s' vn2 vl vw2 vk HX4.out).mono ?_
              rintro e W6 ⟨rfl, rfl⟩
              dsimp only
              rw [HN1.out]
              go_wp2_with (fail)
              refine (Now_calls W6 B g s' vn2 vl vw2 vk HX4.out (GT_okC hgt2)).mono ?_
              rintro e W7 ⟨v7, rfl, hv7, hb7⟩
              obtain ⟨A7, c7, rfl⟩ := Kd.V_slice hv7
              have HX7 := Aside0.mk (HX4.out.below hb7)
              have HB7 := Aside0.mk (HX4.out.thenB HB4.out hb7)
              have HV7 := Aside0.mk hv7
              clear hv7 hb7
              dsimp only
              go_wp2_with (fail)
              refine (tree_Good.calls A7 c7 s'.now true W7 (Kd.V_reads' HV7.out).2.2 (Kd.V_reads' HV7.out).2.1 hge2).mono ?_
              rintro e W8 ⟨rfl, hb8⟩
              have HX8 := Aside0.mk (HX7.out.below hb8)
              have HB8 := Aside0.mk (HX7.out.thenB HB7.out hb8)
              clear hb8
              dsimp only
              have hwi : wrap64 ((i : Int) + 1) = ((i + 1 : Nat) : Int) := wr1 (by omega)
              go_wp2_with (fail)
              go_roundg (l.length - (i + 1))
              case measure => omega
              case rel => exact ⟨i + 1, s', vn2, vw2, by omega, rfl, by first | rfl | rw [hwi], HX8.out, HB1W.out.trans (HB8.out.mono HBW.out), hgt2, HC2.out⟩
            · have HN1 : Aside0 (s'.count = n0) := ⟨by rw [hcn, HN0.out]⟩
              have d3 : (f != 0) = true := bne_iff_ne.2 hf
              have d4 : (f == 0) = false := beq_eq_false_iff_ne.2 hf
              clear hcn hf
              go_wp2_with (fail)
              refine (Now_calls W2 B g s' vn2 vl vw2 vk HX2.out (GT_okC hgt2)).mono ?_
              rintro e W3 ⟨v3, rfl, hv3, hb3⟩
              obtain ⟨A3', c3', rfl⟩ := Kd.V_slice hv3
              have HX3 := Aside0.mk (HX2.out.below hb3)
              have HB3 := Aside0.mk (HX2.out.thenB HB2.out hb3)
              have HV3 := Aside0.mk hv3
              clear hv3 hb3
              dsimp only
              go_wp2_with (fail)
              refine (tree_Bytes.calls 50 A3' c3' s'.now (nB30 s'.now) W3 (Kd.V_reads' HV3.out).2.2 (Kd.V_reads' HV3.out).2.1 (GT_B hgt2)).mono ?_
              rintro e W4 ⟨rfl, hb4⟩
              have HX4 := Aside0.mk (HX3.out.below hb4)
              have HB4 := Aside0.mk (HX3.out.thenB HB3.out hb4)
              clear hb4
              dsimp only
              have pq : decide (q < (nB30 s'.now : Int)) = false := decide_eq_false (by have := HNQ.out; omega)
              go_wp2_with (fail)
              refine (Count_calls W4 B g s' vn2 vl vw2 vk HX4.out).mono ?_
              rintro e W5 ⟨rfl, rfl⟩
              dsimp only
              rw [HN1.out]
              go_wp2_with (fail)
              refine (Count_calls W5 B g s' vn2 vl vw2 vk HX4.out).mono ?_
              rintro e W6 ⟨rfl, rfl⟩
              dsimp only
              rw [HN1.out]
              go_wp2_with (fail)
              refine (Now_calls W6 B g s' vn2 vl vw2 vk HX4.out (GT_okC hgt2)).mono ?_
              rintro e W7 ⟨v7, rfl, hv7, hb7⟩
              obtain ⟨A7, c7, rfl⟩ := Kd.V_slice hv7
              have HX7 := Aside0.mk (HX4.out.below hb7)
              have HB7 := Aside0.mk (HX4.out.thenB HB4.out hb7)
              have HV7 := Aside0.mk hv7
              clear hv7 hb7
              dsimp only
              go_wp2_with (fail)
              refine (tree_Good.calls A7 c7 s'.now true W7 (Kd.V_reads' HV7.out).2.2 (Kd.V_reads' HV7.out).2.1 hge2).mono ?_
              rintro e W8 ⟨rfl, hb8⟩
              have HX8 := Aside0.mk (HX7.out.below hb8)
              have HB8 := Aside0.mk (HX7.out.thenB HB7.out hb8)
              clear hb8
              dsimp only
              have hwi : wrap64 ((i : Int) + 1) = ((i + 1 : Nat) : Int) := wr1 (by omega)
              go_wp2_with (fail)
              go_roundg (l.length - (i + 1))
              case measure => omega
              case rel => exact ⟨i + 1, s', vn2, vw2, by omega, rfl, by first | rfl | rw [hwi], HX8.out, HB1W.out.trans (HB8.out.mono HBW.out), hgt2, HC2.out⟩
        · have a1 : decide ((i : Int) < (l.length : Int)) = false := decide_eq_false (by omega)
          have HB := Aside0.mk hb
          clear hb
          go_wp2_with (fail)
          go_ret
          exact ⟨rfl, HB.out⟩
  · have hq' : q < 0 ∨ 16384 < q := by omega
    refine (New_bad q W0 hq').mono ?_
    rintro e W1 ⟨rfl, hb1⟩
    have HB := Aside0.mk (hb0.trans (hb1.mono hb0.size))
    clear hq hq' hb0 hb1
    dsimp only
    go_wp2_with (fail)
    go_ret
    exact ⟨rfl, HB.out⟩
end Go.Proofs.YtidlldfghkaeeaaDoor.P
end
section
namespace Go.Proofs.YtidlldfghkaeeaaDoorW.PrintWords
open Go.RowKit

/-- Type t's values are of kind d: whatever is read as one has cells that say some x, and x is ok. -/
structure Opn {α : Type} (P : Program) (t : TypeId) (d : Kd α) (ok : α → Prop) : Prop where
  sz : P.cellsOf t = d.sz
  opens : ∀ {H : Type} {enc : TypeId × Value → H} {W : World} {base : Nat} {spare : Nat → Bool} {held : Bool} {fuel : Nat} {cs : List Value} {x : DataW H × List MemPlace}, DataW.trod enc P W base spare held fuel t cs = some x → ∃ y, d.K W y cs ∧ ok y

theorem Opn.int {P : Program} {t : TypeId} {k : IntKind} (ht : P.underlying t = some (.int k)) (hc : P.cellsOf t = 1) : Opn P t (Kd.int k) (fun n => (Lit.int k n).wf = true) :=
  ⟨hc, fun hf => by obtain ⟨n, rfl, _, hw⟩ := DataW.trod_int ht hf; exact ⟨n, rfl, hw⟩⟩
theorem choose_list {α : Type} (R : Nat → α → Prop) : ∀ n : Nat, (∀ i, i < n → ∃ x, R i x) → ∃ xs : List α, xs.length = n ∧ ∀ i x, xs[i]? = some x → R i x
  | 0, _ => ⟨[], rfl, fun i x h => by simp at h⟩
  | n + 1, h => by
    obtain ⟨xs, hl, hx⟩ := choose_list R n (fun i hi => h i (by omega))
    obtain ⟨x, hxn⟩ := h n (by omega)
    refine ⟨xs ++ [x], by simp [hl], fun i y hy => ?_⟩
    by_cases hi : i < xs.length
    · rw [List.getElem?_append_left hi] at hy
      exact hx i y hy
    · rw [List.getElem?_append_right (by omega)] at hy
      have : i - xs.length = 0 := by
        have := (List.getElem?_eq_some_iff.1 hy).1
        simp at this
        omega
      rw [this] at hy
      simp at hy
      subst hy
      rw [show i = n by omega]
      exact hxn
/-- A struct's cells, field by field: from cell o on. -/
theorem pairK {α β : Type} {a : Kd α} {b : Kd β} {W : World} {x : α} {y : β} {cs : List Value} {o s : Nat} (_hs : s = a.sz) (h0 : a.K W x ((cs.drop o).take s)) (h1 : b.K W y (cs.drop (o + s))) : (Kd.pair a b).K W (x, y) (cs.drop o) :=
  ⟨(cs.drop o).take s, cs.drop (o + s), by rw [← List.drop_drop, List.take_append_drop], h0, h1⟩
theorem lastK {α : Type} {a : Kd α} {W : World} {x : α} {cs : List Value} {o s : Nat} (h : a.K W x ((cs.drop o).take s)) (hl : cs.length = o + s) : a.K W x (cs.drop o) := by
  rwa [List.take_of_length_le (by simp; omega)] at h
end Go.Proofs.YtidlldfghkaeeaaDoorW.PrintWords
end
section
namespace Go.Proofs.YtidlldfghkaeeaaDoorW.PrintWords
open Go.RowKit Go.Proofs.YtidlldfghkaeeaaDoor

/-- As Opn; the bulk bears on the value. -/
structure OpnU {α : Type} (P : Program) (t : TypeId) (d : Kd α) (ok : α → Prop) : Prop where
  sz : P.cellsOf t = d.sz
  opens : ∀ {H : Type} {enc : TypeId × Value → H} {W : World} {base : Nat} {spare : Nat → Bool} {held : Bool} {fuel : Nat} {cs : List Value} {x : DataW H × List MemPlace}, DataW.trod enc P W base spare held fuel t cs = some x → Rows.uptoBulk x.1 ≤ 1048576 → ∃ y, d.K W y cs ∧ ok y
theorem Opn.U {α : Type} {P : Program} {t : TypeId} {d : Kd α} {ok : α → Prop} (h : Opn P t d ok) : OpnU P t d ok := ⟨h.sz, fun hf _ => h.opens hf⟩
theorem OpnU.int {P : Program} {t : TypeId} {k : IntKind} (ht : P.underlying t = some (.int k)) (hc : P.cellsOf t = 1) : OpnU P t (Kd.int k) (fun n => (Lit.int k n).wf = true) := (Opn.int ht hc).U
theorem OpnU.string {P : Program} {t : TypeId} (ht : P.underlying t = some .string) (hc : P.cellsOf t = 1) : OpnU P t Kd.string (fun s => s.size ≤ 1048576) :=
  ⟨hc, fun hf hw => by
    obtain ⟨n, rfl, hx, _⟩ := DataW.trod_string ht hf
    refine ⟨n, rfl, ?_⟩
    subst hx
    simp only [Rows.uptoBulk] at hw
    have e : n.data.toList.length = n.size := by rw [Array.length_toList]; rfl
    omega⟩
theorem bulk_pos {H : Type} (d : DataW H) : 1 ≤ Rows.uptoBulk d := by
  unfold Rows.uptoBulk
  split <;> omega
theorem bulk_mem {H : Type} : ∀ {l : List (DataW H)} {d : DataW H}, d ∈ l → Rows.uptoBulk d ≤ Rows.uptoBulkAll l
  | d' :: r, d, hd => by
    simp only [Rows.uptoBulkAll]
    rcases List.mem_cons.1 hd with h | h
    · rw [h]; omega
    · have := bulk_mem h
      omega
theorem bulk_len {H : Type} : ∀ (l : List (DataW H)), l.length ≤ Rows.uptoBulkAll l
  | [] => Nat.zero_le _
  | d :: r => by
    simp only [Rows.uptoBulkAll, List.length_cons]
    have := bulk_len r
    have := bulk_pos d
    omega
theorem OpnU.slice {α : Type} {P : Program} {t e : TypeId} {d : Kd α} {ok : α → Prop} (ht : P.underlying t = some (.slice e)) (hc : P.cellsOf t = 1) (he : OpnU P e d ok) :
    OpnU P t (Kd.slice e d) (fun xs => xs.length ≤ 1048576 ∧ ∀ x ∈ xs, ok x) := by
  refine ⟨hc, fun hf hw => ?_⟩
  rcases DataW.trod_slice ht hf with ⟨rfl, _⟩ | ⟨a, len, cap, elems, rest, n, _, rfl, hxe, hb, hl, hm, hel, hget, _, _⟩
  · exact ⟨[], ⟨none, 0, rfl, Nat.le_refl _, Kd.C_nil _ _⟩, Nat.zero_le _, fun x hx => by cases hx⟩
  · subst hxe
    simp only [Rows.uptoBulk] at hw
    obtain ⟨xs, hxl, hxs⟩ := choose_list (fun i x => ok x ∧ ∃ c, c.length = d.sz ∧ d.K _ x c ∧ ∀ j u, c[j]? = some u → World.cell? _ (a.add (i * d.sz + j)) = some u) len (fun i hi => by
      have h1 := hget i hi
      rw [List.getElem?_eq_getElem (by omega)] at h1
      obtain ⟨c, h2, h3⟩ := Option.bind_eq_some_iff.1 h1
      obtain ⟨y, hy, hok⟩ := he.opens h3 (by
        have := bulk_mem (l := elems.map (fun x => x.fst)) (List.mem_map_of_mem (List.getElem_mem (show i < elems.length by omega)))
        omega)
      obtain ⟨_, hcl, hcc⟩ := World.cells?_some h2
      rw [he.sz] at hcl hcc
      refine ⟨y, hok, c, hcl, hy, fun j u hu => ?_⟩
      have hj : j < d.sz := by rw [← hcl]; exact (List.getElem?_eq_some_iff.1 hu).1
      have := hcc j hj
      rw [add_add] at this
      rw [this, hu])
    refine ⟨xs, ⟨some a, cap, by rw [hxl], by omega, hxl ▸ rfl, ?_, fun _ => ⟨a, rfl, fun j p hp => ?_⟩⟩, ?_, fun x hx => ?_⟩
    · simp only [maxLen] at hm; omega
    · obtain ⟨_, c, h1, h2, h3⟩ := hxs j p hp
      exact ⟨c, h1, h2, h3⟩
    · have := bulk_len (elems.map (fun x => x.fst))
      rw [List.length_map] at this
      omega
    · obtain ⟨i, hi⟩ := List.getElem?_of_mem hx
      exact (hxs i x hi).1
end Go.Proofs.YtidlldfghkaeeaaDoorW.PrintWords
end
