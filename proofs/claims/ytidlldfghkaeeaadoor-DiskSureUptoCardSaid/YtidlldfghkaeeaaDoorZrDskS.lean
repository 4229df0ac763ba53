/- Put together by pack2.py: DskS -/
import Derived.Test.YtidlldfghkaeeaaDoorZrDskR
import Derived.Test.YtidlldfghkaeeaaDoorZrDskGEtc
namespace Go.Proofs.YtidlldfghkaeeaaDoor.P
open Go.RowKit Go.Proofs.YtidlldfghkaeeaaDoorW.PrintWords Go.Proofs.YtidlldfghkaeeaaDoorW.PrintLast Go.Proofs.YtidlldfghkaeeaaDoorW.PrintMore
set_option linter.unusedVariables false
set_option linter.unusedSimpArgs false
/-- Behind tree.Find; the box of what it found is not there yet, or stands. -/
structure FnV (wd W : World) (bx : Option Nat) : Prop where
  hb : Below wd.heap.size wd W
  hx : ∀ b, bx = some b → W.heap[b]? = some (.cells #[.string ⟨#[]⟩, .bool false, .slice none 0 0] 30 (0, 0)) ∧ wd.heap.size ≤ b
theorem FnV.alloc {wd W : World} (h : FnV wd W none) : FnV wd (W.alloc (.cells #[.string ⟨#[]⟩, .bool false, .slice none 0 0] 30)) (some W.heap.size) :=
  ⟨h.hb.trans ((below_alloc (Below.refl W.heap.size W) _).mono h.hb.size), fun b hb => by
    injection hb with hb
    subst hb
    exact ⟨blk_new W _, h.hb.size⟩⟩
section
variable {A : Option Addr} {c : Nat} {l : List S30} {p r1 : ByteArray} {r2 : Bool} {r3 : List Int} {r4 : Int} {wd : World}
theorem Fn0 (hC : Kd.C k30 wd A l.length l) (hc : l.length ≤ c) (he : tree_Find.f l p = some (r1, r2, r3, r4)) :
    Calls Tryd.prog 16 #[.agg #[.slice A l.length c], .string p] wd fun e w' => ∃ A5 c5, e = .returned (.tuple #[.agg #[.string r1, .bool r2, .slice A5 r3.length c5], .int .i64 r4]) ∧ FnV wd w' none := by
  refine (tree_Find.calls A c l p r1 r2 r3 r4 wd hC hc he).mono ?_
  rintro e w' ⟨v', h1, h2, h3⟩
  obtain ⟨A5, c5, rfl⟩ := Kd.R_slice h2
  exact ⟨A5, c5, h1, ⟨h3, fun b hb => by cases hb⟩⟩
theorem Fn1 (hC : Kd.C k30 wd A l.length l) (hc : l.length ≤ c) (he : tree_Find.f l p = some (r1, r2, r3, r4)) :
    Calls Tryd.prog 16 #[.agg #[.slice A l.length c], .string p] (wd.alloc (.cells #[.string ⟨#[]⟩, .bool false, .slice none 0 0] 30)) fun e w' => ∃ A5 c5, e = .returned (.tuple #[.agg #[.string r1, .bool r2, .slice A5 r3.length c5], .int .i64 r4]) ∧ FnV wd w' (some wd.heap.size) := by
  have hb := below_alloc (Below.refl wd.heap.size wd) (.cells #[.string ⟨#[]⟩, .bool false, .slice none 0 0] 30)
  have hx := blk_new wd (.cells #[.string ⟨#[]⟩, .bool false, .slice none 0 0] 30)
  refine (tree_Find.calls A c l p r1 r2 r3 r4 _ (Kd.C_below hC hb) hc he).mono ?_
  rintro e w' ⟨v', h1, h2, h3⟩
  obtain ⟨A5, c5, rfl⟩ := Kd.R_slice h2
  refine ⟨A5, c5, h1, ⟨hb.trans (h3.mono hb.size), fun b hbq => ?_⟩⟩
  injection hbq with hbq
  subst hbq
  exact ⟨(h3.block _ (blk_lt hx)).trans hx, Nat.le_refl _⟩
end
theorem take_1 {α : Type} {l : List α} {i : Nat} (h : i < l.length) : l.take (i + 1) = l.take i ++ [l[i]] := by
  rw [List.take_add_one, List.getElem?_eq_getElem h]
  rfl
/-- A tree in a box, all of it below N. -/
structure TBs (W : World) (N g b : Nat) (v : Value) (l : List S30) : Prop where
  hb : W.heap[b]? = some (.cells #[v] 26 (0, 0))
  hv : Kd.V k30 30 W 0 (fun k => k < N ∧ k ≠ g) v l
  ne : b ≠ g
  lt : b < N
theorem TBs.kept {W W' : World} {N g b : Nat} {v : Value} {l : List S30} {S : Nat → Prop} (h : TBs W N g b v l) (hK : Kept W W' S) (hS : ∀ k, S k → k = g ∨ N ≤ k) : TBs W' N g b v l :=
  ⟨(hK.2 b (blk_lt h.hb) (fun hs => (hS b hs).elim h.ne fun e => absurd h.lt (by omega))).trans h.hb, Kd.V_kept h.hv hK (fun k hk hs => (hS k hs).elim hk.2 fun e => absurd hk.1 (by omega)), h.ne, h.lt⟩
theorem TBs.below {W W' : World} {N g b : Nat} {v : Value} {l : List S30} (h : TBs W N g b v l) (hb : Below W.heap.size W W') : TBs W' N g b v l := ⟨(hb.block _ (blk_lt h.hb)).trans h.hb, Kd.V_below h.hv hb, h.ne, h.lt⟩
theorem TBs.away {W W' : World} {N g b mb cl : Nat} {v : Value} {l : List S30} {es : Array MapEntry} (h : TBs W N g b v l) (hm : W.heap[mb]? = some (.map es cl)) (hbm : b ≠ mb) (hK : Kept W W' (fun k => k = mb)) : TBs W' N g b v l :=
  ⟨(hK.2 b (blk_lt h.hb) hbm).trans h.hb, V_away hc_30 h.hv hm hK, h.ne, h.lt⟩
theorem okG_le {s : ByteArray} (h : s.size < 4294967280) : s.size ≤ maxLen := Nat.le_trans (Nat.le_of_lt h) (by decide)
set_option maxHeartbeats 8000000 in
set_option maxRecDepth 100000 in
theorem DiskSure_calls (A1 A2 A4 : Option Addr) (c1 c2 c4 : Nat) (la lb : List S61) (keep : List Int) (torn : Int) (W : World) (hC1 : Kd.C k61 W A1 la.length la) (hc1 : la.length ≤ c1) (hC2 : Kd.C k61 W A2 lb.length lb) (hc2 : lb.length ≤ c2) (hC4 : Kd.C (Kd.int .i64) W A4 keep.length keep) (hc4 : keep.length ≤ c4) (hz1 : ∀ x ∈ la, okG x) (hz2 : ∀ x ∈ lb, okG x) :
    Calls Tryd.prog 12 #[.slice A1 la.length c1, .slice A2 lb.length c2, .slice A4 keep.length c4, .int .i64 torn] W fun e w' => e = .returned (.bool true) ∧ Below W.heap.size W w' := by
  have hu26 := Tryd.underlying26
  have hu30 := Tryd.underlying30
  have hu61 := Tryd.underlying61
  have HC1 := Aside0.mk hC1
  have HC2 := Aside0.mk hC2
  have HC4 := Aside0.mk hC4
  have HL4 := Aside0.mk hc4
  have HZ1 := Aside0.mk hz1
  have HZ2 := Aside0.mk hz2
  clear hC1 hC2 hC4 hz1 hz2 hc4
  go_enter Tryd.func12, Tryd.ntmps12
  go_wp2_with (fail)
  refine (awake9_calls W).mono ?_
  rintro e W0 ⟨rfl, hb0⟩
  dsimp only
  by_cases hl : 30 < la.length
  · have p1 : decide ((30 : Int) < (la.length : Int)) = true := decide_eq_true (by omega)
    go_wp2_with (fail)
    go_ret
    exact ⟨rfl, hb0⟩
  have p1 : decide ((30 : Int) < (la.length : Int)) = false := decide_eq_false (by omega)
  by_cases hl2 : 30 < lb.length
  · have p2 : decide ((30 : Int) < (lb.length : Int)) = true := decide_eq_true (by omega)
    go_wp2_with (fail)
    go_ret
    exact ⟨rfl, hb0⟩
  have p2 : decide ((30 : Int) < (lb.length : Int)) = false := decide_eq_false (by omega)
  by_cases hl3 : 50 < keep.length
  · have p3 : decide ((50 : Int) < (keep.length : Int)) = true := decide_eq_true (by omega)
    go_wp2_with (fail)
    go_ret
    exact ⟨rfl, hb0⟩
  have p3 : decide ((50 : Int) < (keep.length : Int)) = false := decide_eq_false (by omega)
  go_wp2_with (fail)
  refine (New_calls 16384 W0 (by decide)).mono ?_
  rintro e W1 ⟨g, vn, vl, rfl, hX1, hb1⟩
  obtain ⟨B, hB⟩ : ∃ B, B = W0.heap.size := ⟨_, rfl⟩
  rw [← hB] at hX1
  have HBW : Aside0 (W.heap.size ≤ B) := ⟨by rw [hB]; exact hb0.size⟩
  have HB1W := Aside0.mk (hb0.trans (hb1.mono hb0.size))
  obtain ⟨vk, hvk⟩ : ∃ vk, vk = Value.slice none 0 0 := ⟨_, rfl⟩
  have HX0 : Aside0 (At W1 B g ⟨16384, [], [], [], false, 0, 0, [], 0⟩ vn vl (.slice none 0 0) vk) := ⟨by rw [hvk]; exact hX1⟩
  have HA0 : Aside0 (Bi (la.take 0) [] ⟨16384, [], [], [], false, 0, 0, [], 0⟩) := ⟨⟨rfl, Int.le_refl _, Nat.le_refl _, rfl, (fun x hx => by cases hx), (fun x hx => by cases hx), GT_nil30⟩⟩
  clear hvk hX1 hb0 hb1 hB
  dsimp only
  go_wp2_with (fail)
  go_loopg [11, 45, 46, 47, 48, 49, 50, 51, 52, 53, 54, 55, 56] la.length (fun gg s11 _ _ _ _ _ _ _ _ _ _ _ _ wr => ∃ (i : Nat) (s : Dk) (vn vw : Value), i ≤ la.length ∧ gg = la.length - i ∧ s11 = .int .i64 i ∧ At wr B g s vn vl vw vk ∧ Below W.heap.size W wr ∧ Bi (la.take i) [] s)
  case atStart => exact ⟨0, _, vn, _, Nat.zero_le _, rfl, rfl, HX0.out, HB1W.out, HA0.out⟩
  case round =>
    clear HB1W
    obtain ⟨i, s, vn, vw, hi, rfl, rfl, hX, hb, hAi⟩ := hrel
    by_cases a : i < la.length
    · have a1 : decide ((i : Int) < (la.length : Int)) = true := decide_eq_true (by omega)
      obtain ⟨ad, A3, c3, ead, K0, K1, K2, K3, hc3, hC3⟩ := at_T61 HC1.out (i : Int) (by omega) (by omega)
      rw [rd61 a] at K0 K1 K2 K3 hc3 hC3
      subst ead
      have hgc := HZ1.out _ (List.getElem_mem a)
      have htk := take_1 a
      obtain ⟨c, hcq⟩ : ∃ c, c = la[i] := ⟨_, rfl⟩
      rw [← hcq] at K0 K1 K2 K3 hc3 hC3 hgc htk
      clear hcq
      rw [Int.toNat_natCast] at K0 K1 K2 K3
      have k0 := (hb.cell (World.block_lt_of_cell? W _ K0)).trans K0
      have k1 := (hb.cell (World.block_lt_of_cell? W _ K1)).trans K1
      have k2 := (hb.cell (World.block_lt_of_cell? W _ K2)).trans K2
      have k3 := (hb.cell (World.block_lt_of_cell? W _ K3)).trans K3
      have HX := Aside0.mk hX
      have HB1W := Aside0.mk hb
      have HAI := Aside0.mk hAi
      have HC3 := Aside0.mk hC3
      have HGC := Aside0.mk hgc
      have HTK := Aside0.mk htk
      have HWL : Aside0 (s.waits.length ≤ 100000) := ⟨by have := hAi.wl; rw [List.length_take] at this; omega⟩
      clear K0 K1 K2 K3 hX hb hAi hC3 hgc htk
      go_wp2_with (fail)
      refine (Do_live wr B g s vn vl vw vk c A3 c3 HX.out HAI.out.off HAI.out.fu HAI.out.gt (Kd.C_kept_came (Kd.heap_int .u8) HC3.out HB1W.out fun k h => ?_) hc3 HGC.out HWL.out).mono ?_
      · have h1 := HBW.out
        rcases h with h | h
        · rw [h]; exact Nat.le_trans h1 HX.out.hB
        · exact Nat.le_trans h1 (Kd.N_base HX.out.w k h)
      rintro e W2 ⟨vn2, vw2, rfl, hX2, _, hB2⟩
      have hA2 := do0_Bi (c := c) HAI.out HGC.out
      rw [← HTK.out] at hA2
      obtain ⟨s', f, hsf⟩ : ∃ s' f, do0 s c = (s', f) := ⟨_, _, rfl⟩
      rw [hsf] at hX2 hA2 ⊢
      dsimp only at hX2 hA2 ⊢
      have HX2 := Aside0.mk hX2.at_
      have HB2 := Aside0.mk hB2
      have HA2 := Aside0.mk hA2
      clear hX2 hB2 hA2 hsf k0 k1 k2 k3
      have hwi : wrap64 ((i : Int) + 1) = ((i + 1 : Nat) : Int) := wr1 (by omega)
      go_wp2_with (fail)
      go_roundg (la.length - (i + 1))
      case measure => omega
      case rel => exact ⟨i + 1, s', vn2, vw2, by omega, rfl, by first | rfl | rw [hwi], HX2.out, HB1W.out.trans (HB2.out.mono HBW.out), HA2.out⟩
    · have a1 : decide ((i : Int) < (la.length : Int)) = false := decide_eq_false (by omega)
      have HX := Aside0.mk hX
      have HB1W := Aside0.mk hb
      have HAI := Aside0.mk hAi
      have HNB : Aside0 (W.heap.size ≤ g) := ⟨Nat.le_trans HBW.out hX.hB⟩
      clear hX hb hAi
      go_wp2_with (fail)
      refine (Sync_calls wr B g s vn vl vw vk HX.out HAI.out.fu HAI.out.off).mono ?_
      rintro e W2 ⟨rfl, hX2, _, hB2⟩
      obtain ⟨L, hL⟩ : ∃ L, L = s.now := ⟨_, rfl⟩
      have hgL : GT30 L := by rw [hL]; exact HAI.out.gt
      obtain ⟨s2, hs2⟩ : ∃ s2 : Dk, s2 = { s with last := s.now, waits := [], count := wrap64 (s.count + 1) } := ⟨_, rfl⟩
      rw [← hs2] at hX2
      have hA2 : Bi (lb.take 0) L s2 := by
        rw [hs2]
        exact ⟨HAI.out.off, HAI.out.fu, Nat.zero_le _, hL.symm, (fun x hx => by cases hx), (fun x hx => by cases hx), HAI.out.gt⟩
      have hN2 : s2.now = L := by rw [hs2, hL]
      have HX2 := Aside0.mk hX2
      have HB2 := Aside0.mk (HB1W.out.trans (hB2.mono HBW.out))
      have HA2 := Aside0.mk hA2
      have HGL := Aside0.mk hgL
      have HN2 := Aside0.mk hN2
      clear hX2 hB2 hA2 hgL hs2 hL hN2 HAI HX HB1W
      dsimp only
      go_wp2_with (fail)
      refine (Now_calls W2 B g s2 vn vn (.slice none 0 0) vk HX2.out (by rw [HN2.out]; exact GT_okC HGL.out)).mono ?_
      rintro e W3 ⟨v3, rfl, hv3, hb3⟩
      rw [HN2.out] at hv3
      obtain ⟨A5, c5, rfl⟩ := Kd.V_slice hv3
      have HV3 := Aside0.mk (Kd.V_reads' hv3)
      have HX3 := Aside0.mk (HX2.out.below hb3)
      have HB3 := Aside0.mk (HB2.out.trans (hb3.mono HB2.out.size))
      clear hv3 hb3
      dsimp only
      go_wp2_with (fail)
      refine (Lasts_calls W3 B g s2 vn vn (.slice none 0 0) vk HX3.out (by rw [HA2.out.la]; exact GT_okC HGL.out)).mono ?_
      rintro e W4 ⟨v4, rfl, hv4, hb4⟩
      rw [HA2.out.la] at hv4
      obtain ⟨A6, c6, rfl⟩ := Kd.V_slice hv4
      have HV4 := Aside0.mk (Kd.V_reads' hv4)
      have HC3b := Aside0.mk (Kd.C_below HV3.out.2.2 hb4)
      have HX4 := Aside0.mk (HX3.out.below hb4)
      have HB4 := Aside0.mk (HB3.out.trans (hb4.mono HB3.out.size))
      clear hv4 hb4
      dsimp only
      go_wp2_with (fail)
      refine (tree_Same.calls A5 c5 L A6 c6 L true W4 HC3b.out HV3.out.2.1 HV4.out.2.2 HV4.out.2.1 (tree_Same.self (GT_okT HGL.out) HGL.out)).mono ?_
      rintro e W5 ⟨rfl, hb5⟩
      have HX5 := Aside0.mk (HX4.out.below hb5)
      have HB5 := Aside0.mk (HB4.out.trans (hb5.mono HB4.out.size))
      clear hb5 HX4 HX3 HX2 HV3 HV4 HC3b
      dsimp only
      go_wp2_with (fail)
      refine (Lasts_calls W5 B g s2 vn vn (.slice none 0 0) vk HX5.out (by rw [HA2.out.la]; exact GT_okC HGL.out)).mono ?_
      rintro e W6 ⟨v6, rfl, hv6, hb6⟩
      rw [HA2.out.la] at hv6
      obtain ⟨A3, c3, rfl⟩ := Kd.V_slice hv6
      have hX6 := HX5.out.below hb6
      have hg6 := blk_lt hX6.hg
      have hk12 := blk_new W6 (.cells #[.slice A3 L.length c3] 26)
      have hb12 := below_alloc (Below.refl W6.heap.size W6) (.cells #[.slice A3 L.length c3] 26)
      have hv7 := Kd.V_below (Kd.V_bound hv6) hb12
      have hX7 := hX6.below hb12
      have hB7 := (HB5.out.trans (hb6.mono HB5.out.size)).trans (hb12.mono (HB5.out.trans (hb6.mono HB5.out.size)).size)
      have hs7 : (W6.alloc (.cells #[.slice A3 L.length c3] 26)).heap.size = W6.heap.size + 1 := World.size_alloc _ _
      clear hv6 hX6 hb6
      dsimp only
      go_wp2_with ((with_reducible refine gate_dst (N := 70) rfl ?_); refine Stop.out ?_)
      generalize W6.alloc (.cells #[.slice A3 L.length c3] 26) = W7 at *
      obtain ⟨b12, hb12q⟩ : ∃ b, b = W6.heap.size := ⟨_, rfl⟩
      rw [← hb12q] at hk12 hg6 hv7 hs7 ⊢
      have hmk0 : (Instr.makeMap 82 none).run Tryd.prog W7 = .ok (.map (some W7.heap.size)) (W7.alloc (.map #[] 0)) := rfl
      have hm8 := MapIs.made W7
      have hb8 := below_alloc (Below.refl W7.heap.size W7) (.map #[] 0)
      have hX8 := hX7.below hb8
      have hB8 := hB7.trans (hb8.mono hB7.size)
      have hs8 : (W7.alloc (.map #[] 0)).heap.size = W7.heap.size + 1 := World.size_alloc _ _
      have hT7 : TBs W7 (W7.heap.size + 1) g b12 (.slice A3 L.length c3) L := ⟨hk12, Kd.V_mono hv7 fun k hk => ⟨by have := hk.2; omega, by
        rcases hk.1 with h | h
        · exact h.2.1
        · have := HX5.out.hg
          have := blk_lt this
          omega⟩, by omega, by omega⟩
      have hT8 := hT7.below hb8
      obtain ⟨mb, hmb⟩ : ∃ mb, mb = W7.heap.size := ⟨_, rfl⟩
      rw [← hmb] at hm8 hs8 hT8 hmk0 hs7
      have hmg : g ≠ mb := by omega
      have hmb12 : b12 ≠ mb := by omega
      have hWmb : W.heap.size ≤ mb := by rw [hmb]; exact hB7.size
      have HX8 := Aside0.mk hX8
      have HB8 := Aside0.mk hB8
      have HS8 := Aside0.mk hs8
      have HT8 := Aside0.mk hT8
      have HM8 : Aside0 (MapIs (W7.alloc (.map #[] 0)) mb 0 (nmd (lb.take 0))) := ⟨hm8⟩
      have HMG := Aside0.mk hmg
      have HMB := Aside0.mk hmb12
      have HWM := Aside0.mk hWmb
      clear hk12 hb12 hv7 hX7 hB7 hs7 hb12q hg6 hm8 hb8 hX8 hB8 hs8 hT7 hT8 hmg hmb12 hWmb HX5 HB5 HB4 HB3 HB2
      constructor
      go_wp2_with (fail)
      clear hmk0
      generalize W7.alloc (.map #[] 0) = W8 at *
      rw [← hmb]
      clear hmb
      go_loopg [14, 71, 72, 73, 74, 75, 76, 77, 78, 79, 80, 81, 82, 83, 84, 85, 86, 87, 88, 89, 90, 91, 92, 93, 94, 95, 96, 97, 98, 99, 100] lb.length (fun gg s14 _ _ _ _ _ _ _ _ _ _ _ _ _ _ _ _ _ _ _ _ _ _ _ _ _ _ _ _ _ _ wr => ∃ (i : Nat) (s : Dk) (vn' vw : Value) (n : Nat), i ≤ lb.length ∧ gg = lb.length - i ∧ s14 = .int .i64 i ∧ At wr B g s vn' vn vw vk ∧ Below W.heap.size W wr ∧ Bi (lb.take i) L s ∧ MapIs wr mb n (nmd (lb.take i)) ∧ n ≤ 2 * i ∧ TBs wr (mb + 1) g b12 (.slice A3 L.length c3) L ∧ mb + 1 ≤ wr.heap.size ∧ ∀ k, vw.ownBlock = some k → mb + 1 ≤ k)
      case atStart => exact ⟨0, s2, vn, _, 0, Nat.zero_le _, rfl, rfl, HX8.out, HB8.out, HA2.out, HM8.out, Nat.zero_le _, HT8.out, Nat.le_of_eq HS8.out.symm, fun k h => absurd h.symm no_own⟩
      case round =>
        clear HX8 HB8 HA2 HM8 HT8 HS8
        obtain ⟨i, s, vn', vw, n, hi, rfl, rfl, hX, hb, hAi, hM, hn, hT, hN, hO⟩ := hrel
        by_cases a : i < lb.length
        · have a1 : decide ((i : Int) < (lb.length : Int)) = true := decide_eq_true (by omega)
          obtain ⟨ad, A9, c9, ead, K0, K1, K2, K3, hc3, hC3⟩ := at_T61 HC2.out (i : Int) (by omega) (by omega)
          rw [rd61 a] at K0 K1 K2 K3 hc3 hC3
          subst ead
          have hgc := HZ2.out _ (List.getElem_mem a)
          have htk := take_1 a
          obtain ⟨c, hcq⟩ : ∃ c, c = lb[i] := ⟨_, rfl⟩
          rw [← hcq] at K0 K1 K2 K3 hc3 hC3 hgc htk
          clear hcq
          rw [Int.toNat_natCast] at K0 K1 K2 K3
          have k0 := (hb.cell (World.block_lt_of_cell? W _ K0)).trans K0
          have k1 := (hb.cell (World.block_lt_of_cell? W _ K1)).trans K1
          have k2 := (hb.cell (World.block_lt_of_cell? W _ K2)).trans K2
          have k3 := (hb.cell (World.block_lt_of_cell? W _ K3)).trans K3
          have HKK := Aside0.mk (And.intro K0 (And.intro K1 K2))
          have HX := Aside0.mk hX
          have HB1W := Aside0.mk hb
          have HAI := Aside0.mk hAi
          have HC3 := Aside0.mk hC3
          have HGC := Aside0.mk hgc
          have HTK := Aside0.mk htk
          have HM := Aside0.mk hM
          have HN := Aside0.mk hn
          have HT := Aside0.mk hT
          have HNN := Aside0.mk hN
          have HO := Aside0.mk hO
          have HWL : Aside0 (s.waits.length ≤ 100000) := ⟨by have := hAi.wl; rw [List.length_take] at this; omega⟩
          clear K0 K1 K2 K3 hX hb hAi hC3 hgc htk hM hn hT hN hO
          go_wp2_with (fail)
          refine (Do_live wr B g s vn' vn vw vk c A9 c9 HX.out HAI.out.off HAI.out.fu HAI.out.gt (Kd.C_kept_came (Kd.heap_int .u8) HC3.out HB1W.out fun k h => ?_) hc3 HGC.out HWL.out).mono ?_
          · have h1 := HBW.out
            rcases h with h | h
            · rw [h]; exact Nat.le_trans h1 HX.out.hB
            · exact Nat.le_trans h1 (Kd.N_base HX.out.w k h)
          rintro e W2 ⟨vn2, vw2, rfl, hX2, hK2, hB2⟩
          have hA2 := do0_Bi (c := c) HAI.out HGC.out
          rw [← HTK.out] at hA2
          obtain ⟨s', f, hsf⟩ : ∃ s' f, do0 s c = (s', f) := ⟨_, _, rfl⟩
          rw [hsf] at hX2 hA2 ⊢
          dsimp only at hX2 hA2 ⊢
          have hB2W := HB1W.out.trans (hB2.mono HBW.out)
          have hM2 := HM.out.keep (hK2.2 mb HM.out.lt (fun h => h.elim (fun e => HMG.out e.symm) fun h => by have := HO.out mb h; omega))
          have hT2 := HT.out.kept hK2 (fun k h => h.imp id fun h => HO.out k h)
          have hN2 : mb + 1 ≤ W2.heap.size := Nat.le_trans HNN.out hK2.1
          have hO2 : ∀ k, vw2.ownBlock = some k → mb + 1 ≤ k := fun k h => (hX2.ob k h).elim (fun h => HO.out k h) fun h => Nat.le_trans HNN.out h
          have m1 := (hB2W.cell (World.block_lt_of_cell? W _ HKK.out.2.1)).trans HKK.out.2.1
          have HX2 := Aside0.mk hX2.at_
          have HA2 := Aside0.mk hA2
          have HB2 := Aside0.mk hB2W
          have HT2 := Aside0.mk hT2
          have HN2 := Aside0.mk hN2
          have HO2 := Aside0.mk hO2
          have HML : Aside0 (n + 1 < maxLen) := ⟨Nat.lt_of_le_of_lt (show n + 1 ≤ 61 by have := HN.out; omega) (by decide)⟩
          clear hX2 hB2 hA2 hsf k0 k1 k2 k3 hK2 hB2W hT2 hN2 hO2 HM HT HX HO HNN
          go_wp2_with (refine update_dir hM2 rfl (.tmp 83) (.tmp 88) (.const (.bool true)) rfl rfl rfl rfl (okG_le HGC.out.1) (Nat.lt_of_succ_lt HML.out) ?_; intro W3 hM3 hg3; refine Stop.out ?_)
          obtain ⟨es, cl, hes⟩ := hM2.blk
          have hK3 := kept_grown hg3
          have hX3 := HX2.out.away hes HMG.out (fun h => by have := HO2.out mb h; omega) hK3
          have hT3 := HT2.out.away hes HMB.out hK3
          have hB3 := HB2.out.grown hg3 HB2.out.size (by intro k hk; injection hk with hk; rw [← hk]; exact HWM.out)
          have m0 := (hB3.cell (World.block_lt_of_cell? W _ HKK.out.1)).trans HKK.out.1
          have HX3 := Aside0.mk hX3
          have HT3 := Aside0.mk hT3
          have HB3 := Aside0.mk hB3
          have HN3 : Aside0 (mb + 1 ≤ W3.heap.size) := ⟨Nat.le_trans HN2.out hg3.size⟩
          have HM3 := Aside0.mk hM3
          have hwi : wrap64 ((i : Int) + 1) = ((i + 1 : Nat) : Int) := wr1 (by omega)
          clear hM2 hes hK3 hX3 hT3 hB3 hg3 HX2 HT2 HB2 HN2 m1 hM3
          constructor
          by_cases h4 : c.f0 = 4
          · have p4 : (c.f0 == 4) = true := beq_iff_eq.2 h4
            have m2 := (HB3.out.cell (World.block_lt_of_cell? W _ HKK.out.2.2)).trans HKK.out.2.2
            have hM3 := HM3.out
            have H4 := Aside0.mk h4
            clear h4
            go_wp2_with (refine update_dir hM3 rfl (.tmp 95) (.tmp 100) (.const (.bool true)) rfl rfl rfl rfl (okG_le HGC.out.2.1) HML.out ?_; intro W4 hM4 hg4; refine Stop.out ?_)
            obtain ⟨es, cl, hes⟩ := hM3.blk
            have hK4 := kept_grown hg4
            have HX4 := Aside0.mk (HX3.out.away hes HMG.out (fun h => by have := HO2.out mb h; omega) hK4)
            have HT4 := Aside0.mk (HT3.out.away hes HMB.out hK4)
            have HB4 := Aside0.mk (HB3.out.grown hg4 HB3.out.size (by intro k hk; injection hk with hk; rw [← hk]; exact HWM.out))
            have HN4 : Aside0 (mb + 1 ≤ W4.heap.size) := ⟨Nat.le_trans HN3.out hg4.size⟩
            have HM4 : Aside0 (MapIs W4 mb (n + 1 + 1) (nmd (lb.take (i + 1)))) := ⟨by rw [HTK.out]; exact hM4.congr fun z => nmd_step4 _ H4.out z⟩
            clear hM3 hM4 hg4 hes hK4 m0 m2 HX3 HT3 HB3 HN3 HM3
            constructor
            go_wp2_with (fail)
            go_roundg (lb.length - (i + 1))
            case measure => omega
            case rel => exact ⟨i + 1, s', vn2, vw2, n + 1 + 1, by omega, rfl, by first | rfl | rw [hwi], HX4.out, HB4.out, HA2.out, HM4.out, by have := HN.out; omega, HT4.out, HN4.out, HO2.out⟩
          · have p4 : (c.f0 == 4) = false := beq_eq_false_iff_ne.2 h4
            have HM4 : Aside0 (MapIs W3 mb (n + 1) (nmd (lb.take (i + 1)))) := ⟨by rw [HTK.out]; exact HM3.out.congr fun z => nmd_step _ h4 z⟩
            clear h4 HM3
            go_wp2_with (fail)
            go_roundg (lb.length - (i + 1))
            case measure => omega
            case rel => exact ⟨i + 1, s', vn2, vw2, n + 1, by omega, rfl, by first | rfl | rw [hwi], HX3.out, HB3.out, HA2.out, HM4.out, by have := HN.out; omega, HT3.out, HN3.out, HO2.out⟩
        · have a1 : decide ((i : Int) < (lb.length : Int)) = false := decide_eq_false (by omega)
          rw [List.take_of_length_le (by omega)] at hAi hM
          have HX := Aside0.mk hX
          have HB1W := Aside0.mk hb
          have HAI := Aside0.mk hAi
          have HM := Aside0.mk hM
          have HT := Aside0.mk hT
          have HNN := Aside0.mk hN
          have HWL : Aside0 (s.waits.length ≤ 100000) := ⟨by have := hAi.wl; omega⟩
          clear hX hb hAi hM hT hN hO hn
          go_wp2_with (fail)
          refine (Crash_calls wr B g s vn' vn vw vk A4 c4 keep torn HX.out HWL.out HAI.out.off (by rw [HAI.out.la]; exact HGL.out) HAI.out.okw (Kd.C_kept_came (Kd.heap_int .i64) HC4.out HB1W.out fun k h => ?_) HL4.out (by omega)).mono ?_
          · rw [h]
            exact HNB.out
          rintro e W7 ⟨vl7, rfl, hX7, hK7, hB7⟩
          rw [HAI.out.la] at hX7
          obtain ⟨L1, hL1⟩ : ∃ L1, L1 = fallN keep torn s.waits L s.waits.length := ⟨_, rfl⟩
          rw [← hL1] at hX7
          have hg1 : GT30 L1 := by rw [hL1]; exact fallN_GT HGL.out _
          have hmem : ∀ x : S30, nmd lb x.f0 = false → (x ∈ L1 ↔ x ∈ L) := fun x hx => by rw [hL1]; exact fallN_mem HGL.out (nmd_un hx HAI.out.sub) _
          have HMEM := Aside0.mk hmem
          have HG1 := Aside0.mk hg1
          obtain ⟨s7, hs7⟩ : ∃ s7 : Dk, s7 = { s with now := L1, last := L1, waits := [], off := true, fuse := 0 } := ⟨_, rfl⟩
          rw [← hs7] at hX7
          have HE7 : Aside0 (s7.now = L1 ∧ s7.last = L1) := ⟨by rw [hs7]; exact ⟨rfl, rfl⟩⟩
          have HX7 := Aside0.mk hX7
          have HB7 := Aside0.mk (HB1W.out.trans (hB7.mono HBW.out))
          have HM7 := Aside0.mk (HM.out.keep (hK7.2 mb HM.out.lt (fun h => HMG.out h.symm)))
          have HT7 := Aside0.mk (HT.out.kept hK7 fun k h => .inl h)
          clear hX7 hs7 hL1 hg1 hmem hK7 hB7 HX HAI HM HT HB1W HNN HWL
          dsimp only
          go_wp2_with (fail)
          refine (Now_calls W7 B g s7 vl7 vl7 (.slice none 0 0) vk HX7.out (by rw [HE7.out.1]; exact GT_okC HG1.out)).mono ?_
          rintro e W8 ⟨v8, rfl, hv8, hb8⟩
          rw [HE7.out.1] at hv8
          obtain ⟨A6, c6, rfl⟩ := Kd.V_slice hv8
          have hbb := below_alloc (Below.refl W8.heap.size W8) (.cells #[.slice A6 L1.length c6] 26)
          have hk15 := blk_new W8 (.cells #[.slice A6 L1.length c6] 26)
          have hX9 := (HX7.out.below hb8).below hbb
          have hB9 := (HB7.out.trans (hb8.mono HB7.out.size)).trans (hbb.mono (HB7.out.trans (hb8.mono HB7.out.size)).size)
          have hM9 := (HM7.out.below hb8).below hbb
          have hT9 := (HT7.out.below hb8).below hbb
          have hC9 := Kd.C_below (Kd.V_reads' hv8).2.2 hbb
          have hL9 := (Kd.V_reads' hv8).2.1
          dsimp only
          go_wp2_with (fail)
          obtain ⟨b15, hb15⟩ : ∃ b, b = W8.heap.size := ⟨_, rfl⟩
          rw [← hb15] at hk15 ⊢
          generalize W8.alloc (.cells #[.slice A6 L1.length c6] 26) = wN at *
          have HXN := Aside0.mk hX9
          have HBN := Aside0.mk hB9
          have HMP := Aside0.mk hM9
          have HB12 := Aside0.mk hT9.hb
          have HV12 := Aside0.mk (Kd.V_reads' hT9.hv)
          have HB15 := Aside0.mk hk15
          have HV15 := Aside0.mk hC9
          have HL15 := Aside0.mk hL9
          have HXD := Aside0.mk (hX9.below (below_drew (Below.refl _ _)))
          have HCN := Aside0.mk (Kd.C_drew hC9)
          have md : wN.drew.cell? ⟨b15, 0, none⟩ = some (.slice A6 L1.length c6) := blk_cell hk15 0
          have HBD : Aside0 (Below wN.heap.size wN wN.drew) := ⟨below_drew (Below.refl _ _)⟩
          have hge := tree_Good.eq (GT_okT HG1.out)
          rw [decide_eq_true HG1.out] at hge
          have HGE := Aside0.mk hge
          clear hb8 hv8 hbb hk15 hX9 hB9 hM9 hT9 hC9 hL9 hb15 HX7 HB7 HM7 HT7 hge
          refine start_ (n := 10) (S := fun w' => w'.cell? ⟨b15, 0, none⟩ = some (.slice A6 L1.length c6)) (ds := []) #[false, false, false, false, false, false, false, false, false, false] (by kernel_rfl) rfl rfl (md) (fun hHeld => ?_)
          generalize wN.drew = wd at md HXD HCN HBD hHeld ⊢
          refine take_ (i := 0) (N := some 107) (v := ?_) (a' := ?_) #[true, false, false, false, false, false, false, false, false, false] rfl rfl (by kernel_rfl) (fun _ _ _ h => h) (Or.inl ⟨by rfl, ?_⟩) hHeld ?_ ?_
          rotate_left
          · intro w' s0
            go_simp
            with_reducible rfl
          rotate_left
          · simp only [Act.put, List.setIfInBounds_toArray, List.set_cons_zero, List.set_cons_succ, i64_w, i32_w]
            rfl
          refine one_ (i := 1) (N := some 108) #[true, true, false, false, false, false, false, false, false, false] rfl rfl (by kernel_rfl) (by decide) (fun K hK => ?_)
          refine goes_ Tryd.func14 (by kernel_rfl) rfl #[.agg #[.slice A6 L1.length c6]] (by rfl) rfl rfl (by simp only [List.map_toArray, List.map_cons, List.map_nil]; rfl) ?_
          with_reducible refine (tree_Good.calls A6 c6 L1 true wd HCN.out HL15.out HGE.out).mono ?_
          rintro e wA ⟨rfl, hbA⟩
          refine ⟨_, rfl, ?_⟩
          refine hK.out _ _ ((Below.cell hbA (cell_lt2 md)).trans md) (fun hHeld => ?_)
          clear hK K
          refine norm_ (a' := ?_) ?_ ?_
          rotate_left
          · show Act.put _ (some 108) _ = _
            simp only [Act.put, List.setIfInBounds_toArray, List.set_cons_zero, List.set_cons_succ, i64_w, i32_w]
            rfl
          refine pure_ (i := 2) (N := some 109) (v := ?_) (a' := ?_) #[true, true, true, false, false, false, false, false, false, false] rfl rfl (by kernel_rfl) (fun _ _ _ h => h) (Or.inl ⟨by rfl, ?_⟩) ?_ ?_
          rotate_left
          · intro w'
            go_simp
            with_reducible rfl
          rotate_left
          · simp only [Act.put, List.setIfInBounds_toArray, List.set_cons_zero, List.set_cons_succ, i64_w, i32_w]
            rfl
          refine pure_ (i := 3) (N := some 110) (v := ?_) (a' := ?_) #[true, true, true, true, false, false, false, false, false, false] rfl rfl (by kernel_rfl) (fun _ _ _ h => h) (Or.inl ⟨by rfl, ?_⟩) ?_ ?_
          rotate_left
          · intro w'
            go_simp
            with_reducible rfl
          rotate_left
          · simp only [Act.put, List.setIfInBounds_toArray, List.set_cons_zero, List.set_cons_succ, i64_w, i32_w]
            rfl
          refine pure_ (i := 5) (N := some 112) (v := ?_) (a' := ?_) #[true, true, true, true, false, true, false, false, false, false] rfl rfl (by kernel_rfl) (fun _ _ _ h => h) (Or.inl ⟨by rfl, ?_⟩) ?_ ?_
          rotate_left
          · intro w'
            go_simp
            with_reducible rfl
          rotate_left
          · simp only [Act.put, List.setIfInBounds_toArray, List.set_cons_zero, List.set_cons_succ, i64_w, i32_w]
            rfl
          refine take_ (i := 4) (N := some 111) (v := ?_) (a' := ?_) #[true, true, true, true, true, true, false, false, false, false] rfl rfl (by kernel_rfl) (fun _ _ _ h => h) (Or.inl ⟨by rfl, ?_⟩) hHeld ?_ ?_
          rotate_left
          · intro w' s0
            go_simp
            with_reducible rfl
          rotate_left
          · simp only [Act.put, List.setIfInBounds_toArray, List.set_cons_zero, List.set_cons_succ, i64_w, i32_w]
            rfl
          refine one_ (i := 6) (N := some 113) #[true, true, true, true, true, true, true, false, false, false] rfl rfl (by kernel_rfl) (by decide) (fun K hK => ?_)
          refine goes_ Tryd.func62 (by kernel_rfl) rfl #[.pointer (some ⟨g, 0, none⟩)] (by rfl) rfl rfl (by simp only [List.map_toArray, List.map_cons, List.map_nil]; rfl) ?_
          with_reducible refine (Lasts_calls wA B g _ _ _ _ _ (HXD.out.below hbA) (by rw [HE7.out.2]; exact GT_okC HG1.out)).mono ?_
          rintro e wC ⟨vC, rfl, hvC, hbC⟩
          refine ⟨_, rfl, ?_⟩
          rw [HE7.out.2] at hvC
          obtain ⟨A9, c9, rfl⟩ := Kd.V_slice hvC
          have hbD := hbA.trans (hbC.mono hbA.size)
          refine hK.out _ _ ((Below.cell hbD (cell_lt2 md)).trans md) (fun hHeld => ?_)
          clear hK K
          refine norm_ (a' := ?_) ?_ ?_
          rotate_left
          · show Act.put _ (some 113) _ = _
            simp only [Act.put, List.setIfInBounds_toArray, List.set_cons_zero, List.set_cons_succ, i64_w, i32_w]
            rfl
          refine one_ (i := 7) (N := some 114) #[true, true, true, true, true, true, true, true, false, false] rfl rfl (by kernel_rfl) (by decide) (fun K hK => ?_)
          refine goes_ Tryd.func20 (by kernel_rfl) rfl #[.agg #[.slice A6 L1.length c6], .agg #[.slice A9 L1.length c9]] (by rfl) rfl rfl (by simp only [List.map_toArray, List.map_cons, List.map_nil]; rfl) ?_
          with_reducible refine (tree_Same.calls A6 c6 L1 A9 c9 L1 true wC (Kd.C_below HCN.out hbD) HL15.out (Kd.V_reads' hvC).2.2 (Kd.V_reads' hvC).2.1 (tree_Same.self (GT_okT HG1.out) HG1.out)).mono ?_
          rintro e wE ⟨rfl, hbEs⟩
          refine ⟨_, rfl, ?_⟩
          have hbE := hbD.trans (hbEs.mono hbD.size)
          refine hK.out _ _ ((Below.cell hbE (cell_lt2 md)).trans md) (fun hHeld => ?_)
          clear hK K
          refine norm_ (a' := ?_) ?_ ?_
          rotate_left
          · show Act.put _ (some 114) _ = _
            simp only [Act.put, List.setIfInBounds_toArray, List.set_cons_zero, List.set_cons_succ, i64_w, i32_w]
            rfl
          refine pure_ (i := 8) (N := some 115) (v := ?_) (a' := ?_) #[true, true, true, true, true, true, true, true, true, false] rfl rfl (by kernel_rfl) (fun _ _ _ h => h) (Or.inl ⟨by rfl, ?_⟩) ?_ ?_
          rotate_left
          · intro w'
            go_simp
            with_reducible rfl
          rotate_left
          · simp only [Act.put, List.setIfInBounds_toArray, List.set_cons_zero, List.set_cons_succ, i64_w, i32_w]
            rfl
          refine pure_ (i := 9) (N := some 116) (v := ?_) (a' := ?_) #[true, true, true, true, true, true, true, true, true, true] rfl rfl (by kernel_rfl) (fun _ _ _ h => h) (Or.inl ⟨by rfl, ?_⟩) ?_ ?_
          rotate_left
          · intro w'
            go_simp
            with_reducible rfl
          rotate_left
          · simp only [Act.put, List.setIfInBounds_toArray, List.set_cons_zero, List.set_cons_succ, i64_w, i32_w]
            rfl
          refine done_ (by kernel_rfl) ?_
          have HBE := Aside0.mk (HBD.out.trans (hbE.mono HBD.out.size))
          (try clear hHeld)
          (try clear md)
          go_wp2_with (fail)
          go_loopg [16, 17, 18, 19, 117, 118, 119, 120, 121, 122, 123, 124, 125, 126, 127, 128, 129, 130, 131, 132, 133, 134, 135, 136, 137, 138, 139, 140, 141, 142, 143, 144, 145, 146, 147, 148, 149, 150, 151, 152, 153, 154, 155, 156, 157] L.length (fun gg s16 _ _ _ _ _ _ _ _ _ _ _ _ _ _ _ _ _ _ _ _ _ _ _ _ _ _ _ _ _ _ _ _ _ _ _ _ _ _ _ _ _ _ _ _ wr => ∃ i : Nat, i ≤ L.length ∧ gg = L.length - i ∧ s16 = .int .i64 i ∧ Below wN.heap.size wN wr)
          case atStart => exact ⟨0, Nat.zero_le _, rfl, rfl, HBE.out⟩
          case round =>
            clear HBE
            obtain ⟨i, hi, rfl, rfl, hbr⟩ := hrel
            have m12 := blk_cell ((hbr.block _ (blk_lt HB12.out)).trans HB12.out) 0
            by_cases a : i < L.length
            · have a1 : decide ((i : Int) < (L.length : Int)) = true := decide_eq_true (by omega)
              have HMS : Aside0 (L.length - (i + 1) < L.length - i ∧ i + 1 ≤ L.length) := ⟨by omega⟩
              obtain ⟨ad, A9, c9, rfl, k0, k1, k2, hc9, hC9⟩ := atT (Kd.C_below HV12.out.2.2 hbr) i a
              obtain ⟨x, hxq⟩ : ∃ x, x = L[i] := ⟨_, rfl⟩
              have hxm : x ∈ L := by rw [hxq]; exact List.getElem_mem a
              rw [← hxq] at k0 k1 k2 hc9 hC9
              have HXM := Aside0.mk hxm
              have HC9 := Aside0.mk hC9
              have HXZ : Aside0 (x.f0.size < 4294967280) := ⟨(okP_iff.1 (GT_okT HGL.out).1).1 x hxm⟩
              have hwi : wrap64 ((i : Int) + 1) = ((i + 1 : Nat) : Int) := wr1 (by have := HGL.out.1; omega)
              have HBR := Aside0.mk hbr
              clear hxq hxm hC9 hbr
              have hba := below_alloc (Below.refl wr.heap.size wr) (.cells #[.string x.f0, .bool x.f1, .slice A9 x.f2.length c9] 30)
              have hk7 := blk_new wr (.cells #[.string x.f0, .bool x.f1, .slice A9 x.f2.length c9] 30)
              have hbr2 := HBR.out.trans (hba.mono HBR.out.size)
              have hlk := (HMP.out.below hbr2).look (okG_le HXZ.out)
              have m15 := blk_cell ((hbr2.block _ (blk_lt HB15.out)).trans HB15.out) 0
              have HK7 := Aside0.mk hk7
              have HBR2 := Aside0.mk hbr2
              have HC9a := Aside0.mk (Kd.C_below HC9.out hba)
              clear hk7 hbr2 hba HC9
              by_cases hn : nmd lb x.f0 = true
              · rw [hn] at hlk
                clear hn m15
                go_wp2_with (fail)
                go_roundg (L.length - (i + 1))
                case measure => exact HMS.out.1
                case rel => exact ⟨i + 1, HMS.out.2, rfl, by first | rfl | rw [hwi], HBR2.out⟩
              · have hn' : nmd lb x.f0 = false := Bool.eq_false_iff.2 hn
                rw [hn'] at hlk
                have hx1 : x ∈ L1 := (HMEM.out x hn').2 HXM.out
                have HX1 := Aside0.mk hx1
                clear hn hn' hx1
                go_wp2_with (fail)
                obtain ⟨b17, hb17⟩ : ∃ b, b = wr.heap.size := ⟨_, rfl⟩
                rw [← hb17] at HK7 ⊢
                generalize wr.alloc (.cells #[.string x.f0, .bool x.f1, .slice A9 x.f2.length c9] 30) = wa at *
                clear hb17
                refine (tree_Find.calls A6 c6 L1 x.f0 x.f0 x.f1 x.f2 0 wa (Kd.C_below HV15.out HBR2.out) HL15.out (Find_at HG1.out HX1.out)).mono ?_
                rintro e wb ⟨v2, rfl, hR, hbb⟩
                obtain ⟨A5, c5, rfl⟩ := Kd.R_slice hR
                have hk7 := (hbb.block _ (blk_lt HK7.out)).trans HK7.out
                have hba := below_alloc (Below.refl wb.heap.size wb) (.cells #[.string x.f0, .bool x.f1, .slice A5 x.f2.length c5] 30)
                have hk8 := blk_new wb (.cells #[.string x.f0, .bool x.f1, .slice A5 x.f2.length c5] 30)
                have hC5 := Kd.C_below (Kd.R_reads' hR).2.2 hba
                have hC9b := Kd.C_below (Kd.C_below HC9a.out hbb) hba
                have hbc := HBR2.out.trans ((hbb.trans (hba.mono hbb.size)).mono HBR2.out.size)
                have hk7c := (hba.block _ (blk_lt hk7)).trans hk7
                have n1 := blk_cell hk7c 1
                have n2 := blk_cell hk7c 2
                have n3 := blk_cell hk8 1
                have n4 := blk_cell hk8 2
                have hcv1 := Kd.C_string (P := Tryd.prog) (A := A5) (c := c5) Tryd.underlying23 Tryd.underlying5 Tryd.underlying9 hC5
                have hcv2 := Kd.C_string (P := Tryd.prog) (A := A9) (c := c9) Tryd.underlying23 Tryd.underlying5 Tryd.underlying9 hC9b
                have HBC := Aside0.mk hbc
                clear hlk m15 hR hbb hk7 hk8 hba hC5 hC9b hk7c hbc k0 k1 k2 m12
                dsimp only
                go_wp2_with (fail)
                go_roundg (L.length - (i + 1))
                case measure => exact HMS.out.1
                case rel => exact ⟨i + 1, HMS.out.2, rfl, by first | rfl | rw [hwi], HBC.out⟩
            · have a1 : decide ((i : Int) < (L.length : Int)) = false := decide_eq_false (by omega)
              have HBR := Aside0.mk hbr
              clear hbr
              go_wp2_with (fail)
              clear m12
              go_loopg [20, 21, 22, 158, 159, 160, 161, 162, 163, 164, 165, 166, 167, 168, 169, 170, 171, 172, 173, 174, 175, 176, 177, 178, 179, 180, 181, 182, 183, 184, 185, 186, 187, 188] L1.length (fun gg s20 _ _ _ _ _ _ _ _ _ _ _ _ _ _ _ _ _ _ _ _ _ _ _ _ _ _ _ _ _ _ _ _ _ wr => ∃ i : Nat, i ≤ L1.length ∧ gg = L1.length - i ∧ s20 = .int .i64 i ∧ Below wN.heap.size wN wr)
              case atStart => exact ⟨0, Nat.zero_le _, rfl, rfl, HBR.out⟩
              case round =>
                clear HBR hi a a1
                obtain ⟨i, hi, rfl, rfl, hbr⟩ := hrel
                have m15 := blk_cell ((hbr.block _ (blk_lt HB15.out)).trans HB15.out) 0
                by_cases a : i < L1.length
                · have a1 : decide ((i : Int) < (L1.length : Int)) = true := decide_eq_true (by omega)
                  have a2 : decide (0 ≤ (i : Int)) = true := decide_eq_true (by omega)
                  have HMS : Aside0 (L1.length - (i + 1) < L1.length - i ∧ i + 1 ≤ L1.length) := ⟨by omega⟩
                  obtain ⟨ad, A9, c9, rfl, k0, _, _, _, _⟩ := atT HV15.out i a
                  obtain ⟨x, hxq⟩ : ∃ x, x = L1[i] := ⟨_, rfl⟩
                  have hxm : x ∈ L1 := by rw [hxq]; exact List.getElem_mem a
                  rw [← hxq] at k0
                  have hxz : x.f0.size < 4294967280 := (okP_iff.1 (GT_okT HG1.out).1).1 x hxm
                  obtain ⟨r1, r2, r3, hf⟩ := tree_Find.eq (p := x.f0) (GT_okT HGL.out) hxz
                  have hne : findE L x.f0 ≠ 0 → nmd lb x.f0 = true := fun h => by
                    cases hn : nmd lb x.f0 with
                    | true => rfl
                    | false => exact absurd (findE_zero.2 ⟨HGL.out, (HG1.out.2.2.2 x hxm).1, x, (HMEM.out x hn).1 hxm, rfl⟩) h
                  obtain ⟨p, hp⟩ : ∃ p, p = x.f0 := ⟨_, rfl⟩
                  rw [← hp] at k0 hf hne hxz
                  obtain ⟨E1, hE1⟩ : ∃ E, E = findE L p := ⟨_, rfl⟩
                  rw [← hE1] at hf hne
                  have HF := Aside0.mk hf
                  have HNE := Aside0.mk hne
                  have HXZ := Aside0.mk hxz
                  have HK0 := Aside0.mk k0
                  have hwi : wrap64 ((i : Int) + 1) = ((i + 1 : Nat) : Int) := wr1 (by have := HG1.out.1; omega)
                  have hbd : Below wN.heap.size wN wr.drew := hbr.drew
                  have md0 := blk_cell ((hbd.block _ (blk_lt HB12.out)).trans HB12.out) 0
                  have md1 := blk_cell ((hbd.block _ (blk_lt HB15.out)).trans HB15.out) 0
                  have md2 := (hbd.cell (World.block_lt_of_cell? wN _ k0)).trans k0
                  have HCd := Aside0.mk (Kd.C_below HV12.out.2.2 hbd)
                  have HBd := Aside0.mk hbd
                  clear hxq hxm hp hE1 hf hne hxz k0 hbr hbd
                  go_wp2_with (fail)
                  clear m15
                  refine start_ (n := 14) (S := fun w' => w'.cell? ⟨b12, 0, none⟩ = some (.slice A3 L.length c3) ∧ w'.cell? ⟨b15, 0, none⟩ = some (.slice (some ad) L1.length c6) ∧ w'.cell? (ad.add (i * 3)) = some (.string p)) (ds := [12]) #[false, false, false, false, false, false, false, false, false, false, false, false, false, false] (by kernel_rfl) rfl rfl ⟨md0, md1, md2⟩ (fun hHeld => ?_)
                  generalize wr.drew = wd at md0 md1 md2 HCd HBd hHeld ⊢
                  refine pure_ (i := 1) (N := some 167) (v := ?_) (a' := ?_) #[false, true, false, false, false, false, false, false, false, false, false, false, false, false] rfl rfl (by kernel_rfl) (fun _ _ _ h => h) (Or.inl ⟨by rfl, ?_⟩) ?_ ?_
                  rotate_left
                  · intro w'
                    go_simp
                    with_reducible rfl
                  rotate_left
                  · simp only [Act.put, List.setIfInBounds_toArray, List.set_cons_zero, List.set_cons_succ, i64_w, i32_w]
                    rfl
                  refine pure_ (i := 3) (N := some 169) (v := ?_) (a' := ?_) #[false, true, false, true, false, false, false, false, false, false, false, false, false, false] rfl rfl (by kernel_rfl) (fun _ _ _ h => h) (Or.inl ⟨by rfl, ?_⟩) ?_ ?_
                  rotate_left
                  · intro w'
                    go_simp
                    with_reducible rfl
                  rotate_left
                  · simp only [Act.put, List.setIfInBounds_toArray, List.set_cons_zero, List.set_cons_succ, i64_w, i32_w]
                    rfl
                  refine take_ (i := 0) (N := some 166) (v := ?_) (a' := ?_) #[true, true, false, true, false, false, false, false, false, false, false, false, false, false] rfl rfl (by kernel_rfl) (fun _ _ _ h => h) (Or.inl ⟨by rfl, ?_⟩) hHeld ?_ ?_
                  rotate_left
                  · rintro w' ⟨s0, s1, s2⟩
                    go_simp
                    with_reducible rfl
                  rotate_left
                  · simp only [Act.put, List.setIfInBounds_toArray, List.set_cons_zero, List.set_cons_succ, i64_w, i32_w]
                    rfl
                  refine take_ (i := 2) (N := some 168) (v := ?_) (a' := ?_) #[true, true, true, true, false, false, false, false, false, false, false, false, false, false] rfl rfl (by kernel_rfl) (fun _ _ _ h => h) (Or.inl ⟨by rfl, ?_⟩) hHeld ?_ ?_
                  rotate_left
                  · rintro w' ⟨s0, s1, s2⟩
                    go_simp
                    with_reducible rfl
                  rotate_left
                  · simp only [Act.put, List.setIfInBounds_toArray, List.set_cons_zero, List.set_cons_succ, i64_w, i32_w]
                    rfl
                  refine pure_ (i := 4) (N := some 170) (v := ?_) (a' := ?_) #[true, true, true, true, true, false, false, false, false, false, false, false, false, false] rfl rfl (by kernel_rfl) (fun _ _ _ h => h) (Or.inl ⟨by rfl, ?_⟩) ?_ ?_
                  rotate_left
                  · intro w'
                    go_simp
                    with_reducible rfl
                  rotate_left
                  · simp only [Act.put, List.setIfInBounds_toArray, List.set_cons_zero, List.set_cons_succ, i64_w, i32_w]
                    rfl
                  refine pure_ (i := 5) (N := some 171) (v := ?_) (a' := ?_) #[true, true, true, true, true, true, false, false, false, false, false, false, false, false] rfl rfl (by kernel_rfl) (fun _ _ _ h => h) (Or.inl ⟨by rfl, ?_⟩) ?_ ?_
                  rotate_left
                  · intro w'
                    go_simp
                    with_reducible rfl
                  rotate_left
                  · simp only [Act.put, List.setIfInBounds_toArray, List.set_cons_zero, List.set_cons_succ, i64_w, i32_w]
                    rfl
                  refine take_ (i := 6) (N := some 172) (v := ?_) (a' := ?_) #[true, true, true, true, true, true, true, false, false, false, false, false, false, false] rfl rfl (by kernel_rfl) (fun _ _ _ h => h) (Or.inl ⟨by rfl, ?_⟩) hHeld ?_ ?_
                  rotate_left
                  · rintro w' ⟨s0, s1, s2⟩
                    go_simp
                    with_reducible rfl
                  rotate_left
                  · simp only [Act.put, List.setIfInBounds_toArray, List.set_cons_zero, List.set_cons_succ, i64_w, i32_w]
                    rfl
                  refine join_ (σ := Option Addr × Nat × Nat) 2 #[true, true, true, true, true, true, true, true, true, true, true, true, false, false] (fun s_ => [(173, (.tuple #[(.agg #[.string r1, .bool r2, .slice s_.1 r3.length s_.2.1]), .int .i64 E1])), (165, (.tuple #[(.agg #[.string r1, .bool r2, .slice s_.1 r3.length s_.2.1]), .int .i64 E1])), (174, (.agg #[.string r1, .bool r2, .slice s_.1 r3.length s_.2.1])), (175, .int .i64 E1), (21, .pointer (some ⟨s_.2.2, 0, none⟩))]) (fun s_ w' => FnV wd w' (some s_.2.2)) ?_ ?_
                  rotate_left
                  · intro hCont
                    refine two_ (i := 7) (j := 11) (Ni := some 173) (Nj := some 21) #[true, true, true, true, true, true, true, true, false, false, false, false, false, false] #[true, true, true, true, true, true, true, false, false, false, false, true, false, false] rfl rfl rfl rfl (by kernel_rfl) (by decide) (by decide) (fun K hK => ?_) (fun K hK => ?_)
                    · skip
                      refine goes_ Tryd.func16 (by kernel_rfl) rfl #[.agg #[.slice A3 L.length c3], .string p] (by rfl) rfl rfl (by simp only [List.map_toArray, List.map_cons, List.map_nil]; rfl) ?_
                      with_reducible refine (Fn0 HCd.out HV12.out.2.1 HF.out).mono ?_
                      rintro e wA ⟨A5, c5, rfl, hW⟩
                      refine ⟨_, rfl, ?_⟩
                      refine hK.out _ _ ⟨(Below.cell hW.hb (cell_lt2 md0)).trans md0, (Below.cell hW.hb (cell_lt2 md1)).trans md1, (Below.cell hW.hb (cell_lt2 md2)).trans md2⟩ (fun hHeld => ?_)
                      clear hK K
                      refine norm_ (a' := ?_) ?_ ?_
                      rotate_left
                      · show Act.put _ (some 173) _ = _
                        simp only [Act.put, List.setIfInBounds_toArray, List.set_cons_zero, List.set_cons_succ, i64_w, i32_w]
                        rfl
                      refine pure_ (i := 8) (N := some 165) (v := ?_) (a' := ?_) #[true, true, true, true, true, true, true, true, true, false, false, false, false, false] rfl rfl (by kernel_rfl) (fun _ _ _ h => h) (Or.inl ⟨by rfl, ?_⟩) ?_ ?_
                      rotate_left
                      · intro w'
                        go_simp
                        with_reducible rfl
                      rotate_left
                      · simp only [Act.put, List.setIfInBounds_toArray, List.set_cons_zero, List.set_cons_succ, i64_w, i32_w]
                        rfl
                      refine pure_ (i := 9) (N := some 174) (v := ?_) (a' := ?_) #[true, true, true, true, true, true, true, true, true, true, false, false, false, false] rfl rfl (by kernel_rfl) (fun _ _ _ h => h) (Or.inl ⟨by rfl, ?_⟩) ?_ ?_
                      rotate_left
                      · intro w'
                        go_simp
                        with_reducible rfl
                      rotate_left
                      · simp only [Act.put, List.setIfInBounds_toArray, List.set_cons_zero, List.set_cons_succ, i64_w, i32_w]
                        rfl
                      refine pure_ (i := 10) (N := some 175) (v := ?_) (a' := ?_) #[true, true, true, true, true, true, true, true, true, true, true, false, false, false] rfl rfl (by kernel_rfl) (fun _ _ _ h => h) (Or.inl ⟨by rfl, ?_⟩) ?_ ?_
                      rotate_left
                      · intro w'
                        go_simp
                        with_reducible rfl
                      rotate_left
                      · simp only [Act.put, List.setIfInBounds_toArray, List.set_cons_zero, List.set_cons_succ, i64_w, i32_w]
                        rfl
                      refine one_ (i := 11) (N := some 21) #[true, true, true, true, true, true, true, true, true, true, true, true, false, false] rfl rfl (by kernel_rfl) (by decide) (fun K hK => ?_)
                      refine value_ (w1 := ?_) (v := ?_) (by rfl) rfl ?_ ?_
                      rotate_left 2
                      · go_simp
                        constructor
                        · rfl
                        · rfl
                      replace hW := hW.alloc
                      refine hK.out _ _ ⟨(Below.cell hW.hb (cell_lt2 md0)).trans md0, (Below.cell hW.hb (cell_lt2 md1)).trans md1, (Below.cell hW.hb (cell_lt2 md2)).trans md2⟩ (fun hHeld => ?_)
                      clear hK K
                      refine norm_ (a' := ?_) ?_ ?_
                      rotate_left
                      · show Act.put _ (some 21) _ = _
                        simp only [Act.put, List.setIfInBounds_toArray, List.set_cons_zero, List.set_cons_succ, i64_w, i32_w]
                        rfl
                      exact norm_ (by simp only [putAll, Act.put, List.setIfInBounds_toArray, List.set_cons_zero, List.set_cons_succ]) (hCont (A5, c5, wA.heap.size) _ hW)
                    · skip
                      refine value_ (w1 := ?_) (v := ?_) (by rfl) rfl ?_ ?_
                      rotate_left 2
                      · go_simp
                        constructor
                        · rfl
                        · rfl
                      have hb0 := below_alloc (Below.refl wd.heap.size wd) (.cells #[.string ⟨#[]⟩, .bool false, .slice none 0 0] 30)
                      refine hK.out _ _ ⟨(Below.cell hb0 (cell_lt2 md0)).trans md0, (Below.cell hb0 (cell_lt2 md1)).trans md1, (Below.cell hb0 (cell_lt2 md2)).trans md2⟩ (fun hHeld => ?_)
                      clear hK K
                      refine norm_ (a' := ?_) ?_ ?_
                      rotate_left
                      · show Act.put _ (some 21) _ = _
                        simp only [Act.put, List.setIfInBounds_toArray, List.set_cons_zero, List.set_cons_succ, i64_w, i32_w]
                        rfl
                      refine one_ (i := 7) (N := some 173) #[true, true, true, true, true, true, true, true, false, false, false, true, false, false] rfl rfl (by kernel_rfl) (by decide) (fun K hK => ?_)
                      refine goes_ Tryd.func16 (by kernel_rfl) rfl #[.agg #[.slice A3 L.length c3], .string p] (by rfl) rfl rfl (by simp only [List.map_toArray, List.map_cons, List.map_nil]; rfl) ?_
                      with_reducible refine (Fn1 HCd.out HV12.out.2.1 HF.out).mono ?_
                      rintro e wA ⟨A5, c5, rfl, hW⟩
                      refine ⟨_, rfl, ?_⟩
                      refine hK.out _ _ ⟨(Below.cell hW.hb (cell_lt2 md0)).trans md0, (Below.cell hW.hb (cell_lt2 md1)).trans md1, (Below.cell hW.hb (cell_lt2 md2)).trans md2⟩ (fun hHeld => ?_)
                      clear hK K
                      refine norm_ (a' := ?_) ?_ ?_
                      rotate_left
                      · show Act.put _ (some 173) _ = _
                        simp only [Act.put, List.setIfInBounds_toArray, List.set_cons_zero, List.set_cons_succ, i64_w, i32_w]
                        rfl
                      refine pure_ (i := 8) (N := some 165) (v := ?_) (a' := ?_) #[true, true, true, true, true, true, true, true, true, false, false, true, false, false] rfl rfl (by kernel_rfl) (fun _ _ _ h => h) (Or.inl ⟨by rfl, ?_⟩) ?_ ?_
                      rotate_left
                      · intro w'
                        go_simp
                        with_reducible rfl
                      rotate_left
                      · simp only [Act.put, List.setIfInBounds_toArray, List.set_cons_zero, List.set_cons_succ, i64_w, i32_w]
                        rfl
                      refine pure_ (i := 9) (N := some 174) (v := ?_) (a' := ?_) #[true, true, true, true, true, true, true, true, true, true, false, true, false, false] rfl rfl (by kernel_rfl) (fun _ _ _ h => h) (Or.inl ⟨by rfl, ?_⟩) ?_ ?_
                      rotate_left
                      · intro w'
                        go_simp
                        with_reducible rfl
                      rotate_left
                      · simp only [Act.put, List.setIfInBounds_toArray, List.set_cons_zero, List.set_cons_succ, i64_w, i32_w]
                        rfl
                      refine pure_ (i := 10) (N := some 175) (v := ?_) (a' := ?_) #[true, true, true, true, true, true, true, true, true, true, true, true, false, false] rfl rfl (by kernel_rfl) (fun _ _ _ h => h) (Or.inl ⟨by rfl, ?_⟩) ?_ ?_
                      rotate_left
                      · intro w'
                        go_simp
                        with_reducible rfl
                      rotate_left
                      · simp only [Act.put, List.setIfInBounds_toArray, List.set_cons_zero, List.set_cons_succ, i64_w, i32_w]
                        rfl
                      exact norm_ (by simp only [putAll, Act.put, List.setIfInBounds_toArray, List.set_cons_zero, List.set_cons_succ]) (hCont (A5, c5, wd.heap.size) _ hW)
                  rintro ⟨A5, c5, b⟩ wz hW
                  dsimp only at hW ⊢
                  obtain ⟨hbx, hbl⟩ := hW.hx b rfl
                  have hbc0 := blk_cell hbx 0
                  have hbc1 := blk_cell hbx 1
                  have hbc2 := blk_cell hbx 2
                  have hbf := blk_frozen hbx
                  have hHeld : wz.cell? ⟨b12, 0, none⟩ = some (.slice A3 L.length c3) ∧ wz.cell? ⟨b15, 0, none⟩ = some (.slice (some ad) L1.length c6) ∧ wz.cell? (ad.add (i * 3)) = some (.string p) := ⟨(Below.cell hW.hb (cell_lt2 md0)).trans md0, (Below.cell hW.hb (cell_lt2 md1)).trans md1, (Below.cell hW.hb (cell_lt2 md2)).trans md2⟩
                  refine norm_ (a' := ?_) ?_ ?_
                  rotate_left
                  · simp only [putAll, Act.put, List.setIfInBounds_toArray, List.set_cons_zero, List.set_cons_succ]
                    rfl
                  refine last_ (i := 12) (N := none) #[true, true, true, true, true, true, true, true, true, true, true, true, true, false] rfl rfl (by kernel_rfl) (by decide) (fun K hK => ?_)
                  refine skip_ (w1 := ?_) (by rfl) rfl ?_ ?_
                  rotate_left
                  · go_simp
                    rfl
                  refine hK.out _ _ ?_
                  clear hK K
                  refine pure_ (i := 13) (N := some 22) (v := ?_) (a' := ?_) #[true, true, true, true, true, true, true, true, true, true, true, true, true, true] rfl rfl (by kernel_rfl) (fun _ _ _ h => h) (Or.inl ⟨by rfl, ?_⟩) ?_ ?_
                  rotate_left
                  · intro w'
                    go_simp
                    with_reducible rfl
                  rotate_left
                  · simp only [Act.put, List.setIfInBounds_toArray, List.set_cons_zero, List.set_cons_succ, i64_w, i32_w]
                    rfl
                  refine done_ (by kernel_rfl) ?_
                  have hby := ((hW.hb.setCell (p := ⟨b, 0, none⟩) hbl (.string r1)).setCell (p := ⟨b, 1, none⟩) hbl (.bool r2)).setCell (p := ⟨b, 2, none⟩) hbl (.slice A5 r3.length c5)
                  generalize ((wz.setCell ⟨b, 0, none⟩ (.string r1)).setCell ⟨b, 1, none⟩ (.bool r2)).setCell ⟨b, 2, none⟩ (.slice A5 r3.length c5) = wy at *
                  have hbr := HBd.out.trans (hby.mono HBd.out.size)
                  have m15 := blk_cell ((hbr.block _ (blk_lt HB15.out)).trans HB15.out) 0
                  have k0 := (hbr.cell (World.block_lt_of_cell? wN _ HK0.out)).trans HK0.out
                  have hlk := (HMP.out.below hbr).look (okG_le HXZ.out)
                  have HBR := Aside0.mk hbr
                  clear hW hbx hbl hbc0 hbc1 hbc2 hbf hby hHeld md0 md1 md2 hbr
                  by_cases hE : E1 = 0
                  · have g1 : (E1 != 0) = false := by rw [hE]; rfl
                    clear hE hlk
                    go_wp2_with (fail)
                    go_roundg (L1.length - (i + 1))
                    case measure => exact HMS.out.1
                    case rel => exact ⟨i + 1, HMS.out.2, rfl, by first | rfl | rw [hwi], HBR.out⟩
                  · have g1 : (E1 != 0) = true := bne_iff_ne.2 hE
                    rw [HNE.out hE] at hlk
                    clear hE
                    go_wp2_with (fail)
                    go_roundg (L1.length - (i + 1))
                    case measure => exact HMS.out.1
                    case rel => exact ⟨i + 1, HMS.out.2, rfl, by first | rfl | rw [hwi], HBR.out⟩
                · have a1 : decide ((i : Int) < (L1.length : Int)) = false := decide_eq_false (by omega)
                  have HBR := Aside0.mk hbr
                  clear hbr
                  go_wp2_with (fail)
                  go_ret
                  exact ⟨rfl, HBN.out.trans (HBR.out.mono HBN.out.size)⟩
end Go.Proofs.YtidlldfghkaeeaaDoor.P
