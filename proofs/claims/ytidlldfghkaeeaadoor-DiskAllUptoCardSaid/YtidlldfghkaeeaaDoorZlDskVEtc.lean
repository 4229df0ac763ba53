/- Put together by pack2.py: DskV, DskL, Opens, OpenU -/
import Derived.Test.YtidlldfghkaeeaaDoorZlPfSlicesContainsIntIntEtc
import Derived.Test.YtidlldfghkaeeaaDoorZlDskF
import Derived.Test.YtidlldfghkaeeaaDoorZlW0
import Derived.ChangeArms
import Derived.DataReads
import Derived.ChangeOld
import Derived.Test.YtidlldfghkaeeaaDoorRows
section
namespace Go.Proofs.YtidlldfghkaeeaaDoor.P
open Go.RowKit Go.Proofs.YtidlldfghkaeeaaDoorW.PrintWords Go.Proofs.YtidlldfghkaeeaaDoorW.PrintLast Go.Proofs.YtidlldfghkaeeaaDoorW.PrintMore
set_option linter.unusedVariables false
set_option linter.unusedSimpArgs false
set_option maxHeartbeats 8000000 in
set_option maxRecDepth 100000 in
theorem Waits_calls (W : World) (B g : Nat) (s : Dk) (vn vl vw vk : Value) (h : At W B g s vn vl vw vk) (hw : s.waits.length ≤ 100000) (hz : ∀ x ∈ s.waits, x.f3.length ≤ 1000000000000) :
    Calls Tryd.prog 56 #[.pointer (some ⟨g, 0, none⟩)] W fun e w' => ∃ v, e = .returned v ∧ Kd.N k61 61 w' W.heap.size (fun k => W.heap.size ≤ k) v s.waits ∧ Below W.heap.size W w' := by
  have hu101 := Tryd.underlying101
  have hu61 := Tryd.underlying61
  have HH := Aside0.mk h
  have HW := Aside0.mk hw
  have HZ := Aside0.mk hz
  obtain ⟨c0, c1, c2, c3, c4, c5, c6, c7, c8⟩ := h.cells
  obtain ⟨Aw, cw, hvw⟩ := Kd.N_slice h.w
  subst hvw
  clear h hw hz c0 c1 c2 c4 c5 c6 c7 c8
  go_enter Tryd.func56, Tryd.ntmps56
  go_wp2_with (fail)
  go_loopg [3, 5, 11, 12, 13, 14, 15, 16, 17, 18, 19, 20] s.waits.length (fun gg s3 _ s11 _ _ _ _ _ _ _ _ _ wr => ∃ (i : Nat) (A : Option Addr) (m c : Nat), i ≤ s.waits.length ∧ gg = s.waits.length - i ∧ s11 = .int .i64 i ∧ s3 = .slice A m c ∧ Kd.N k61 61 wr W.heap.size (fun k => W.heap.size ≤ k) (.slice A m c) (s.waits.take i) ∧ Below W.heap.size W wr)
  case atStart => exact ⟨0, none, 0, 0, Nat.zero_le _, rfl, rfl, rfl, Kd.N_nil _ _ _ _ _, Below.refl _ _⟩
  case round =>
    obtain ⟨i, A7, m7, c7, hi, rfl, rfl, rfl, hN, hb⟩ := hrel
    by_cases a : i < s.waits.length
    · have a1 : decide ((i : Int) < (s.waits.length : Int)) = true := decide_eq_true (by omega)
      have hC := Kd.C_below (Kd.N_reads' HH.out.w).2.2 hb
      obtain ⟨ad, A3, c3', ead, K0, K1, K2, K3, hc3, hC3⟩ := at_T61 hC (i : Int) (by omega) (by omega)
      rw [rd61 a, Int.toNat_natCast] at K0 K1 K2 K3
      rw [rd61 a] at hc3 hC3
      subst ead
      have ht : s.waits.take (i + 1) = s.waits.take i ++ [s.waits[i]] := by rw [List.take_add_one, List.getElem?_eq_getElem a]; rfl
      have hz := HZ.out _ (List.getElem_mem a)
      obtain ⟨X, hX⟩ : ∃ X, X = s.waits[i] := ⟨_, rfl⟩
      rw [← hX] at K0 K1 K2 K3 hc3 hC3 ht hz
      have HT := Aside0.mk ht
      have HN := Aside0.mk hN
      have HC3 := Aside0.mk hC3
      clear hX hC ht hN hC3
      go_wp2_with (fail)
      have hbs := below_alloc (Below.refl wr.heap.size wr) (.cells #[.int .i64 X.f0, .string X.f1, .string X.f2, .slice A3 X.f3.length c3'] 61)
      refine (disk_Change_own.calls X.f0 X.f1 X.f2 A3 c3' X.f3 X.f0 X.f1 X.f2 X.f3 _ (Kd.C_below HC3.out hbs) hc3 (own61_eq hz)).mono ?_
      rintro e wB ⟨v5, rfl, hR5, hbB⟩
      obtain ⟨A5, c5, rfl⟩ := Kd.R_slice hR5
      have hsz : (wr.alloc (.cells #[.int .i64 X.f0, .string X.f1, .string X.f2, .slice A3 X.f3.length c3'] 61)).heap.size = wr.heap.size + 1 := World.size_alloc _ _
      generalize wr.alloc (.cells #[.int .i64 X.f0, .string X.f1, .string X.f2, .slice A3 X.f3.length c3'] 61) = wa at *
      have hFK : Kd.FK k61 wB (fun k => wa.heap.size ≤ k ∧ k < wB.heap.size) X [.int .i64 X.f0, .string X.f1, .string X.f2, .slice A5 X.f3.length c5] := k61_mkF wB _ X (Kd.R_reads' hR5).2.1 (Kd.R_F (Kd.R_mono (Kd.R_bound hR5) fun k hk => ⟨hk.2.1, hk.2.2.1⟩))
      have hbT := hb.trans ((hbs.mono hb.size))
      have hbU := hbT.trans (hbB.mono hbT.size)
      have hNB := Kd.N_below (Kd.N_below HN.out hbs) hbB
      have hlt := Kd.N_lt HN.out
      have hszB := hbB.size
      have hsz0 := hb.size
      have hll : ((s.waits.take i).length + 1) * 64 ≤ 140737488355328 := by
        have := HW.out
        rw [List.length_take]
        omega
      have HNB := Aside0.mk hNB
      have HFK := Aside0.mk hFK
      have HBU := Aside0.mk hbU
      clear hNB hFK hbU hbT hbs hbB hR5 HC3 HN K0 K1 K2 K3 hb
      dsimp only
      go_wp2_with (at_builtin; refine Kd.N_append k61 (w0 := W) W.heap.size rfl (.tmp 15) (.tmp 18) 56 61 _ 64 rfl Tryd.underlying56 info61 rfl (by decide) (by omega) (.slice A7 m7 c7) (s.waits.take i) X [.int .i64 X.f0, .string X.f1, .string X.f2, .slice A5 X.f3.length c5] (fun k => W.heap.size ≤ k) (fun k => wa.heap.size ≤ k ∧ k < wB.heap.size) rfl rfl HFK.out (fun k hk => ⟨by omega, fun e => by have := hlt k e.symm; omega⟩) (fun k hk => by omega) HNB.out HBU.out HBU.out.size hll ?_; intro v1 w1 hN1 hB1 hG1 hat1)
      rw [← HT.out] at hN1
      obtain ⟨A8, c8, rfl⟩ := Kd.N_slice hN1
      obtain ⟨m8, hm8⟩ : ∃ m8, m8 = (s.waits.take (i + 1)).length := ⟨_, rfl⟩
      rw [← hm8] at hN1 ⊢
      clear hm8
      have hw1 : wrap64 ((i : Int) + 1) = ((i + 1 : Nat) : Int) := by have := HW.out; exact wr1 (by omega)
      have HN1 := Aside0.mk hN1
      clear hN1 hG1 hat1 hlt
      go_wp2_with (fail)
      go_roundg (s.waits.length - (i + 1))
      case measure => omega
      case rel => exact ⟨i + 1, A8, m8, c8, by omega, rfl, by first | rfl | rw [hw1], rfl, HN1.out, hB1⟩
    · have a1 : decide ((i : Int) < (s.waits.length : Int)) = false := decide_eq_false (by omega)
      rw [List.take_of_length_le (by omega)] at hN
      have HN := Aside0.mk hN
      clear hN
      go_wp2_with (fail)
      go_ret
      exact ⟨_, rfl, HN.out, hb⟩
end Go.Proofs.YtidlldfghkaeeaaDoor.P
end
section
namespace Go.Proofs.YtidlldfghkaeeaaDoor.P
open Go.RowKit Go.Proofs.YtidlldfghkaeeaaDoorW.PrintWords Go.Proofs.YtidlldfghkaeeaaDoorW.PrintLast Go.Proofs.YtidlldfghkaeeaaDoorW.PrintMore
set_option linter.unusedVariables false
set_option linter.unusedSimpArgs false
def rep1 (l : List S30) (c : S61) : List S30 := if (done0 l c).2 = 0 then (done0 l c).1 else l
/-- What holds of the disk behind i changes. -/
structure Ai (i : Nat) (s : Dk) : Prop where
  off : s.off = false
  fu : s.fuse ≤ 0
  wl : s.waits.length ≤ i
  rep : s.waits.foldl rep1 [] = s.now
  la : s.last = []
  okw : ∀ x ∈ s.waits, okG x
theorem do0_Ai {i : Nat} {s : Dk} {c : S61} (h : Ai i s) (hg : GT30 s.now) (hc : okG c) : GT30 (do0 s c).1.now ∧ Ai (i + 1) (do0 s c).1 := by
  have hs : Ai (i + 1) s := ⟨h.off, h.fu, by have := h.wl; omega, h.rep, h.la, h.okw⟩
  have hgt := done0_GT (c := c) hg
  unfold do0
  rw [if_neg (by rw [h.off]; exact Bool.false_ne_true)]
  by_cases h1 : (done0 s.now c).2 ≠ 0
  · rw [if_pos h1]
    exact ⟨hg, hs⟩
  · rw [if_neg h1]
    by_cases h2 : (nB30 (done0 s.now c).1 : Int) > s.q ∧ nB30 (done0 s.now c).1 > nB30 s.now
    · rw [if_pos h2]
      exact ⟨hg, hs⟩
    · rw [if_neg h2]
      refine ⟨hgt, ⟨h.off, h.fu, ?_, ?_, h.la, ?_⟩⟩
      · show (s.waits ++ [c]).length ≤ i + 1
        rw [List.length_append, List.length_singleton]
        have := h.wl
        omega
      · show (s.waits ++ [c]).foldl rep1 [] = (done0 s.now c).1
        rw [List.foldl_append, h.rep]
        show rep1 s.now c = _
        rw [rep1, if_pos (Decidable.not_not.1 h1)]
      · intro x hx
        rcases List.mem_append.1 hx with hx | hx
        · exact h.okw x hx
        · rw [List.mem_singleton.1 hx]; exact hc
theorem fallN_rep (keep : List Int) (ws : List S61) : ∀ i, i ≤ ws.length → (∀ j : Nat, j < i → (j : Int) ∈ keep) → fallN keep (-1) ws [] i = (ws.take i).foldl rep1 []
  | 0, _, _ => rfl
  | i + 1, hi, hk => by
    have ih := fallN_rep keep ws i (by omega) fun j hj => hk j (by omega)
    have hi' : i < ws.length := by omega
    rw [fallN, List.getElem?_eq_getElem hi', ih, List.take_add_one, List.getElem?_eq_getElem hi', List.foldl_append]
    show fall1 keep (-1) _ i ws[i] = rep1 _ ws[i]
    have hcc : cutC (-1) ws[i] = ws[i] := by
      unfold cutC
      rw [if_neg (fun h => by have := h.2; omega)]
    rw [fall1, if_pos (hk i (by omega)), hcc]
    rfl
/-- The numbers ahead of n. -/
def ups (n : Nat) : List Int := List.map (fun j : Nat => (j : Int)) (List.range n)
theorem ups_succ (n : Nat) : ups (n + 1) = ups n ++ [(n : Int)] := by
  unfold ups
  rw [List.range_succ, List.map_append]
  rfl
theorem ups_len (n : Nat) : (ups n).length = n := by simp [ups]
theorem ups_mem {n j : Nat} (h : j < n) : (j : Int) ∈ ups n := List.mem_map.2 ⟨j, List.mem_range.2 h, rfl⟩
set_option maxHeartbeats 8000000 in
set_option maxRecDepth 100000 in
theorem DiskAll_calls (A1 : Option Addr) (c1 : Nat) (l : List S61) (W : World) (hC : Kd.C k61 W A1 l.length l) (hc : l.length ≤ c1) (hz : ∀ x ∈ l, x.f1.size < 4294967280 ∧ x.f2.size < 4294967280) :
    Calls Tryd.prog 11 #[.slice A1 l.length c1] W fun e w' => e = .returned (.bool true) ∧ Below W.heap.size W w' := by
  have hu26 := Tryd.underlying26
  have hu61 := Tryd.underlying61
  have HCC := Aside0.mk hC
  have HZ := Aside0.mk hz
  clear hC hz
  go_enter Tryd.func11, Tryd.ntmps11
  go_wp2_with (fail)
  refine (awake9_calls W).mono ?_
  rintro e W0 ⟨rfl, hb0⟩
  dsimp only
  by_cases hl : 30 < l.length
  · have p1 : decide ((30 : Int) < (l.length : Int)) = true := decide_eq_true (by omega)
    go_wp2_with (fail)
    go_ret
    exact ⟨rfl, hb0⟩
  · have p1 : decide ((30 : Int) < (l.length : Int)) = false := decide_eq_false (by omega)
    go_wp2_with (fail)
    refine (New_calls 16384 W0 (by decide)).mono ?_
    rintro e W1 ⟨g, vn, vl, rfl, hX1, hb1⟩
    obtain ⟨B, hB⟩ : ∃ B, B = W0.heap.size := ⟨_, rfl⟩
    rw [← hB] at hX1
    have HBW : Aside0 (W.heap.size ≤ B) := ⟨by rw [hB]; exact hb0.size⟩
    have HB1W := Aside0.mk (hb0.trans (hb1.mono hb0.size))
    obtain ⟨vk, hvk⟩ : ∃ vk, vk = Value.slice none 0 0 := ⟨_, rfl⟩
    have HX0 : Aside0 (At W1 B g ⟨16384, [], [], [], false, 0, 0, [], 0⟩ vn vl (.slice none 0 0) vk) := ⟨by rw [hvk]; exact hX1⟩
    have HA0 : Aside0 (Ai 0 ⟨16384, [], [], [], false, 0, 0, [], 0⟩) := ⟨⟨rfl, Int.le_refl _, Nat.le_refl _, rfl, rfl, fun x hx => by cases hx⟩⟩
    clear hvk hX1 hb0 hb1 hB
    dsimp only
    go_wp2_with (fail)
    go_loopg [6, 21, 22, 23, 24, 25, 26, 27, 28, 29, 30, 31, 32, 33, 34, 35, 36, 37, 38, 39] l.length (fun gg s6 _ _ _ _ _ _ _ _ _ _ _ _ _ _ _ _ _ _ _ wr => ∃ (i : Nat) (s : Dk) (vn vw : Value), i ≤ l.length ∧ gg = l.length - i ∧ s6 = .int .i64 i ∧ At wr B g s vn vl vw vk ∧ Below W.heap.size W wr ∧ GT30 s.now ∧ Ai i s)
    case atStart => exact ⟨0, _, vn, _, Nat.zero_le _, rfl, rfl, HX0.out, HB1W.out, GT_nil30, HA0.out⟩
    case round =>
      clear HB1W
      obtain ⟨i, s, vn, vw, hi, rfl, rfl, hX, hb, hgt, hAi⟩ := hrel
      by_cases a : i < l.length
      · have a1 : decide ((i : Int) < (l.length : Int)) = true := decide_eq_true (by omega)
        obtain ⟨ad, A3, c3, ead, K0, K1, K2, K3, hc3, hC3⟩ := at_T61 HCC.out (i : Int) (by omega) (by omega)
        rw [rd61 a] at K0 K1 K2 K3 hc3 hC3
        subst ead
        have hmem := HZ.out _ (List.getElem_mem a)
        obtain ⟨c, hcq⟩ : ∃ c, c = l[i] := ⟨_, rfl⟩
        rw [← hcq] at K0 K1 K2 K3 hc3 hC3 hmem
        clear hcq
        rw [Int.toNat_natCast] at K0 K1 K2 K3
        have k0 := (hb.cell (World.block_lt_of_cell? W _ K0)).trans K0
        have k1 := (hb.cell (World.block_lt_of_cell? W _ K1)).trans K1
        have k2 := (hb.cell (World.block_lt_of_cell? W _ K2)).trans K2
        have k3 := (hb.cell (World.block_lt_of_cell? W _ K3)).trans K3
        have HX := Aside0.mk hX
        have HB1W := Aside0.mk hb
        have HGT := Aside0.mk hgt
        have HAI := Aside0.mk hAi
        have HC3 := Aside0.mk hC3
        clear K0 K1 K2 K3 hX hb hgt hAi hC3
        by_cases hl3 : 2100 < c.f3.length
        · have p2 : decide ((2100 : Int) < (c.f3.length : Int)) = true := decide_eq_true (by omega)
          go_wp2_with (fail)
          go_ret
          exact ⟨rfl, HB1W.out⟩
        · have p2 : decide ((2100 : Int) < (c.f3.length : Int)) = false := decide_eq_false (by omega)
          have hgc : okG c := ⟨hmem.1, hmem.2, by omega⟩
          have HGC := Aside0.mk hgc
          clear hmem hgc
          go_wp2_with (fail)
          refine (Do_calls wr B g s vn vl vw vk c A3 c3 HX.out HAI.out.fu HGT.out (Kd.C_kept_came (Kd.heap_int .u8) HC3.out HB1W.out fun k h => ?_) hc3 HGC.out (by have := HAI.out.wl; omega)).mono ?_
          · have h1 := HBW.out
            rcases h with h | h
            · rw [h]; exact Nat.le_trans h1 HX.out.hB
            · exact Nat.le_trans h1 (Kd.N_base HX.out.w k h)
          rintro e W2 ⟨vn2, vw2, rfl, hX2, _, hB2⟩
          obtain ⟨hgt2, hA2⟩ := do0_Ai (c := c) HAI.out HGT.out HGC.out
          obtain ⟨s', f, hsf⟩ : ∃ s' f, do0 s c = (s', f) := ⟨_, _, rfl⟩
          rw [hsf] at hX2 hgt2 hA2 ⊢
          dsimp only at hX2 hgt2 hA2 ⊢
          have HX2 := Aside0.mk hX2
          have HB2 := Aside0.mk hB2
          have HA2 := Aside0.mk hA2
          have HGT2 := Aside0.mk hgt2
          clear hX2 hB2 hA2 hgt2 hsf k0 k1 k2 k3
          have hwi : wrap64 ((i : Int) + 1) = ((i + 1 : Nat) : Int) := wr1 (by omega)
          go_wp2_with (fail)
          go_roundg (l.length - (i + 1))
          case measure => omega
          case rel => exact ⟨i + 1, s', vn2, vw2, by omega, rfl, by first | rfl | rw [hwi], HX2.out, HB1W.out.trans (HB2.out.mono HBW.out), HGT2.out, HA2.out⟩
      · have a1 : decide ((i : Int) < (l.length : Int)) = false := decide_eq_false (by omega)
        have HX := Aside0.mk hX
        have HB1W := Aside0.mk hb
        have HGT := Aside0.mk hgt
        have HAI := Aside0.mk hAi
        clear hX hb hgt hAi
        go_wp2_with (fail)
        refine (Now_calls wr B g s vn vl vw vk HX.out (GT_okC HGT.out)).mono ?_
        rintro e W3 ⟨v3, rfl, hv3, hb3⟩
        obtain ⟨A3, c3, rfl⟩ := Kd.V_slice hv3
        have hbox := below_alloc (Below.refl W3.heap.size W3) (.cells #[.slice A3 s.now.length c3] 26)
        have hk7 := blk_new W3 (.cells #[.slice A3 s.now.length c3] 26)
        have hX3 := HX.out.below hb3
        have HX4 := Aside0.mk (hX3.below hbox)
        have HB4 := Aside0.mk (hX3.thenB ((HX.out.thenB (Below.refl B wr) hb3)) hbox)
        have HV4 := Aside0.mk (Kd.V_below (Kd.V_bound hv3) hbox)
        have hgb : g < W3.heap.size := blk_lt hX3.hg
        have HO4 : Aside0 (∀ k, vw.ownBlock = some k → k < W3.heap.size) := ⟨Kd.N_lt hX3.w⟩
        have hs3 := hb3.size
        clear hv3 hb3 hX3 hbox
        dsimp only
        go_wp2_with (fail)
        have hb7g : g < W3.heap.size := hgb
        have hW5s : (W3.alloc (.cells #[.slice A3 s.now.length c3] 26)).heap.size = W3.heap.size + 1 := World.size_alloc _ _
        generalize W3.alloc (.cells #[.slice A3 s.now.length c3] 26) = W5 at *
        obtain ⟨b7, hb7⟩ : ∃ b7, b7 = W3.heap.size := ⟨_, rfl⟩
        rw [← hb7] at hk7 hb7g hW5s ⊢
        have HK7 := Aside0.mk hk7
        have HG7 := Aside0.mk hb7g
        have HS5 := Aside0.mk hW5s
        have HWRS : Aside0 (g < wr.heap.size) := ⟨blk_lt HX.out.hg⟩
        clear hk7 hb7g hgb hW5s hb7 hs3
        obtain ⟨n2, hn2⟩ : ∃ n2, n2 = s.waits.length := ⟨_, rfl⟩
        have HN2 := Aside0.mk hn2
        have hn40 : n2 ≤ 1000 := by have := HAI.out.wl; omega
        clear hn2
        go_loopg [5, 8, 42, 43, 44, 45, 46, 47, 48, 49, 50, 51, 52] n2 (fun gg s5 s8 _ _ _ _ _ _ _ _ _ _ _ wr => ∃ (j : Nat) (A : Option Addr) (m c : Nat), j ≤ n2 ∧ gg = n2 - j ∧ s8 = .int .i64 j ∧ s5 = .slice A m c ∧ Kd.R (Kd.int .i64) 3 wr W5.heap.size (fun k => W5.heap.size ≤ k) (.slice A m c) (ups j) ∧ Below W5.heap.size W5 wr)
        case atStart => exact ⟨0, none, 0, 0, Nat.zero_le _, rfl, rfl, rfl, Kd.R_nil _ _ _ _ _, Below.refl _ _⟩
        case round =>
          obtain ⟨j, Ak, mk, ck, hj, rfl, rfl, rfl, hR, hbq⟩ := hrel
          have HR := Aside0.mk hR
          have HBQ := Aside0.mk hbq
          clear hR hbq
          go_wp2_with (fail)
          refine (Waits_calls wr B g s vn vl vw vk (HX4.out.below HBQ.out) (by have := HAI.out.wl; omega) (fun x hx => (HAI.out.okw x hx).2.2)).mono ?_
          rintro e W6 ⟨v6, rfl, hN6, hb6⟩
          obtain ⟨A6, c6, rfl⟩ := Kd.N_slice hN6
          have HR6 := Aside0.mk (Kd.R_below HR.out hb6)
          have HB6 := Aside0.mk (HBQ.out.trans (hb6.mono HBQ.out.size))
          rw [← HN2.out]
          clear hN6 hb6 HR HBQ
          dsimp only
          by_cases a2 : j < n2
          · have p3 : decide ((j : Int) < (n2 : Int)) = true := decide_eq_true (by omega)
            have hwi : wrap64 ((j : Int) + 1) = ((j + 1 : Nat) : Int) := wr1 (by omega)
            go_wp2_with (at_builtin; refine Kd.R_append (Kd.int .i64) (w0 := W5) W5.heap.size rfl (.tmp 49) (.tmp 51) 78 3 (.int .i64 0) 8 rfl Tryd.underlying78 info3 rfl (by decide) (by omega) (.slice Ak mk ck) (ups j) (j : Int) [.int .i64 (j : Int)] (fun k => W5.heap.size ≤ k) (fun _ => False) rfl rfl (by first | rfl | exact ⟨rfl⟩ | trivial) (fun _ hk => hk.elim) (fun k hk => Nat.le_trans HB6.out.size hk) HR6.out HB6.out HB6.out.size (by rw [ups_len]; omega) ?_; intro v1 w1 hR1 hB1 hG1 hat1)
            rw [← ups_succ] at hR1
            obtain ⟨A8, c8, rfl⟩ := Kd.R_slice hR1
            obtain ⟨m8, hm8⟩ : ∃ m8, m8 = (ups (j + 1)).length := ⟨_, rfl⟩
            rw [← hm8] at hR1 ⊢
            have HR1 := Aside0.mk hR1
            clear hm8 hR1 hG1 hat1
            go_wp2_with (fail)
            go_roundg (n2 - (j + 1))
            case measure => omega
            case rel => exact ⟨j + 1, A8, m8, c8, by omega, rfl, by first | rfl | rw [hwi], rfl, HR1.out, hB1⟩
          · have p3 : decide ((j : Int) < (n2 : Int)) = false := decide_eq_false (by omega)
            obtain rfl : j = n2 := by omega
            obtain ⟨kp, hkp⟩ : ∃ kp, kp = ups j := ⟨_, rfl⟩
            obtain ⟨A7, c7, e7⟩ := Kd.R_slice HR6.out
            injection e7 with e7a e7b e7c
            have hkl : kp.length = j := by rw [hkp, ups_len]
            have hmk : mk = kp.length := by rw [e7b, hkp]
            subst hmk
            have HKQ := Aside0.mk hkp
            have HKL := Aside0.mk hkl
            have HRK : Aside0 (Kd.R (Kd.int .i64) 3 W6 W5.heap.size (fun k => W5.heap.size ≤ k) (.slice Ak kp.length ck) kp) := ⟨by have h := HR6.out; rw [← hkp] at h; exact h⟩
            clear e7a e7b e7c hkp hkl HR6
            go_wp2_with (fail)
            have hX6 := HX4.out.below HB6.out
            refine (Crash_calls W6 B g s vn vl vw vk Ak ck kp (-1) hX6 (by have := HAI.out.wl; omega) HAI.out.off (by rw [HAI.out.la]; exact GT_nil30) HAI.out.okw (Kd.C_kept_own HRK.out fun k hk e => by have := HS5.out; have := HG7.out; omega) (Kd.R_reads' HRK.out).2.1 (by rw [HKL.out]; omega)).mono ?_
            rintro e W7 ⟨vl7, rfl, hX7, hK7, hB7⟩
            have hL : fallN kp (-1) s.waits s.last s.waits.length = s.now := by
              rw [HAI.out.la, fallN_rep kp s.waits s.waits.length (Nat.le_refl _) (fun i hi => by rw [HKQ.out]; exact ups_mem (by have := HN2.out; omega)), List.take_length, HAI.out.rep]
            rw [hL] at hX7
            have HXD := Aside0.mk (hX7.below (below_drew (Below.refl _ _)))
            have hV7 := Kd.V_kept (Kd.V_below HV4.out HB6.out) hK7 (fun k hk e => by
              have h1 := HWRS.out
              rcases hk.1 with h | h
              · exact h.2.1 e
              · omega)
            have HCN := Aside0.mk (Kd.C_drew (Kd.V_reads' hV7).2.2)
            have HCL := Aside0.mk (Kd.V_reads' hV7).2.1
            have hb7' : W7.heap[b7]? = _ := (hK7.2 b7 (blk_lt ((HB6.out.block _ (blk_lt HK7.out)).trans HK7.out)) (fun e => by have := HG7.out; omega)).trans ((HB6.out.block _ (blk_lt HK7.out)).trans HK7.out)
            have md : W7.drew.cell? ⟨b7, 0, none⟩ = some (.slice A3 s.now.length c3) := blk_cell hb7' 0
            have HBD : Aside0 (Below W.heap.size W W7.drew) := ⟨((HB1W.out.trans (HB4.out.mono HBW.out)).trans ((HX4.out.thenB (Below.refl B _) HB6.out).mono HBW.out)).trans (hB7.mono HBW.out) |>.drew⟩
            clear hX6 hX7 hK7 hB7 hL hV7 hb7'
            dsimp only
            go_wp2_with (fail)
            refine start_ (n := 11) (S := fun w' => w'.cell? ⟨b7, 0, none⟩ = some (.slice A3 s.now.length c3)) (ds := []) #[false, false, false, false, false, false, false, false, false, false, false] (by kernel_rfl) rfl rfl (md) (fun hHeld => ?_)
            generalize W7.drew = wd at md HXD HCN HBD hHeld ⊢
            refine pure_ (i := 0) (N := some 56) (v := ?_) (a' := ?_) #[true, false, false, false, false, false, false, false, false, false, false] rfl rfl (by kernel_rfl) (fun _ _ _ h => h) (Or.inl ⟨by rfl, ?_⟩) ?_ ?_
            rotate_left
            · intro w'
              go_simp
              with_reducible rfl
            rotate_left
            · simp only [Act.put, List.setIfInBounds_toArray, List.set_cons_zero, List.set_cons_succ, i64_w, i32_w]
              rfl
            refine take_ (i := 2) (N := some 58) (v := ?_) (a' := ?_) #[true, false, true, false, false, false, false, false, false, false, false] rfl rfl (by kernel_rfl) (fun _ _ _ h => h) (Or.inl ⟨by rfl, ?_⟩) hHeld ?_ ?_
            rotate_left
            · intro w' s0
              go_simp
              with_reducible rfl
            rotate_left
            · simp only [Act.put, List.setIfInBounds_toArray, List.set_cons_zero, List.set_cons_succ, i64_w, i32_w]
              rfl
            refine one_ (i := 1) (N := some 57) #[true, true, true, false, false, false, false, false, false, false, false] rfl rfl (by kernel_rfl) (by decide) (fun K hK => ?_)
            refine goes_ Tryd.func35 (by kernel_rfl) rfl #[.pointer (some ⟨g, 0, none⟩)] (by rfl) rfl rfl (by simp only [List.map_toArray, List.map_cons, List.map_nil]; rfl) ?_
            with_reducible refine (Now_calls wd B g _ _ _ _ _ HXD.out (GT_okC HGT.out)).mono ?_
            rintro e wA ⟨vA, rfl, hvA, hbA⟩
            refine ⟨_, rfl, ?_⟩
            obtain ⟨A8, c8, rfl⟩ := Kd.V_slice hvA
            refine hK.out _ _ ((Below.cell hbA (cell_lt2 md)).trans md) (fun hHeld => ?_)
            clear hK K
            refine norm_ (a' := ?_) ?_ ?_
            rotate_left
            · show Act.put _ (some 57) _ = _
              simp only [Act.put, List.setIfInBounds_toArray, List.set_cons_zero, List.set_cons_succ, i64_w, i32_w]
              rfl
            refine one_ (i := 3) (N := some 59) #[true, true, true, true, false, false, false, false, false, false, false] rfl rfl (by kernel_rfl) (by decide) (fun K hK => ?_)
            refine goes_ Tryd.func20 (by kernel_rfl) rfl #[.agg #[.slice A8 s.now.length c8], .agg #[.slice A3 s.now.length c3]] (by rfl) rfl rfl (by simp only [List.map_toArray, List.map_cons, List.map_nil]; rfl) ?_
            with_reducible refine (tree_Same.calls A8 c8 s.now A3 c3 s.now true wA (Kd.V_reads' hvA).2.2 (Kd.V_reads' hvA).2.1 (Kd.C_below HCN.out hbA) HCL.out (tree_Same.self (GT_okT HGT.out) HGT.out)).mono ?_
            rintro e wAs ⟨rfl, hbwAs⟩
            refine ⟨_, rfl, ?_⟩
            have hbB := hbA.trans (hbwAs.mono hbA.size)
            refine hK.out _ _ ((Below.cell hbB (cell_lt2 md)).trans md) (fun hHeld => ?_)
            clear hK K
            refine norm_ (a' := ?_) ?_ ?_
            rotate_left
            · show Act.put _ (some 59) _ = _
              simp only [Act.put, List.setIfInBounds_toArray, List.set_cons_zero, List.set_cons_succ, i64_w, i32_w]
              rfl
            refine pure_ (i := 4) (N := some 60) (v := ?_) (a' := ?_) #[true, true, true, true, true, false, false, false, false, false, false] rfl rfl (by kernel_rfl) (fun _ _ _ h => h) (Or.inl ⟨by rfl, ?_⟩) ?_ ?_
            rotate_left
            · intro w'
              go_simp
              with_reducible rfl
            rotate_left
            · simp only [Act.put, List.setIfInBounds_toArray, List.set_cons_zero, List.set_cons_succ, i64_w, i32_w]
              rfl
            refine pure_ (i := 5) (N := some 61) (v := ?_) (a' := ?_) #[true, true, true, true, true, true, false, false, false, false, false] rfl rfl (by kernel_rfl) (fun _ _ _ h => h) (Or.inl ⟨by rfl, ?_⟩) ?_ ?_
            rotate_left
            · intro w'
              go_simp
              with_reducible rfl
            rotate_left
            · simp only [Act.put, List.setIfInBounds_toArray, List.set_cons_zero, List.set_cons_succ, i64_w, i32_w]
              rfl
            refine take_ (i := 7) (N := some 63) (v := ?_) (a' := ?_) #[true, true, true, true, true, true, false, true, false, false, false] rfl rfl (by kernel_rfl) (fun _ _ _ h => h) (Or.inl ⟨by rfl, ?_⟩) hHeld ?_ ?_
            rotate_left
            · intro w' s0
              go_simp
              with_reducible rfl
            rotate_left
            · simp only [Act.put, List.setIfInBounds_toArray, List.set_cons_zero, List.set_cons_succ, i64_w, i32_w]
              rfl
            refine one_ (i := 6) (N := some 62) #[true, true, true, true, true, true, true, true, false, false, false] rfl rfl (by kernel_rfl) (by decide) (fun K hK => ?_)
            refine goes_ Tryd.func62 (by kernel_rfl) rfl #[.pointer (some ⟨g, 0, none⟩)] (by rfl) rfl rfl (by simp only [List.map_toArray, List.map_cons, List.map_nil]; rfl) ?_
            with_reducible refine (Lasts_calls wAs B g _ _ _ _ _ (HXD.out.below hbB) (GT_okC HGT.out)).mono ?_
            rintro e wC ⟨vC, rfl, hvC, hbC⟩
            refine ⟨_, rfl, ?_⟩
            obtain ⟨A9, c9, rfl⟩ := Kd.V_slice hvC
            have hbD := hbB.trans (hbC.mono hbB.size)
            refine hK.out _ _ ((Below.cell hbD (cell_lt2 md)).trans md) (fun hHeld => ?_)
            clear hK K
            refine norm_ (a' := ?_) ?_ ?_
            rotate_left
            · show Act.put _ (some 62) _ = _
              simp only [Act.put, List.setIfInBounds_toArray, List.set_cons_zero, List.set_cons_succ, i64_w, i32_w]
              rfl
            refine one_ (i := 8) (N := some 64) #[true, true, true, true, true, true, true, true, true, false, false] rfl rfl (by kernel_rfl) (by decide) (fun K hK => ?_)
            refine goes_ Tryd.func20 (by kernel_rfl) rfl #[.agg #[.slice A9 s.now.length c9], .agg #[.slice A3 s.now.length c3]] (by rfl) rfl rfl (by simp only [List.map_toArray, List.map_cons, List.map_nil]; rfl) ?_
            with_reducible refine (tree_Same.calls A9 c9 s.now A3 c3 s.now true wC (Kd.V_reads' hvC).2.2 (Kd.V_reads' hvC).2.1 (Kd.C_below HCN.out hbD) HCL.out (tree_Same.self (GT_okT HGT.out) HGT.out)).mono ?_
            rintro e wCs ⟨rfl, hbwCs⟩
            refine ⟨_, rfl, ?_⟩
            have hbE := hbD.trans (hbwCs.mono hbD.size)
            refine hK.out _ _ ((Below.cell hbE (cell_lt2 md)).trans md) (fun hHeld => ?_)
            clear hK K
            refine norm_ (a' := ?_) ?_ ?_
            rotate_left
            · show Act.put _ (some 64) _ = _
              simp only [Act.put, List.setIfInBounds_toArray, List.set_cons_zero, List.set_cons_succ, i64_w, i32_w]
              rfl
            refine pure_ (i := 9) (N := some 65) (v := ?_) (a' := ?_) #[true, true, true, true, true, true, true, true, true, true, false] rfl rfl (by kernel_rfl) (fun _ _ _ h => h) (Or.inl ⟨by rfl, ?_⟩) ?_ ?_
            rotate_left
            · intro w'
              go_simp
              with_reducible rfl
            rotate_left
            · simp only [Act.put, List.setIfInBounds_toArray, List.set_cons_zero, List.set_cons_succ, i64_w, i32_w]
              rfl
            refine pure_ (i := 10) (N := some 2) (v := ?_) (a' := ?_) #[true, true, true, true, true, true, true, true, true, true, true] rfl rfl (by kernel_rfl) (fun _ _ _ h => h) (Or.inl ⟨by rfl, ?_⟩) ?_ ?_
            rotate_left
            · intro w'
              go_simp
              with_reducible rfl
            rotate_left
            · simp only [Act.put, List.setIfInBounds_toArray, List.set_cons_zero, List.set_cons_succ, i64_w, i32_w]
              rfl
            refine done_ (by kernel_rfl) ?_
            go_wp2_with (fail)
            go_ret
            exact ⟨rfl, HBD.out.trans (hbE.mono HBD.out.size)⟩
end Go.Proofs.YtidlldfghkaeeaaDoor.P
end
section
namespace Go.Proofs.YtidlldfghkaeeaaDoorW.PrintWords
open Go.RowKit

/-- Type t's values are of kind d: whatever is read as one has cells that say some x, and x is ok. -/
structure Opn {α : Type} (P : Program) (t : TypeId) (d : Kd α) (ok : α → Prop) : Prop where
  sz : P.cellsOf t = d.sz
  opens : ∀ {H : Type} {enc : TypeId × Value → H} {W : World} {base : Nat} {spare : Nat → Bool} {held : Bool} {fuel : Nat} {cs : List Value} {x : DataW H × List MemPlace}, DataW.trod enc P W base spare held fuel t cs = some x → ∃ y, d.K W y cs ∧ ok y

theorem Opn.int {P : Program} {t : TypeId} {k : IntKind} (ht : P.underlying t = some (.int k)) (hc : P.cellsOf t = 1) : Opn P t (Kd.int k) (fun n => (Lit.int k n).wf = true) :=
  ⟨hc, fun hf => by obtain ⟨n, rfl, _, hw⟩ := DataW.trod_int ht hf; exact ⟨n, rfl, hw⟩⟩
theorem choose_list {α : Type} (R : Nat → α → Prop) : ∀ n : Nat, (∀ i, i < n → ∃ x, R i x) → ∃ xs : List α, xs.length = n ∧ ∀ i x, xs[i]? = some x → R i x
  | 0, _ => ⟨[], rfl, fun i x h => by simp at h⟩
  | n + 1, h => by
    obtain ⟨xs, hl, hx⟩ := choose_list R n (fun i hi => h i (by omega))
    obtain ⟨x, hxn⟩ := h n (by omega)
    refine ⟨xs ++ [x], by simp [hl], fun i y hy => ?_⟩
    by_cases hi : i < xs.length
    · rw [List.getElem?_append_left hi] at hy
      exact hx i y hy
    · rw [List.getElem?_append_right (by omega)] at hy
      have : i - xs.length = 0 := by
        have := (List.getElem?_eq_some_iff.1 hy).1
        simp at this
        omega
      rw [this] at hy
      simp at hy
      subst hy
      rw [show i = n by omega]
      exact hxn
/-- A struct's cells, field by field: from cell o on. -/
theorem pairK {α β : Type} {a : Kd α} {b : Kd β} {W : World} {x : α} {y : β} {cs : List Value} {o s : Nat} (_hs : s = a.sz) (h0 : a.K W x ((cs.drop o).take s)) (h1 : b.K W y (cs.drop (o + s))) : (Kd.pair a b).K W (x, y) (cs.drop o) :=
  ⟨(cs.drop o).take s, cs.drop (o + s), by rw [← List.drop_drop, List.take_append_drop], h0, h1⟩
theorem lastK {α : Type} {a : Kd α} {W : World} {x : α} {cs : List Value} {o s : Nat} (h : a.K W x ((cs.drop o).take s)) (hl : cs.length = o + s) : a.K W x (cs.drop o) := by
  rwa [List.take_of_length_le (by simp; omega)] at h
end Go.Proofs.YtidlldfghkaeeaaDoorW.PrintWords
end
section
namespace Go.Proofs.YtidlldfghkaeeaaDoorW.PrintWords
open Go.RowKit Go.Proofs.YtidlldfghkaeeaaDoor

/-- As Opn; the bulk bears on the value. -/
structure OpnU {α : Type} (P : Program) (t : TypeId) (d : Kd α) (ok : α → Prop) : Prop where
  sz : P.cellsOf t = d.sz
  opens : ∀ {H : Type} {enc : TypeId × Value → H} {W : World} {base : Nat} {spare : Nat → Bool} {held : Bool} {fuel : Nat} {cs : List Value} {x : DataW H × List MemPlace}, DataW.trod enc P W base spare held fuel t cs = some x → Rows.uptoBulk x.1 ≤ 1048576 → ∃ y, d.K W y cs ∧ ok y
theorem Opn.U {α : Type} {P : Program} {t : TypeId} {d : Kd α} {ok : α → Prop} (h : Opn P t d ok) : OpnU P t d ok := ⟨h.sz, fun hf _ => h.opens hf⟩
theorem OpnU.int {P : Program} {t : TypeId} {k : IntKind} (ht : P.underlying t = some (.int k)) (hc : P.cellsOf t = 1) : OpnU P t (Kd.int k) (fun n => (Lit.int k n).wf = true) := (Opn.int ht hc).U
theorem OpnU.string {P : Program} {t : TypeId} (ht : P.underlying t = some .string) (hc : P.cellsOf t = 1) : OpnU P t Kd.string (fun s => s.size ≤ 1048576) :=
  ⟨hc, fun hf hw => by
    obtain ⟨n, rfl, hx, _⟩ := DataW.trod_string ht hf
    refine ⟨n, rfl, ?_⟩
    subst hx
    simp only [Rows.uptoBulk] at hw
    have e : n.data.toList.length = n.size := by rw [Array.length_toList]; rfl
    omega⟩
theorem bulk_pos {H : Type} (d : DataW H) : 1 ≤ Rows.uptoBulk d := by
  unfold Rows.uptoBulk
  split <;> omega
theorem bulk_mem {H : Type} : ∀ {l : List (DataW H)} {d : DataW H}, d ∈ l → Rows.uptoBulk d ≤ Rows.uptoBulkAll l
  | d' :: r, d, hd => by
    simp only [Rows.uptoBulkAll]
    rcases List.mem_cons.1 hd with h | h
    · rw [h]; omega
    · have := bulk_mem h
      omega
theorem bulk_len {H : Type} : ∀ (l : List (DataW H)), l.length ≤ Rows.uptoBulkAll l
  | [] => Nat.zero_le _
  | d :: r => by
    simp only [Rows.uptoBulkAll, List.length_cons]
    have := bulk_len r
    have := bulk_pos d
    omega
theorem OpnU.slice {α : Type} {P : Program} {t e : TypeId} {d : Kd α} {ok : α → Prop} (ht : P.underlying t = some (.slice e)) (hc : P.cellsOf t = 1) (he : OpnU P e d ok) :
    OpnU P t (Kd.slice e d) (fun xs => xs.length ≤ 1048576 ∧ ∀ x ∈ xs, ok x) := by
  refine ⟨hc, fun hf hw => ?_⟩
  rcases DataW.trod_slice ht hf with ⟨rfl, _⟩ | ⟨a, len, cap, elems, rest, n, _, rfl, hxe, hb, hl, hm, hel, hget, _, _⟩
  · exact ⟨[], ⟨none, 0, rfl, Nat.le_refl _, Kd.C_nil _ _⟩, Nat.zero_le _, fun x hx => by cases hx⟩
  · subst hxe
    simp only [Rows.uptoBulk] at hw
    obtain ⟨xs, hxl, hxs⟩ := choose_list (fun i x => ok x ∧ ∃ c, c.length = d.sz ∧ d.K _ x c ∧ ∀ j u, c[j]? = some u → World.cell? _ (a.add (i * d.sz + j)) = some u) len (fun i hi => by
      have h1 := hget i hi
      rw [List.getElem?_eq_getElem (by omega)] at h1
      obtain ⟨c, h2, h3⟩ := Option.bind_eq_some_iff.1 h1
      obtain ⟨y, hy, hok⟩ := he.opens h3 (by
        have := bulk_mem (l := elems.map (fun x => x.fst)) (List.mem_map_of_mem (List.getElem_mem (show i < elems.length by omega)))
        omega)
      obtain ⟨_, hcl, hcc⟩ := World.cells?_some h2
      rw [he.sz] at hcl hcc
      refine ⟨y, hok, c, hcl, hy, fun j u hu => ?_⟩
      have hj : j < d.sz := by rw [← hcl]; exact (List.getElem?_eq_some_iff.1 hu).1
      have := hcc j hj
      rw [add_add] at this
      rw [this, hu])
    refine ⟨xs, ⟨some a, cap, by rw [hxl], by omega, hxl ▸ rfl, ?_, fun _ => ⟨a, rfl, fun j p hp => ?_⟩⟩, ?_, fun x hx => ?_⟩
    · simp only [maxLen] at hm; omega
    · obtain ⟨_, c, h1, h2, h3⟩ := hxs j p hp
      exact ⟨c, h1, h2, h3⟩
    · have := bulk_len (elems.map (fun x => x.fst))
      rw [List.length_map] at this
      omega
    · obtain ⟨i, hi⟩ := List.getElem?_of_mem hx
      exact (hxs i x hi).1
end Go.Proofs.YtidlldfghkaeeaaDoorW.PrintWords
end
