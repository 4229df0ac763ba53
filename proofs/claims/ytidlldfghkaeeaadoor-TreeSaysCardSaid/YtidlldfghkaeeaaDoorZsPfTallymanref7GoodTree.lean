/- Put together by pack2.py: PfTallymanref7GoodTree -/
import Derived.Test.YtidlldfghkaeeaaDoorZsRefNamesEtc
import Derived.Test.YtidlldfghkaeeaaDoorZsPfTallymanlaw8OwnEtc
import Derived.Test.YtidlldfghkaeeaaDoorZsPfTallymanref7Up
import Derived.Test.YtidlldfghkaeeaaDoorZsW0
namespace Go.Proofs.YtidlldfghkaeeaaDoor.P
open Go.RowKit Go.Proofs.YtidlldfghkaeeaaDoorW.PrintWords Go.Proofs.YtidlldfghkaeeaaDoorW.PrintLast Go.Proofs.YtidlldfghkaeeaaDoorW.PrintMore
attribute [local go_sem] max2_int min2_int max_two min_two max_three min_three max_four min_four   -- for this text's walks alone
set_option linter.unusedVariables false
set_option linter.unusedSimpArgs false
/-! ### tallymanref7_GoodTree: function 23 -/
mutual
def tallymanref7_GoodTree.l0 : Nat → List (S94) → Int → Option (Bool)
 | 0, _, _ => none
 | k + 1, x0, x3 => if x3 < (x0.length : Int) then (if 0 ≤ x3 then ((tallymanref7_Good.f ((rd_T94 x0 x3).f0)).bind fun t178 => (if t178 = true then (if x3 > 0 then (if 0 ≤ (wrap64 (x3 - 1)) then (if (wrap64 (x3 - 1)) < (x0.length : Int) then ((tallymanref7_Cmp.f ((rd_T94 x0 (wrap64 (x3 - 1))).f0) ((rd_T94 x0 x3).f0)).bind fun t180 => (if t180 ≥ 0 then (tallymanref7_GoodTree.j1 k x0 x3 true ((rd_T94 x0 x3).f0) ((rd_T94 x0 x3).f1) ((rd_T94 x0 x3).f2)) else (if (rd_T94 x0 x3).f1 = true then (if (((rd_T94 x0 x3).f2).length : Int) > 0 then (tallymanref7_GoodTree.j1 k x0 x3 true ((rd_T94 x0 x3).f0) ((rd_T94 x0 x3).f1) ((rd_T94 x0 x3).f2)) else (tallymanref7_GoodTree.j1 k x0 x3 (decide ((((rd_T94 x0 x3).f2).length : Int) > 2048)) ((rd_T94 x0 x3).f0) ((rd_T94 x0 x3).f1) ((rd_T94 x0 x3).f2))) else (tallymanref7_GoodTree.j1 k x0 x3 (decide ((((rd_T94 x0 x3).f2).length : Int) > 2048)) ((rd_T94 x0 x3).f0) ((rd_T94 x0 x3).f1) ((rd_T94 x0 x3).f2))))) else (none)) else (none)) else (if (rd_T94 x0 x3).f1 = true then (if (((rd_T94 x0 x3).f2).length : Int) > 0 then (tallymanref7_GoodTree.j1 k x0 x3 true ((rd_T94 x0 x3).f0) ((rd_T94 x0 x3).f1) ((rd_T94 x0 x3).f2)) else (tallymanref7_GoodTree.j1 k x0 x3 (decide ((((rd_T94 x0 x3).f2).length : Int) > 2048)) ((rd_T94 x0 x3).f0) ((rd_T94 x0 x3).f1) ((rd_T94 x0 x3).f2))) else (tallymanref7_GoodTree.j1 k x0 x3 (decide ((((rd_T94 x0 x3).f2).length : Int) > 2048)) ((rd_T94 x0 x3).f0) ((rd_T94 x0 x3).f1) ((rd_T94 x0 x3).f2)))) else (tallymanref7_GoodTree.j1 k x0 x3 true ((rd_T94 x0 x3).f0) ((rd_T94 x0 x3).f1) ((rd_T94 x0 x3).f2)))) else (none)) else (if (x0.length : Int) ≤ 40 then ((tallymanref7_Bytes.f k x0).bind fun t175 => (some (decide (t175 ≤ 16384)))) else (some false))
def tallymanref7_GoodTree.j1 : Nat → List (S94) → Int → Bool → ByteArray → Bool → List Int → Option (Bool)
 | 0, _, _, _, _, _, _ => none
 | k + 1, x0, x3, x53, x178000, x178001, x178002 => if x53 = true then (some false) else ((tallymanref7_Up.f k x178000).bind fun bt181 => ((tallymanref7_At.f k x0 bt181.1).bind fun t183 => (if bt181.1.toList = ([] : List UInt8) then (tallymanref7_GoodTree.l0 k x0 (wrap64 (x3 + 1))) else (if t183 < 0 then (some false) else (if 0 ≤ t183 then (if t183 < (x0.length : Int) then (if ((rd_T94 x0 t183).f1 = true) then (tallymanref7_GoodTree.l0 k x0 (wrap64 (x3 + 1))) else (some false)) else (none)) else (none))))))
end
def tallymanref7_GoodTree.f (k : Nat) (l0 : List (S94)) : Option (Bool) := tallymanref7_GoodTree.l0 k l0 0
def tallymanref7_GoodTree.T5 : Bool × List (List Nat × List Nat) := (true, [([], []), ([0], [0]), ([1], [1]), ([2], [2]), ([3, 2], [3]), ([4], [4]), ([5, 4], [4, 5]), ([6, 4, 4], [4, 6]), ([7], [7]), ([7], [7]), ([9, 7], [7, 9]), ([8, 10, 7], [7, 8, 10]), ([11, 7], [7, 11]), ([12, 7], [7, 12]), ([7], [7]), ([14, 7], [7, 14]), ([13, 15, 7, 7], [7, 13, 15]), ([16, 7], [7, 16]), ([7, 17, 4], [4, 7, 17]), ([4, 18], [4, 18]), ([19, 16], [19]), ([20], [20]), ([21, 20], [20, 21]), ([22, 20, 20], [20, 22]), ([23], [23]), ([24, 23], [23, 24]), ([25, 23], [23, 25]), ([26, 23], [23, 26]), ([23, 27, 20], [20, 23, 27]), ([20, 28], [20, 28]), ([29, 23], [29]), ([30], [30]), ([31, 30], [30, 31]), ([32, 30], [30, 32]), ([33, 30], [30, 33]), ([30, 34], [30, 34])])
def tallymanref7_GoodTree.B5 : List Nat := [0, 1, 3, 7, 15, 31, 63, 127, 255, 255, 767, 2047, 4095, 8191, 255, 16639, 65535, 131071, 262143, 524287, 1048575, 2097151, 4194303, 8388607, 16777215, 33554431, 67108863, 134217727, 268435455, 536870911, 1073741823, 2147483647, 4294967295, 8589934591, 17179869183, 34359738367]
theorem tallymanref7_GoodTree.tab5 : rtab .any (opsOf Tryd.f23 5) = tallymanref7_GoodTree.T5 := by kernel_rfl
theorem tallymanref7_GoodTree.bits5 : waitsOk tallymanref7_GoodTree.T5.2 tallymanref7_GoodTree.B5 = true := by kernel_rfl
set_option maxHeartbeats 8000000 in
set_option maxRecDepth 100000 in
theorem tallymanref7_GoodTree.calls (k : Nat) (A0 : Option Addr) (c0 : Nat) (l0 : List (S94)) (r : Bool) (w : World) (hr0 : Kd.C k94 w A0 l0.length l0) (hc0 : l0.length ≤ c0) (h : tallymanref7_GoodTree.f k l0 = some r) :
  Calls Tryd.prog 23 #[.slice A0 l0.length c0] w fun e w' => e = .returned (.bool r) ∧ Below w.heap.size w w' := by
 have hu94 := Tryd.underlying94
 have HR0 := Aside0.mk hr0
 have HC0 := Aside0.mk hc0
 clear hr0 hc0
 have HB := xa_ (Below.refl w.heap.size w)
 have H : (tallymanref7_GoodTree.l0 k l0 0) = some r := h
 clear h
 have H' := Aside0.mk H
 clear H
 go_enter Tryd.func23, Tryd.ntmps23
 go_wp2
 go_loopg [3] k (fun kq v3 w' => ∃ (x3_1 : Int), v3 = .int .i64 x3_1 ∧ Aside0 (tallymanref7_GoodTree.l0 kq l0 x3_1 = some r) ∧ Aside0 (kq ≤ k) ∧ Aside0 (Below w.heap.size w w'))
 case atStart => exact ⟨(0), (by first | rfl | (simp; done) | (simp [*]; done)), H', ⟨Nat.le_refl _⟩, ⟨by repeat (first | (with_reducible first | exact HB.out | apply below_alloc | apply pw_below_drewN | apply below_drew1) | exact HB.out)⟩⟩
 case round =>
  clear H'
  obtain ⟨x3_1, rfl, HA, HK1, HB⟩ := hrel
  cases gk with
  | zero => exact absurd HA.out (by simp [tallymanref7_GoodTree.l0])
  | succ k1 =>
   have H := HA.out
   clear HA
   simp only [tallymanref7_GoodTree.l0] at H
   by_cases c2 : x3_1 < (l0.length : Int)
   ·rw [if_pos c2] at H
    have c2b0 : decide (x3_1 < (l0.length : Int)) = true := decide_eq_true c2
    clear c2
    by_cases c3 : 0 ≤ x3_1
    ·rw [if_pos c3] at H
     have c3b0 : decide (0 ≤ x3_1) = true := decide_eq_true c3
     clear c3
     have HC4 := Aside0.mk H
     clear H
     have p176 : 0 ≤ (x3_1 : Int) := of_decide_eq_true (by first | (with_reducible assumption) | assumption)
     have q176 : x3_1 < (l0.length : Int) := of_decide_eq_true (by first | (with_reducible assumption) | assumption)
     obtain ⟨ad176, A176_2, c176_2, e176, hx176_0, hx176_1, hx176_2, hl176_2, hi176_2⟩ := at_T94 HR0.out x3_1 p176 q176
     cases e176
     replace hx176_0 := (HB.out.cell (World.block_lt_of_cell? w _ hx176_0)).trans hx176_0
     replace hx176_1 := (HB.out.cell (World.block_lt_of_cell? w _ hx176_1)).trans hx176_1
     replace hx176_2 := (HB.out.cell (World.block_lt_of_cell? w _ hx176_2)).trans hx176_2
     have HR176_2 := Aside0.mk hi176_2
     have HC176_2 := Aside0.mk hl176_2
     clear hi176_2 hl176_2
     replace p176 := eq_true p176
     replace q176 := eq_true q176
     go_upto_region 5 with (first | ((with_reducible refine gate_dst (N := 4) rfl ?_); (try (refine gate_guard (by rfl) ?_; dsimp only)); refine box_event ?hg (N := 4) ?hd (cs := #[.string (⟨#[]⟩ : ByteArray), .bool false, .slice none 0 0]) (t := 94) ?hr ?_; (case hd => rfl); (case hg => rfl); (case hr => first | (go_simp; done) | (go_simp; rfl)); intro gb177 hg w5 hbox hb; have n0_ := xa_ (below_step (by repeat (first | (with_reducible first | exact HB.out | apply below_alloc | apply pw_below_drewN | apply below_drew1) | exact HB.out)) hb); have n1_ := xa_ (hbox); have n2_ := xa_ ((by rw [hg]; exact (below_size (by repeat (first | (with_reducible first | exact HB.out | apply below_alloc | apply pw_below_drewN | apply below_drew1) | exact HB.out))) : w.heap.size ≤ gb177)); have n3_ := xa_ ((by rw [hg]; exact (below_size (by repeat (first | (with_reducible first | exact HB.out | apply below_alloc | apply pw_below_drewN | apply below_drew1) | exact HB.out))) : w.heap.size ≤ gb177)); clear HB; have HB := n0_; have BK177 := n1_; have GW177 := n2_; have GE177 := n3_; clear n0_ n1_ n2_ n3_; clear hb hbox hg; have hcz6_0 : w5.cell? ⟨gb177, 0, none⟩ = some (.string (⟨#[]⟩ : ByteArray)) := (blk_cell BK177.out 0).trans rfl; have hcz6_1 : w5.cell? ⟨gb177, 1, none⟩ = some (.bool false) := (blk_cell BK177.out 1).trans rfl; have hcz6_2 : w5.cell? ⟨gb177, 2, none⟩ = some (.slice none 0 0) := (blk_cell BK177.out 2).trans rfl; have hfz6_0 := blk_frozen BK177.out 0; have hfz6_1 := blk_frozen BK177.out 1; have hfz6_2 := blk_frozen BK177.out 2))
     (try simp only [Act.put, List.setIfInBounds_toArray, List.set_cons_zero, List.set_cons_succ])
     go_cut [53] (fun v53 wc => ∃ (kq : Nat) (x53_3 : Bool), v53 = .bool x53_3 ∧ Aside0 (tallymanref7_GoodTree.j1 kq l0 x3_1 x53_3 ((rd_T94 l0 x3_1).f0) ((rd_T94 l0 x3_1).f1) ((rd_T94 l0 x3_1).f2) = some r) ∧ Aside0 (kq ≤ k1) ∧ Aside0 (wc.heap[gb177]? = some (.cells #[.string ((rd_T94 l0 x3_1).f0), .bool ((rd_T94 l0 x3_1).f1), (.slice A176_2 ((rd_T94 l0 x3_1).f2).length c176_2)] 94 (0, 0))) ∧ Aside0 (Below w.heap.size w wc))
     case first =>
      have H := HC4.out
      clear HC4
      replace H := Option.bind_eq_some_iff.mp H
      obtain ⟨t178, A70, H⟩ := H
      replace H : (if t178 = true then (if x3_1 > 0 then (if 0 ≤ (wrap64 (x3_1 - 1)) then (if (wrap64 (x3_1 - 1)) < (l0.length : Int) then ((tallymanref7_Cmp.f ((rd_T94 l0 (wrap64 (x3_1 - 1))).f0) ((rd_T94 l0 x3_1).f0)).bind fun t180 => (if t180 ≥ 0 then (tallymanref7_GoodTree.j1 k1 l0 x3_1 true ((rd_T94 l0 x3_1).f0) ((rd_T94 l0 x3_1).f1) ((rd_T94 l0 x3_1).f2)) else (if (rd_T94 l0 x3_1).f1 = true then (if (((rd_T94 l0 x3_1).f2).length : Int) > 0 then (tallymanref7_GoodTree.j1 k1 l0 x3_1 true ((rd_T94 l0 x3_1).f0) ((rd_T94 l0 x3_1).f1) ((rd_T94 l0 x3_1).f2)) else (tallymanref7_GoodTree.j1 k1 l0 x3_1 (decide ((((rd_T94 l0 x3_1).f2).length : Int) > 2048)) ((rd_T94 l0 x3_1).f0) ((rd_T94 l0 x3_1).f1) ((rd_T94 l0 x3_1).f2))) else (tallymanref7_GoodTree.j1 k1 l0 x3_1 (decide ((((rd_T94 l0 x3_1).f2).length : Int) > 2048)) ((rd_T94 l0 x3_1).f0) ((rd_T94 l0 x3_1).f1) ((rd_T94 l0 x3_1).f2))))) else (none)) else (none)) else (if (rd_T94 l0 x3_1).f1 = true then (if (((rd_T94 l0 x3_1).f2).length : Int) > 0 then (tallymanref7_GoodTree.j1 k1 l0 x3_1 true ((rd_T94 l0 x3_1).f0) ((rd_T94 l0 x3_1).f1) ((rd_T94 l0 x3_1).f2)) else (tallymanref7_GoodTree.j1 k1 l0 x3_1 (decide ((((rd_T94 l0 x3_1).f2).length : Int) > 2048)) ((rd_T94 l0 x3_1).f0) ((rd_T94 l0 x3_1).f1) ((rd_T94 l0 x3_1).f2))) else (tallymanref7_GoodTree.j1 k1 l0 x3_1 (decide ((((rd_T94 l0 x3_1).f2).length : Int) > 2048)) ((rd_T94 l0 x3_1).f0) ((rd_T94 l0 x3_1).f1) ((rd_T94 l0 x3_1).f2)))) else (tallymanref7_GoodTree.j1 k1 l0 x3_1 true ((rd_T94 l0 x3_1).f0) ((rd_T94 l0 x3_1).f1) ((rd_T94 l0 x3_1).f2))) = some r := H
      have A7 := Aside0.mk A70
      clear A70
      by_cases c8 : t178 = true
      ·subst c8
       have H1 : (if x3_1 > 0 then (if 0 ≤ (wrap64 (x3_1 - 1)) then (if (wrap64 (x3_1 - 1)) < (l0.length : Int) then ((tallymanref7_Cmp.f ((rd_T94 l0 (wrap64 (x3_1 - 1))).f0) ((rd_T94 l0 x3_1).f0)).bind fun t180 => (if t180 ≥ 0 then (tallymanref7_GoodTree.j1 k1 l0 x3_1 true ((rd_T94 l0 x3_1).f0) ((rd_T94 l0 x3_1).f1) ((rd_T94 l0 x3_1).f2)) else (if (rd_T94 l0 x3_1).f1 = true then (if (((rd_T94 l0 x3_1).f2).length : Int) > 0 then (tallymanref7_GoodTree.j1 k1 l0 x3_1 true ((rd_T94 l0 x3_1).f0) ((rd_T94 l0 x3_1).f1) ((rd_T94 l0 x3_1).f2)) else (tallymanref7_GoodTree.j1 k1 l0 x3_1 (decide ((((rd_T94 l0 x3_1).f2).length : Int) > 2048)) ((rd_T94 l0 x3_1).f0) ((rd_T94 l0 x3_1).f1) ((rd_T94 l0 x3_1).f2))) else (tallymanref7_GoodTree.j1 k1 l0 x3_1 (decide ((((rd_T94 l0 x3_1).f2).length : Int) > 2048)) ((rd_T94 l0 x3_1).f0) ((rd_T94 l0 x3_1).f1) ((rd_T94 l0 x3_1).f2))))) else (none)) else (none)) else (if (rd_T94 l0 x3_1).f1 = true then (if (((rd_T94 l0 x3_1).f2).length : Int) > 0 then (tallymanref7_GoodTree.j1 k1 l0 x3_1 true ((rd_T94 l0 x3_1).f0) ((rd_T94 l0 x3_1).f1) ((rd_T94 l0 x3_1).f2)) else (tallymanref7_GoodTree.j1 k1 l0 x3_1 (decide ((((rd_T94 l0 x3_1).f2).length : Int) > 2048)) ((rd_T94 l0 x3_1).f0) ((rd_T94 l0 x3_1).f1) ((rd_T94 l0 x3_1).f2))) else (tallymanref7_GoodTree.j1 k1 l0 x3_1 (decide ((((rd_T94 l0 x3_1).f2).length : Int) > 2048)) ((rd_T94 l0 x3_1).f0) ((rd_T94 l0 x3_1).f1) ((rd_T94 l0 x3_1).f2)))) = some r := by rw [if_pos rfl] at H; exact H
       clear H
       have H := H1
       clear H1
       by_cases c9 : x3_1 > 0
       ·rw [if_pos c9] at H
        have c9b0 : decide (0 < x3_1) = true := decide_eq_true c9
        clear c9
        (first | rw [c9b0] | (simp only [i64_w, i32_w]; rw [c9b0]) | skip)
        obtain ⟨ji10, hji10⟩ : ∃ j_ : Int, (wrap64 (x3_1 - 1)) = j_ := ⟨_, rfl⟩
        replace H : (if 0 ≤ (ji10) then (if (ji10) < (l0.length : Int) then ((tallymanref7_Cmp.f ((rd_T94 l0 (ji10)).f0) ((rd_T94 l0 x3_1).f0)).bind fun t180 => (if t180 ≥ 0 then (tallymanref7_GoodTree.j1 k1 l0 x3_1 true ((rd_T94 l0 x3_1).f0) ((rd_T94 l0 x3_1).f1) ((rd_T94 l0 x3_1).f2)) else (if (rd_T94 l0 x3_1).f1 = true then (if (((rd_T94 l0 x3_1).f2).length : Int) > 0 then (tallymanref7_GoodTree.j1 k1 l0 x3_1 true ((rd_T94 l0 x3_1).f0) ((rd_T94 l0 x3_1).f1) ((rd_T94 l0 x3_1).f2)) else (tallymanref7_GoodTree.j1 k1 l0 x3_1 (decide ((((rd_T94 l0 x3_1).f2).length : Int) > 2048)) ((rd_T94 l0 x3_1).f0) ((rd_T94 l0 x3_1).f1) ((rd_T94 l0 x3_1).f2))) else (tallymanref7_GoodTree.j1 k1 l0 x3_1 (decide ((((rd_T94 l0 x3_1).f2).length : Int) > 2048)) ((rd_T94 l0 x3_1).f0) ((rd_T94 l0 x3_1).f1) ((rd_T94 l0 x3_1).f2))))) else (none)) else (none)) = some r := by first | (rw [hji10] at H; exact H) | (simp only [hji10] at H ⊢; exact H)
        (try rw [hji10] at A7)
        have hji10w : (IntKind.i64.wrap (x3_1 - 1)) = ji10 := (i64_w _).trans hji10
        by_cases c11 : 0 ≤ (ji10)
        ·rw [if_pos c11] at H
         have c11b0 : decide (0 ≤ (ji10)) = true := decide_eq_true c11
         clear c11
         by_cases c12 : (ji10) < (l0.length : Int)
         ·rw [if_pos c12] at H
          have c12b0 : decide ((ji10) < (l0.length : Int)) = true := decide_eq_true c12
          clear c12
          replace H := Option.bind_eq_some_iff.mp H
          obtain ⟨t180, A130, H⟩ := H
          replace H : (if t180 ≥ 0 then (tallymanref7_GoodTree.j1 k1 l0 x3_1 true ((rd_T94 l0 x3_1).f0) ((rd_T94 l0 x3_1).f1) ((rd_T94 l0 x3_1).f2)) else (if (rd_T94 l0 x3_1).f1 = true then (if (((rd_T94 l0 x3_1).f2).length : Int) > 0 then (tallymanref7_GoodTree.j1 k1 l0 x3_1 true ((rd_T94 l0 x3_1).f0) ((rd_T94 l0 x3_1).f1) ((rd_T94 l0 x3_1).f2)) else (tallymanref7_GoodTree.j1 k1 l0 x3_1 (decide ((((rd_T94 l0 x3_1).f2).length : Int) > 2048)) ((rd_T94 l0 x3_1).f0) ((rd_T94 l0 x3_1).f1) ((rd_T94 l0 x3_1).f2))) else (tallymanref7_GoodTree.j1 k1 l0 x3_1 (decide ((((rd_T94 l0 x3_1).f2).length : Int) > 2048)) ((rd_T94 l0 x3_1).f0) ((rd_T94 l0 x3_1).f1) ((rd_T94 l0 x3_1).f2)))) = some r := H
          have A13 := Aside0.mk A130
          clear A130
          by_cases c14 : t180 ≥ 0
          ·rw [if_pos c14] at H
           have c14b0 : decide (0 ≤ t180) = true := decide_eq_true c14
           clear c14
           have H' := Aside0.mk H
           clear H
           try go_wp2
           have n0_ : Aside0 ((((w5.setCell ⟨gb177, 0, none⟩ (.string ((rd_T94 l0 x3_1).f0))).setCell ⟨gb177, 1, none⟩ (.bool ((rd_T94 l0 x3_1).f1))).setCell ⟨gb177, 2, none⟩ (.slice A176_2 ((rd_T94 l0 x3_1).f2).length c176_2)).heap[gb177]? = some (.cells #[.string ((rd_T94 l0 x3_1).f0), .bool ((rd_T94 l0 x3_1).f1), .slice A176_2 ((rd_T94 l0 x3_1).f2).length c176_2] 94 (0, 0))) := ⟨by (with_reducible repeat (first | refine blk_drewN ?_ _ | refine blk_drew ?_ | refine blk_alloc ?_ _)); refine blk_put (cs := #[.string ((rd_T94 l0 x3_1).f0), .bool ((rd_T94 l0 x3_1).f1), .slice none 0 0]) ?_ 2 _ rfl; (with_reducible repeat (first | refine blk_drewN ?_ _ | refine blk_drew ?_ | refine blk_alloc ?_ _)); refine blk_put (cs := #[.string ((rd_T94 l0 x3_1).f0), .bool false, .slice none 0 0]) ?_ 1 _ rfl; (with_reducible repeat (first | refine blk_drewN ?_ _ | refine blk_drew ?_ | refine blk_alloc ?_ _)); refine blk_put (cs := #[.string (⟨#[]⟩ : ByteArray), .bool false, .slice none 0 0]) ?_ 0 _ rfl; (with_reducible repeat (first | refine blk_drewN ?_ _ | refine blk_drew ?_ | refine blk_alloc ?_ _)); exact BK177.out⟩
           have n1_ : Aside0 (Below w.heap.size w (((w5.setCell ⟨gb177, 0, none⟩ (.string ((rd_T94 l0 x3_1).f0))).setCell ⟨gb177, 1, none⟩ (.bool ((rd_T94 l0 x3_1).f1))).setCell ⟨gb177, 2, none⟩ (.slice A176_2 ((rd_T94 l0 x3_1).f2).length c176_2))) := ⟨by repeat (first | (with_reducible first | exact HB.out | apply below_alloc | apply pw_below_drewN | apply below_drew1 | refine below_set ?_ GE177.out) | exact HB.out)⟩
           (try clear BK177)
           (try clear HB)
           generalize (((w5.setCell ⟨gb177, 0, none⟩ (.string ((rd_T94 l0 x3_1).f0))).setCell ⟨gb177, 1, none⟩ (.bool ((rd_T94 l0 x3_1).f1))).setCell ⟨gb177, 2, none⟩ (.slice A176_2 ((rd_T94 l0 x3_1).f2).length c176_2)) = w15 at n0_ n1_ ⊢
           have BK177 := n0_
           have HB := n1_
           clear n0_ n1_
           have n0_ := xa_ (blk_drew BK177.out)
           have n1_ := xa_ (below_drew1 HB.out)
           clear BK177
           clear HB
           have BK177 := n0_
           have HB := n1_
           clear n0_ n1_
           have p179 : 0 ≤ ((ji10) : Int) := of_decide_eq_true (by first | (with_reducible assumption) | assumption)
           have q179 : (ji10) < (l0.length : Int) := of_decide_eq_true (by first | (with_reducible assumption) | assumption)
           obtain ⟨ad179, A179_2, c179_2, e179, hx179_0, hx179_1, hx179_2, hl179_2, hi179_2⟩ := at_T94 HR0.out (ji10) p179 q179
           have hw179_2 := hx179_2
           have hw179_1 := hx179_1
           have hw179_0 := hx179_0
           obtain rfl : ad176 = ad179 := (by injection e179)
           replace hx179_0 := (HB.out.cell (World.block_lt_of_cell? w _ hx179_0)).trans hx179_0
           replace hx179_1 := (HB.out.cell (World.block_lt_of_cell? w _ hx179_1)).trans hx179_1
           replace hx179_2 := (HB.out.cell (World.block_lt_of_cell? w _ hx179_2)).trans hx179_2
           have HR179_2 := Aside0.mk hi179_2
           have HC179_2 := Aside0.mk hl179_2
           clear hi179_2 hl179_2
           replace p179 := eq_true p179
           replace q179 := eq_true q179
           refine start_ (n := 36) (S := fun w' => w'.cell? ⟨gb177, 0, none⟩ = some (.string ((rd_T94 l0 x3_1).f0)) ∧ w'.cell? ⟨gb177, 1, none⟩ = some (.bool ((rd_T94 l0 x3_1).f1)) ∧ w'.cell? ⟨gb177, 2, none⟩ = some (.slice A176_2 ((rd_T94 l0 x3_1).f2).length c176_2) ∧ w'.cell? (ad176.add (((ji10)).toNat * 3)) = some (.string ((rd_T94 l0 (ji10)).f0)) ∧ w'.cell? ⟨(ad176.add (((ji10)).toNat * 3)).block, (ad176.add (((ji10)).toNat * 3)).off + 1, none⟩ = some (.bool ((rd_T94 l0 (ji10)).f1)) ∧ w'.cell? ⟨(ad176.add (((ji10)).toNat * 3)).block, (ad176.add (((ji10)).toNat * 3)).off + 2, none⟩ = some (.slice A179_2 ((rd_T94 l0 (ji10)).f2).length c179_2)) (ds := []) (bs_ 36 0x0) (by kernel_rfl) rfl rfl ⟨(blk_cell BK177.out 0).trans rfl, (blk_cell BK177.out 1).trans rfl, (blk_cell BK177.out 2).trans rfl, ((HB.out.cell (World.block_lt_of_cell? w _ hw179_0)).trans hw179_0), ((HB.out.cell (World.block_lt_of_cell? w _ hw179_1)).trans hw179_1), ((HB.out.cell (World.block_lt_of_cell? w _ hw179_2)).trans hw179_2)⟩ (fun hHeld => ?_); refine with_tabW tallymanref7_GoodTree.tab5 tallymanref7_GoodTree.bits5 (fun HT_ HW_ => ?_)
           generalize w15.drew = w16 at BK177 HB HR179_2 hx179_0 hx179_1 hx179_2 hHeld ⊢
           refine pure_ (i := 0) (N := some 18) (v := ?_) (a' := ?_) (bs_ 36 0x1) rfl rfl (any_of HT_.out (by kernel_rfl)) (fun _ _ _ h => h) (Or.inl ⟨by rfl, ?_⟩) ?_ ?_; rotate_left; (intro w'; go_simp; with_reducible rfl); rotate_left; (simp only [nm_]; rfl)
           refine take_ (i := 1) (N := some 19) (v := ?_) (a' := ?_) (bs_ 36 0x3) rfl rfl (take_ofW HT_.out HW_.out (by kernel_rfl)) (fun _ _ _ h => h) (Or.inl ⟨by rfl, ?_⟩) hHeld ?_ ?_; rotate_left; (rintro w' ⟨s0, s1, s2, s3, s4, s5⟩; go_simp; with_reducible rfl); rotate_left; (simp only [nm_]; rfl)
           refine one_ (i := 2) (N := some 20) (bs_ 36 0x7) rfl rfl (one_of HT_.out (by kernel_rfl)) (by decide) (fun K hK => ?_)
           refine goes_ Tryd.func42 (by kernel_rfl) rfl #[.string ((rd_T94 l0 x3_1).f0)] (by rfl) rfl rfl (by (try simp only [List.map_toArray, List.map_cons, List.map_nil]); first | done | rfl | (simp only [List.length_drop, List.length_take]; rfl)) ?_
           with_reducible refine (tallymanref7_Good.calls ((rd_T94 l0 x3_1).f0) true _ A7.out).mono ?_
           rintro e w17 ⟨rfl, hb⟩
           refine ⟨_, rfl, ?_⟩
           have n0_ := xa_ (blk_below (xb_ BK177.out) hb)
           have n1_ := xa_ (below_step (by repeat (first | (with_reducible first | exact HB.out | apply below_alloc | apply pw_below_drewN | apply below_drew1 | refine below_set ?_ GE177.out) | exact HB.out)) hb)
           clear BK177
           clear HB
           have BK177 := n0_
           have HB := n1_
           clear n0_ n1_
           (try clear hb)
           (try clear hb2)
           (try clear hk)
           (try clear hi)
           refine hK.out _ _ ⟨(blk_cell BK177.out 0).trans rfl, (blk_cell BK177.out 1).trans rfl, (blk_cell BK177.out 2).trans rfl, ((HB.out.cell (World.block_lt_of_cell? w _ hw179_0)).trans hw179_0), ((HB.out.cell (World.block_lt_of_cell? w _ hw179_1)).trans hw179_1), ((HB.out.cell (World.block_lt_of_cell? w _ hw179_2)).trans hw179_2)⟩ (fun hHeld => ?_)
           clear hK K
           refine norm_ (a' := ?_) ?_ ?_
           rotate_left
           ·show Act.put _ (some 20) _ = _
            simp only [nm_]
            rfl
           refine pure_ (i := 3) (N := some 21) (v := ?_) (a' := ?_) (bs_ 36 0xf) rfl rfl (any_of HT_.out (by kernel_rfl)) (fun _ _ _ h => h) (Or.inl ⟨by rfl, ?_⟩) ?_ ?_; rotate_left; (intro w'; go_simp; with_reducible rfl); rotate_left; (simp only [nm_]; rfl)
           refine pure_ (i := 4) (N := some 22) (v := ?_) (a' := ?_) (bs_ 36 0x1f) rfl rfl (any_of HT_.out (by kernel_rfl)) (fun _ _ _ h => h) (Or.inl ⟨by rfl, ?_⟩) ?_ ?_; rotate_left; (intro w'; go_simp; with_reducible rfl); rotate_left; (simp only [nm_]; rfl)
           refine pure_ (i := 5) (N := some 23) (v := ?_) (a' := ?_) (bs_ 36 0x3f) rfl rfl (any_of HT_.out (by kernel_rfl)) (fun _ _ _ h => h) (Or.inl ⟨by rfl, ?_⟩) ?_ ?_; rotate_left; (intro w'; go_simp; with_reducible rfl); rotate_left; (simp only [nm_]; rfl)
           refine pure_ (i := 6) (N := some 24) (v := ?_) (a' := ?_) (bs_ 36 0x7f) rfl rfl (any_of HT_.out (by kernel_rfl)) (fun _ _ _ h => h) (Or.inl ⟨by rfl, ?_⟩) ?_ ?_; rotate_left; (intro w'; go_simp; with_reducible rfl); rotate_left; (simp only [nm_]; rfl)
           refine pure_ (i := 7) (N := some 25) (v := ?_) (a' := ?_) (bs_ 36 0xff) rfl rfl (any_of HT_.out (by kernel_rfl)) (fun _ _ _ h => h) (Or.inl ⟨by rfl, ?_⟩) ?_ ?_; rotate_left; (intro w'; go_simp; with_reducible rfl); rotate_left; (simp only [nm_]; rfl)
           refine pure_ (i := 8) (N := some 26) (v := ?_) (a' := ?_) (bs_ 36 0x1ff) rfl rfl (any_of HT_.out (by kernel_rfl)) (fun _ _ _ h => h) (Or.inl ⟨by rfl, ?_⟩) ?_ ?_; rotate_left; (intro w'; go_simp; with_reducible rfl); rotate_left; (simp only [nm_]; rfl)
           refine pure_ (i := 9) (N := some 27) (v := ?_) (a' := ?_) (bs_ 36 0x3ff) rfl rfl (any_of HT_.out (by kernel_rfl)) (fun _ _ _ h => h) (Or.inl ⟨by rfl, ?_⟩) ?_ ?_; rotate_left; (intro w'; go_simp; with_reducible rfl); rotate_left; (simp only [nm_]; rfl)
           refine pure_ (i := 10) (N := some 28) (v := ?_) (a' := ?_) (bs_ 36 0x7ff) rfl rfl (any_of HT_.out (by kernel_rfl)) (fun _ _ _ h => h) (Or.inl ⟨by rfl, ?_⟩) ?_ ?_; rotate_left; (intro w'; go_simp; with_reducible rfl); rotate_left; (simp only [nm_]; rfl)
           refine pure_ (i := 11) (N := some 29) (v := ?_) (a' := ?_) (bs_ 36 0xfff) rfl rfl (any_of HT_.out (by kernel_rfl)) (fun _ _ _ h => h) (Or.inl ⟨by rfl, ?_⟩) ?_ ?_; rotate_left; (intro w'; go_simp; with_reducible rfl); rotate_left; (simp only [nm_]; rfl)
           refine pure_ (i := 12) (N := some 30) (v := ?_) (a' := ?_) (bs_ 36 0x1fff) rfl rfl (any_of HT_.out (by kernel_rfl)) (fun _ _ _ h => h) (Or.inl ⟨by rfl, ?_⟩) ?_ ?_; rotate_left; (intro w'; go_simp; with_reducible rfl); rotate_left; (simp only [nm_]; rfl)
           refine pure_ (i := 14) (N := some 32) (v := ?_) (a' := ?_) (bs_ 36 0x5fff) rfl rfl (any_of HT_.out (by kernel_rfl)) (fun _ _ _ h => h) (Or.inl ⟨by rfl, ?_⟩) ?_ ?_; rotate_left; (intro w'; go_simp; with_reducible rfl); rotate_left; (simp only [nm_]; rfl)
           refine take_ (i := 13) (N := some 31) (v := ?_) (a' := ?_) (bs_ 36 0x7fff) rfl rfl (take_ofW HT_.out HW_.out (by kernel_rfl)) (fun _ _ _ h => h) (Or.inl ⟨by rfl, ?_⟩) hHeld ?_ ?_; rotate_left; (rintro w' ⟨s0, s1, s2, s3, s4, s5⟩; go_simp; with_reducible rfl); rotate_left; (simp only [nm_]; rfl)
           refine take_ (i := 15) (N := some 33) (v := ?_) (a' := ?_) (bs_ 36 0xffff) rfl rfl (take_ofW HT_.out HW_.out (by kernel_rfl)) (fun _ _ _ h => h) (Or.inl ⟨by rfl, ?_⟩) hHeld ?_ ?_; rotate_left; (rintro w' ⟨s0, s1, s2, s3, s4, s5⟩; go_simp; with_reducible rfl); rotate_left; (simp only [nm_]; rfl)
           refine one_ (i := 16) (N := some 34) (bs_ 36 0x1ffff) rfl rfl (one_of HT_.out (by kernel_rfl)) (by decide) (fun K hK => ?_)
           refine goes_ Tryd.func52 (by kernel_rfl) rfl #[.string ((rd_T94 l0 (ji10)).f0), .string ((rd_T94 l0 x3_1).f0)] (by rfl) rfl rfl (by (try simp only [List.map_toArray, List.map_cons, List.map_nil]); first | done | (simp only [hji10]; rfl) | rfl | (simp only [List.length_drop, List.length_take]; rfl)) ?_
           with_reducible refine (tallymanref7_Cmp.calls ((rd_T94 l0 (ji10)).f0) ((rd_T94 l0 x3_1).f0) t180 _ A13.out).mono ?_
           rintro e w18 ⟨rfl, hb⟩
           refine ⟨_, rfl, ?_⟩
           have n0_ := xa_ (blk_below (xb_ BK177.out) hb)
           have n1_ := xa_ (below_step (by repeat (first | (with_reducible first | exact HB.out | apply below_alloc | apply pw_below_drewN | apply below_drew1 | refine below_set ?_ GE177.out) | exact HB.out)) hb)
           clear BK177
           clear HB
           have BK177 := n0_
           have HB := n1_
           clear n0_ n1_
           (try clear hb)
           (try clear hb2)
           (try clear hk)
           (try clear hi)
           refine hK.out _ _ ⟨(blk_cell BK177.out 0).trans rfl, (blk_cell BK177.out 1).trans rfl, (blk_cell BK177.out 2).trans rfl, ((HB.out.cell (World.block_lt_of_cell? w _ hw179_0)).trans hw179_0), ((HB.out.cell (World.block_lt_of_cell? w _ hw179_1)).trans hw179_1), ((HB.out.cell (World.block_lt_of_cell? w _ hw179_2)).trans hw179_2)⟩ (fun hHeld => ?_)
           clear hK K
           refine norm_ (a' := ?_) ?_ ?_
           rotate_left
           ·show Act.put _ (some 34) _ = _
            simp only [nm_]
            rfl
           refine pure_ (i := 17) (N := some 35) (v := ?_) (a' := ?_) (bs_ 36 0x3ffff) rfl rfl (any_of HT_.out (by kernel_rfl)) (fun _ _ _ h => h) (Or.inl ⟨by rfl, ?_⟩) ?_ ?_; rotate_left; (intro w'; go_simp; with_reducible rfl); rotate_left; (simp only [nm_]; rfl)
           refine pure_ (i := 18) (N := some 36) (v := ?_) (a' := ?_) (bs_ 36 0x7ffff) rfl rfl (any_of HT_.out (by kernel_rfl)) (fun _ _ _ h => h) (Or.inl ⟨by rfl, ?_⟩) ?_ ?_; rotate_left; (intro w'; go_simp; with_reducible rfl); rotate_left; (simp only [nm_]; rfl)
           refine pure_ (i := 19) (N := some 37) (v := ?_) (a' := ?_) (bs_ 36 0xfffff) rfl rfl (any_of HT_.out (by kernel_rfl)) (fun _ _ _ h => h) (Or.inl ⟨by rfl, ?_⟩) ?_ ?_; rotate_left; (intro w'; go_simp; with_reducible rfl); rotate_left; (simp only [nm_]; rfl)
           refine pure_ (i := 20) (N := some 38) (v := ?_) (a' := ?_) (bs_ 36 0x1fffff) rfl rfl (any_of HT_.out (by kernel_rfl)) (fun _ _ _ h => h) (Or.inl ⟨by rfl, ?_⟩) ?_ ?_; rotate_left; (intro w'; go_simp; with_reducible rfl); rotate_left; (simp only [nm_]; rfl)
           refine pure_ (i := 21) (N := some 39) (v := undef) (a' := ?_) (bs_ 36 0x3fffff) rfl rfl (any_of HT_.out (by kernel_rfl)) (fun _ _ _ h => h) (Or.inr ⟨by rfl, rfl⟩) ?_ ?_
           rotate_left
           ·simp only [nm_]
            rfl
           refine pure_ (i := 22) (N := some 40) (v := undef) (a' := ?_) (bs_ 36 0x7fffff) rfl rfl (any_of HT_.out (by kernel_rfl)) (fun _ _ _ h => h) (Or.inr ⟨by rfl, rfl⟩) ?_ ?_
           rotate_left
           ·simp only [nm_]
            rfl
           refine pure_ (i := 23) (N := some 41) (v := undef) (a' := ?_) (bs_ 36 0xffffff) rfl rfl (any_of HT_.out (by kernel_rfl)) (fun _ _ _ h => h) (Or.inr ⟨by rfl, rfl⟩) ?_ ?_
           rotate_left
           ·simp only [nm_]
            rfl
           refine pure_ (i := 24) (N := some 42) (v := undef) (a' := ?_) (bs_ 36 0x1ffffff) rfl rfl (any_of HT_.out (by kernel_rfl)) (fun _ _ _ h => h) (Or.inr ⟨by rfl, rfl⟩) ?_ ?_
           rotate_left
           ·simp only [nm_]
            rfl
           refine pure_ (i := 25) (N := some 43) (v := undef) (a' := ?_) (bs_ 36 0x3ffffff) rfl rfl (any_of HT_.out (by kernel_rfl)) (fun _ _ _ h => h) (Or.inr ⟨by rfl, rfl⟩) ?_ ?_
           rotate_left
           ·simp only [nm_]
            rfl
           refine pure_ (i := 26) (N := some 44) (v := undef) (a' := ?_) (bs_ 36 0x7ffffff) rfl rfl (any_of HT_.out (by kernel_rfl)) (fun _ _ _ h => h) (Or.inr ⟨by rfl, rfl⟩) ?_ ?_
           rotate_left
           ·simp only [nm_]
            rfl
           refine pure_ (i := 27) (N := some 45) (v := undef) (a' := ?_) (bs_ 36 0xfffffff) rfl rfl (any_of HT_.out (by kernel_rfl)) (fun _ _ _ h => h) (Or.inr ⟨by rfl, rfl⟩) ?_ ?_
           rotate_left
           ·simp only [nm_]
            rfl
           refine pure_ (i := 28) (N := some 46) (v := undef) (a' := ?_) (bs_ 36 0x1fffffff) rfl rfl (any_of HT_.out (by kernel_rfl)) (fun _ _ _ h => h) (Or.inr ⟨by rfl, rfl⟩) ?_ ?_
           rotate_left
           ·simp only [nm_]
            rfl
           refine pure_ (i := 29) (N := some 47) (v := ?_) (a' := ?_) (bs_ 36 0x3fffffff) rfl rfl (any_of HT_.out (by kernel_rfl)) (fun _ _ _ h => h) (Or.inl ⟨by rfl, ?_⟩) ?_ ?_; rotate_left; (intro w'; go_simp; with_reducible rfl); rotate_left; (simp only [nm_]; rfl)
           refine pure_ (i := 30) (N := some 48) (v := ?_) (a' := ?_) (bs_ 36 0x7fffffff) rfl rfl (any_of HT_.out (by kernel_rfl)) (fun _ _ _ h => h) (Or.inl ⟨by rfl, ?_⟩) ?_ ?_; rotate_left; (intro w'; go_simp; with_reducible rfl); rotate_left; (simp only [nm_]; rfl)
           refine pure_ (i := 31) (N := some 49) (v := undef) (a' := ?_) (bs_ 36 0xffffffff) rfl rfl (any_of HT_.out (by kernel_rfl)) (fun _ _ _ h => h) (Or.inr ⟨by rfl, rfl⟩) ?_ ?_
           rotate_left
           ·simp only [nm_]
            rfl
           refine pure_ (i := 32) (N := some 50) (v := undef) (a' := ?_) (bs_ 36 0x1ffffffff) rfl rfl (any_of HT_.out (by kernel_rfl)) (fun _ _ _ h => h) (Or.inr ⟨by rfl, rfl⟩) ?_ ?_
           rotate_left
           ·simp only [nm_]
            rfl
           refine pure_ (i := 33) (N := some 51) (v := undef) (a' := ?_) (bs_ 36 0x3ffffffff) rfl rfl (any_of HT_.out (by kernel_rfl)) (fun _ _ _ h => h) (Or.inr ⟨by rfl, rfl⟩) ?_ ?_
           rotate_left
           ·simp only [nm_]
            rfl
           refine pure_ (i := 34) (N := some 52) (v := undef) (a' := ?_) (bs_ 36 0x7ffffffff) rfl rfl (any_of HT_.out (by kernel_rfl)) (fun _ _ _ h => h) (Or.inr ⟨by rfl, rfl⟩) ?_ ?_
           rotate_left
           ·simp only [nm_]
            rfl
           refine pure_ (i := 35) (N := some 53) (v := ?_) (a' := ?_) (bs_ 36 0xfffffffff) rfl rfl (any_of HT_.out (by kernel_rfl)) (fun _ _ _ h => h) (Or.inl ⟨by rfl, ?_⟩) ?_ ?_; rotate_left; (intro w'; go_simp; with_reducible rfl); rotate_left; (simp only [nm_]; rfl)
           refine done_ (done_of HT_.out (by kernel_rfl)) ?_
           try go_wp2
           go_meet
           case rel => exact ⟨_, (true), (by first | rfl | (simp; done) | (simp [*]; done)), H', ⟨by have := HK1.out; first | omega | exact Nat.le_refl _⟩, ⟨by (with_reducible repeat (first | refine blk_drewN ?_ _ | refine blk_drew ?_ | refine blk_alloc ?_ _)); exact BK177.out⟩, ⟨by repeat (first | (with_reducible first | exact HB.out | apply below_alloc | apply pw_below_drewN | apply below_drew1 | refine below_set ?_ GE177.out) | exact HB.out)⟩⟩
          ·rw [if_neg c14] at H
           have c14b0 : decide (0 ≤ t180) = false := decide_eq_false c14
           clear c14
           obtain ⟨bq19, hbq19⟩ : ∃ b_ : Bool, b_ = ((rd_T94 l0 x3_1).f1) := ⟨_, rfl⟩
           replace H : (if bq19 = true then (if (((rd_T94 l0 x3_1).f2).length : Int) > 0 then (tallymanref7_GoodTree.j1 k1 l0 x3_1 true ((rd_T94 l0 x3_1).f0) bq19 ((rd_T94 l0 x3_1).f2)) else (tallymanref7_GoodTree.j1 k1 l0 x3_1 (decide ((((rd_T94 l0 x3_1).f2).length : Int) > 2048)) ((rd_T94 l0 x3_1).f0) bq19 ((rd_T94 l0 x3_1).f2))) else (tallymanref7_GoodTree.j1 k1 l0 x3_1 (decide ((((rd_T94 l0 x3_1).f2).length : Int) > 2048)) ((rd_T94 l0 x3_1).f0) bq19 ((rd_T94 l0 x3_1).f2))) = some r := by rw [← hbq19] at H; exact H
           (try rw [← hbq19])
           have Nbq19 := Aside0.mk hbq19
           clear hbq19
           by_cases c20 : bq19 = true
           ·subst c20
            have H1 : (if (((rd_T94 l0 x3_1).f2).length : Int) > 0 then (tallymanref7_GoodTree.j1 k1 l0 x3_1 true ((rd_T94 l0 x3_1).f0) true ((rd_T94 l0 x3_1).f2)) else (tallymanref7_GoodTree.j1 k1 l0 x3_1 (decide ((((rd_T94 l0 x3_1).f2).length : Int) > 2048)) ((rd_T94 l0 x3_1).f0) true ((rd_T94 l0 x3_1).f2))) = some r := by rw [if_pos rfl] at H; exact H
            clear H
            have H := H1
            clear H1
            by_cases c21 : (((rd_T94 l0 x3_1).f2).length : Int) > 0
            ·rw [if_pos c21] at H
             have c21b0 : decide (0 < (((rd_T94 l0 x3_1).f2).length : Int)) = true := decide_eq_true c21
             have c21b1 : decide (0 < ((rd_T94 l0 x3_1).f2).length) = true := decide_eq_true (by omega)
             clear c21
             have H' := Aside0.mk H
             clear H
             try go_wp2
             have n0_ : Aside0 ((((w5.setCell ⟨gb177, 0, none⟩ (.string ((rd_T94 l0 x3_1).f0))).setCell ⟨gb177, 1, none⟩ (.bool (true))).setCell ⟨gb177, 2, none⟩ (.slice A176_2 ((rd_T94 l0 x3_1).f2).length c176_2)).heap[gb177]? = some (.cells #[.string ((rd_T94 l0 x3_1).f0), .bool true, .slice A176_2 ((rd_T94 l0 x3_1).f2).length c176_2] 94 (0, 0))) := ⟨by (with_reducible repeat (first | refine blk_drewN ?_ _ | refine blk_drew ?_ | refine blk_alloc ?_ _)); refine blk_put (cs := #[.string ((rd_T94 l0 x3_1).f0), .bool (true), .slice none 0 0]) ?_ 2 _ rfl; (with_reducible repeat (first | refine blk_drewN ?_ _ | refine blk_drew ?_ | refine blk_alloc ?_ _)); refine blk_put (cs := #[.string ((rd_T94 l0 x3_1).f0), .bool false, .slice none 0 0]) ?_ 1 _ rfl; (with_reducible repeat (first | refine blk_drewN ?_ _ | refine blk_drew ?_ | refine blk_alloc ?_ _)); refine blk_put (cs := #[.string (⟨#[]⟩ : ByteArray), .bool false, .slice none 0 0]) ?_ 0 _ rfl; (with_reducible repeat (first | refine blk_drewN ?_ _ | refine blk_drew ?_ | refine blk_alloc ?_ _)); exact BK177.out⟩
             have n1_ : Aside0 (Below w.heap.size w (((w5.setCell ⟨gb177, 0, none⟩ (.string ((rd_T94 l0 x3_1).f0))).setCell ⟨gb177, 1, none⟩ (.bool (true))).setCell ⟨gb177, 2, none⟩ (.slice A176_2 ((rd_T94 l0 x3_1).f2).length c176_2))) := ⟨by repeat (first | (with_reducible first | exact HB.out | apply below_alloc | apply pw_below_drewN | apply below_drew1 | refine below_set ?_ GE177.out) | exact HB.out)⟩
             (try clear BK177)
             (try clear HB)
             generalize (((w5.setCell ⟨gb177, 0, none⟩ (.string ((rd_T94 l0 x3_1).f0))).setCell ⟨gb177, 1, none⟩ (.bool (true))).setCell ⟨gb177, 2, none⟩ (.slice A176_2 ((rd_T94 l0 x3_1).f2).length c176_2)) = w22 at n0_ n1_ ⊢
             have BK177 := n0_
             have HB := n1_
             clear n0_ n1_
             have n0_ := xa_ (blk_drew BK177.out)
             have n1_ := xa_ (below_drew1 HB.out)
             clear BK177
             clear HB
             have BK177 := n0_
             have HB := n1_
             clear n0_ n1_
             have p179 : 0 ≤ ((ji10) : Int) := of_decide_eq_true (by first | (with_reducible assumption) | assumption)
             have q179 : (ji10) < (l0.length : Int) := of_decide_eq_true (by first | (with_reducible assumption) | assumption)
             obtain ⟨ad179, A179_2, c179_2, e179, hx179_0, hx179_1, hx179_2, hl179_2, hi179_2⟩ := at_T94 HR0.out (ji10) p179 q179
             have hw179_2 := hx179_2
             have hw179_1 := hx179_1
             have hw179_0 := hx179_0
             (try rw [← Nbq19.out] at hx179_1)
             (try rw [← Nbq19.out] at hw179_1)
             obtain rfl : ad176 = ad179 := (by injection e179)
             replace hx179_0 := (HB.out.cell (World.block_lt_of_cell? w _ hx179_0)).trans hx179_0
             replace hx179_1 := (HB.out.cell (World.block_lt_of_cell? w _ hx179_1)).trans hx179_1
             replace hx179_2 := (HB.out.cell (World.block_lt_of_cell? w _ hx179_2)).trans hx179_2
             have HR179_2 := Aside0.mk hi179_2
             have HC179_2 := Aside0.mk hl179_2
             clear hi179_2 hl179_2
             replace p179 := eq_true p179
             replace q179 := eq_true q179
             refine start_ (n := 36) (S := fun w' => w'.cell? ⟨gb177, 0, none⟩ = some (.string ((rd_T94 l0 x3_1).f0)) ∧ w'.cell? ⟨gb177, 1, none⟩ = some (.bool true) ∧ w'.cell? ⟨gb177, 2, none⟩ = some (.slice A176_2 ((rd_T94 l0 x3_1).f2).length c176_2) ∧ w'.cell? (ad176.add (((ji10)).toNat * 3)) = some (.string ((rd_T94 l0 (ji10)).f0)) ∧ w'.cell? ⟨(ad176.add (((ji10)).toNat * 3)).block, (ad176.add (((ji10)).toNat * 3)).off + 1, none⟩ = some (.bool ((rd_T94 l0 (ji10)).f1)) ∧ w'.cell? ⟨(ad176.add (((ji10)).toNat * 3)).block, (ad176.add (((ji10)).toNat * 3)).off + 2, none⟩ = some (.slice A179_2 ((rd_T94 l0 (ji10)).f2).length c179_2)) (ds := []) (bs_ 36 0x0) (by kernel_rfl) rfl rfl ⟨(blk_cell BK177.out 0).trans rfl, (blk_cell BK177.out 1).trans rfl, (blk_cell BK177.out 2).trans rfl, ((HB.out.cell (World.block_lt_of_cell? w _ hw179_0)).trans hw179_0), ((HB.out.cell (World.block_lt_of_cell? w _ hw179_1)).trans hw179_1), ((HB.out.cell (World.block_lt_of_cell? w _ hw179_2)).trans hw179_2)⟩ (fun hHeld => ?_); refine with_tabW tallymanref7_GoodTree.tab5 tallymanref7_GoodTree.bits5 (fun HT_ HW_ => ?_)
             generalize w22.drew = w23 at BK177 HB HR179_2 hx179_0 hx179_1 hx179_2 hHeld ⊢
             refine pure_ (i := 0) (N := some 18) (v := ?_) (a' := ?_) (bs_ 36 0x1) rfl rfl (any_of HT_.out (by kernel_rfl)) (fun _ _ _ h => h) (Or.inl ⟨by rfl, ?_⟩) ?_ ?_; rotate_left; (intro w'; go_simp; with_reducible rfl); rotate_left; (simp only [nm_]; rfl)
             refine take_ (i := 1) (N := some 19) (v := ?_) (a' := ?_) (bs_ 36 0x3) rfl rfl (take_ofW HT_.out HW_.out (by kernel_rfl)) (fun _ _ _ h => h) (Or.inl ⟨by rfl, ?_⟩) hHeld ?_ ?_; rotate_left; (rintro w' ⟨s0, s1, s2, s3, s4, s5⟩; go_simp; with_reducible rfl); rotate_left; (simp only [nm_]; rfl)
             refine one_ (i := 2) (N := some 20) (bs_ 36 0x7) rfl rfl (one_of HT_.out (by kernel_rfl)) (by decide) (fun K hK => ?_)
             refine goes_ Tryd.func42 (by kernel_rfl) rfl #[.string ((rd_T94 l0 x3_1).f0)] (by rfl) rfl rfl (by (try simp only [List.map_toArray, List.map_cons, List.map_nil]); first | done | rfl | (simp only [List.length_drop, List.length_take]; rfl)) ?_
             with_reducible refine (tallymanref7_Good.calls ((rd_T94 l0 x3_1).f0) true _ A7.out).mono ?_
             rintro e w24 ⟨rfl, hb⟩
             refine ⟨_, rfl, ?_⟩
             have n0_ := xa_ (blk_below (xb_ BK177.out) hb)
             have n1_ := xa_ (below_step (by repeat (first | (with_reducible first | exact HB.out | apply below_alloc | apply pw_below_drewN | apply below_drew1 | refine below_set ?_ GE177.out) | exact HB.out)) hb)
             clear BK177
             clear HB
             have BK177 := n0_
             have HB := n1_
             clear n0_ n1_
             (try clear hb)
             (try clear hb2)
             (try clear hk)
             (try clear hi)
             refine hK.out _ _ ⟨(blk_cell BK177.out 0).trans rfl, (blk_cell BK177.out 1).trans rfl, (blk_cell BK177.out 2).trans rfl, ((HB.out.cell (World.block_lt_of_cell? w _ hw179_0)).trans hw179_0), ((HB.out.cell (World.block_lt_of_cell? w _ hw179_1)).trans hw179_1), ((HB.out.cell (World.block_lt_of_cell? w _ hw179_2)).trans hw179_2)⟩ (fun hHeld => ?_)
             clear hK K
             refine norm_ (a' := ?_) ?_ ?_
             rotate_left
             ·show Act.put _ (some 20) _ = _
              simp only [nm_]
              rfl
             refine pure_ (i := 3) (N := some 21) (v := ?_) (a' := ?_) (bs_ 36 0xf) rfl rfl (any_of HT_.out (by kernel_rfl)) (fun _ _ _ h => h) (Or.inl ⟨by rfl, ?_⟩) ?_ ?_; rotate_left; (intro w'; go_simp; with_reducible rfl); rotate_left; (simp only [nm_]; rfl)
             refine pure_ (i := 4) (N := some 22) (v := ?_) (a' := ?_) (bs_ 36 0x1f) rfl rfl (any_of HT_.out (by kernel_rfl)) (fun _ _ _ h => h) (Or.inl ⟨by rfl, ?_⟩) ?_ ?_; rotate_left; (intro w'; go_simp; with_reducible rfl); rotate_left; (simp only [nm_]; rfl)
             refine pure_ (i := 5) (N := some 23) (v := ?_) (a' := ?_) (bs_ 36 0x3f) rfl rfl (any_of HT_.out (by kernel_rfl)) (fun _ _ _ h => h) (Or.inl ⟨by rfl, ?_⟩) ?_ ?_; rotate_left; (intro w'; go_simp; with_reducible rfl); rotate_left; (simp only [nm_]; rfl)
             refine pure_ (i := 6) (N := some 24) (v := ?_) (a' := ?_) (bs_ 36 0x7f) rfl rfl (any_of HT_.out (by kernel_rfl)) (fun _ _ _ h => h) (Or.inl ⟨by rfl, ?_⟩) ?_ ?_; rotate_left; (intro w'; go_simp; with_reducible rfl); rotate_left; (simp only [nm_]; rfl)
             refine pure_ (i := 7) (N := some 25) (v := ?_) (a' := ?_) (bs_ 36 0xff) rfl rfl (any_of HT_.out (by kernel_rfl)) (fun _ _ _ h => h) (Or.inl ⟨by rfl, ?_⟩) ?_ ?_; rotate_left; (intro w'; go_simp; with_reducible rfl); rotate_left; (simp only [nm_]; rfl)
             refine pure_ (i := 8) (N := some 26) (v := ?_) (a' := ?_) (bs_ 36 0x1ff) rfl rfl (any_of HT_.out (by kernel_rfl)) (fun _ _ _ h => h) (Or.inl ⟨by rfl, ?_⟩) ?_ ?_; rotate_left; (intro w'; go_simp; with_reducible rfl); rotate_left; (simp only [nm_]; rfl)
             refine pure_ (i := 9) (N := some 27) (v := ?_) (a' := ?_) (bs_ 36 0x3ff) rfl rfl (any_of HT_.out (by kernel_rfl)) (fun _ _ _ h => h) (Or.inl ⟨by rfl, ?_⟩) ?_ ?_; rotate_left; (intro w'; go_simp; with_reducible rfl); rotate_left; (simp only [nm_]; rfl)
             refine pure_ (i := 10) (N := some 28) (v := ?_) (a' := ?_) (bs_ 36 0x7ff) rfl rfl (any_of HT_.out (by kernel_rfl)) (fun _ _ _ h => h) (Or.inl ⟨by rfl, ?_⟩) ?_ ?_; rotate_left; (intro w'; go_simp; with_reducible rfl); rotate_left; (simp only [nm_]; rfl)
             refine pure_ (i := 11) (N := some 29) (v := ?_) (a' := ?_) (bs_ 36 0xfff) rfl rfl (any_of HT_.out (by kernel_rfl)) (fun _ _ _ h => h) (Or.inl ⟨by rfl, ?_⟩) ?_ ?_; rotate_left; (intro w'; go_simp; with_reducible rfl); rotate_left; (simp only [nm_]; rfl)
             refine pure_ (i := 12) (N := some 30) (v := ?_) (a' := ?_) (bs_ 36 0x1fff) rfl rfl (any_of HT_.out (by kernel_rfl)) (fun _ _ _ h => h) (Or.inl ⟨by rfl, ?_⟩) ?_ ?_; rotate_left; (intro w'; go_simp; with_reducible rfl); rotate_left; (simp only [nm_]; rfl)
             refine pure_ (i := 14) (N := some 32) (v := ?_) (a' := ?_) (bs_ 36 0x5fff) rfl rfl (any_of HT_.out (by kernel_rfl)) (fun _ _ _ h => h) (Or.inl ⟨by rfl, ?_⟩) ?_ ?_; rotate_left; (intro w'; go_simp; with_reducible rfl); rotate_left; (simp only [nm_]; rfl)
             refine take_ (i := 13) (N := some 31) (v := ?_) (a' := ?_) (bs_ 36 0x7fff) rfl rfl (take_ofW HT_.out HW_.out (by kernel_rfl)) (fun _ _ _ h => h) (Or.inl ⟨by rfl, ?_⟩) hHeld ?_ ?_; rotate_left; (rintro w' ⟨s0, s1, s2, s3, s4, s5⟩; go_simp; with_reducible rfl); rotate_left; (simp only [nm_]; rfl)
             refine take_ (i := 15) (N := some 33) (v := ?_) (a' := ?_) (bs_ 36 0xffff) rfl rfl (take_ofW HT_.out HW_.out (by kernel_rfl)) (fun _ _ _ h => h) (Or.inl ⟨by rfl, ?_⟩) hHeld ?_ ?_; rotate_left; (rintro w' ⟨s0, s1, s2, s3, s4, s5⟩; go_simp; with_reducible rfl); rotate_left; (simp only [nm_]; rfl)
             refine one_ (i := 16) (N := some 34) (bs_ 36 0x1ffff) rfl rfl (one_of HT_.out (by kernel_rfl)) (by decide) (fun K hK => ?_)
             refine goes_ Tryd.func52 (by kernel_rfl) rfl #[.string ((rd_T94 l0 (ji10)).f0), .string ((rd_T94 l0 x3_1).f0)] (by rfl) rfl rfl (by (try simp only [List.map_toArray, List.map_cons, List.map_nil]); first | done | (simp only [hji10]; rfl) | rfl | (simp only [List.length_drop, List.length_take]; rfl)) ?_
             with_reducible refine (tallymanref7_Cmp.calls ((rd_T94 l0 (ji10)).f0) ((rd_T94 l0 x3_1).f0) t180 _ A13.out).mono ?_
             rintro e w25 ⟨rfl, hb⟩
             refine ⟨_, rfl, ?_⟩
             have n0_ := xa_ (blk_below (xb_ BK177.out) hb)
             have n1_ := xa_ (below_step (by repeat (first | (with_reducible first | exact HB.out | apply below_alloc | apply pw_below_drewN | apply below_drew1 | refine below_set ?_ GE177.out) | exact HB.out)) hb)
             clear BK177
             clear HB
             have BK177 := n0_
             have HB := n1_
             clear n0_ n1_
             (try clear hb)
             (try clear hb2)
             (try clear hk)
             (try clear hi)
             refine hK.out _ _ ⟨(blk_cell BK177.out 0).trans rfl, (blk_cell BK177.out 1).trans rfl, (blk_cell BK177.out 2).trans rfl, ((HB.out.cell (World.block_lt_of_cell? w _ hw179_0)).trans hw179_0), ((HB.out.cell (World.block_lt_of_cell? w _ hw179_1)).trans hw179_1), ((HB.out.cell (World.block_lt_of_cell? w _ hw179_2)).trans hw179_2)⟩ (fun hHeld => ?_)
             clear hK K
             refine norm_ (a' := ?_) ?_ ?_
             rotate_left
             ·show Act.put _ (some 34) _ = _
              simp only [nm_]
              rfl
             refine pure_ (i := 17) (N := some 35) (v := ?_) (a' := ?_) (bs_ 36 0x3ffff) rfl rfl (any_of HT_.out (by kernel_rfl)) (fun _ _ _ h => h) (Or.inl ⟨by rfl, ?_⟩) ?_ ?_; rotate_left; (intro w'; go_simp; with_reducible rfl); rotate_left; (simp only [nm_]; rfl)
             refine pure_ (i := 18) (N := some 36) (v := ?_) (a' := ?_) (bs_ 36 0x7ffff) rfl rfl (any_of HT_.out (by kernel_rfl)) (fun _ _ _ h => h) (Or.inl ⟨by rfl, ?_⟩) ?_ ?_; rotate_left; (intro w'; go_simp; with_reducible rfl); rotate_left; (simp only [nm_]; rfl)
             refine pure_ (i := 19) (N := some 37) (v := ?_) (a' := ?_) (bs_ 36 0xfffff) rfl rfl (any_of HT_.out (by kernel_rfl)) (fun _ _ _ h => h) (Or.inl ⟨by rfl, ?_⟩) ?_ ?_; rotate_left; (intro w'; go_simp; with_reducible rfl); rotate_left; (simp only [nm_]; rfl)
             refine pure_ (i := 20) (N := some 38) (v := ?_) (a' := ?_) (bs_ 36 0x1fffff) rfl rfl (any_of HT_.out (by kernel_rfl)) (fun _ _ _ h => h) (Or.inl ⟨by rfl, ?_⟩) ?_ ?_; rotate_left; (intro w'; go_simp; with_reducible rfl); rotate_left; (simp only [nm_]; rfl)
             refine pure_ (i := 21) (N := some 39) (v := ?_) (a' := ?_) (bs_ 36 0x3fffff) rfl rfl (any_of HT_.out (by kernel_rfl)) (fun _ _ _ h => h) (Or.inl ⟨by rfl, ?_⟩) ?_ ?_; rotate_left; (intro w'; go_simp; with_reducible rfl); rotate_left; (simp only [nm_]; rfl)
             refine take_ (i := 22) (N := some 40) (v := ?_) (a' := ?_) (bs_ 36 0x7fffff) rfl rfl (take_ofW HT_.out HW_.out (by kernel_rfl)) (fun _ _ _ h => h) (Or.inl ⟨by rfl, ?_⟩) hHeld ?_ ?_; rotate_left; (rintro w' ⟨s0, s1, s2, s3, s4, s5⟩; go_simp; with_reducible rfl); rotate_left; (simp only [nm_]; rfl)
             refine pure_ (i := 23) (N := some 41) (v := ?_) (a' := ?_) (bs_ 36 0xffffff) rfl rfl (any_of HT_.out (by kernel_rfl)) (fun _ _ _ h => h) (Or.inl ⟨by rfl, ?_⟩) ?_ ?_; rotate_left; (intro w'; go_simp; with_reducible rfl); rotate_left; (simp only [nm_]; rfl)
             refine pure_ (i := 24) (N := some 42) (v := ?_) (a' := ?_) (bs_ 36 0x1ffffff) rfl rfl (any_of HT_.out (by kernel_rfl)) (fun _ _ _ h => h) (Or.inl ⟨by rfl, ?_⟩) ?_ ?_; rotate_left; (intro w'; go_simp; with_reducible rfl); rotate_left; (simp only [nm_]; rfl)
             refine take_ (i := 25) (N := some 43) (v := ?_) (a' := ?_) (bs_ 36 0x3ffffff) rfl rfl (take_ofW HT_.out HW_.out (by kernel_rfl)) (fun _ _ _ h => h) (Or.inl ⟨by rfl, ?_⟩) hHeld ?_ ?_; rotate_left; (rintro w' ⟨s0, s1, s2, s3, s4, s5⟩; go_simp; with_reducible rfl); rotate_left; (simp only [nm_]; rfl)
             refine pure_ (i := 26) (N := some 44) (v := ?_) (a' := ?_) (bs_ 36 0x7ffffff) rfl rfl (any_of HT_.out (by kernel_rfl)) (fun _ _ _ h => h) (Or.inl ⟨by rfl, ?_⟩) ?_ ?_; rotate_left; (intro w'; go_simp; with_reducible rfl); rotate_left; (simp only [nm_]; rfl)
             refine pure_ (i := 27) (N := some 45) (v := ?_) (a' := ?_) (bs_ 36 0xfffffff) rfl rfl (any_of HT_.out (by kernel_rfl)) (fun _ _ _ h => h) (Or.inl ⟨by rfl, ?_⟩) ?_ ?_; rotate_left; (intro w'; go_simp; with_reducible rfl); rotate_left; (simp only [nm_]; rfl)
             refine pure_ (i := 28) (N := some 46) (v := ?_) (a' := ?_) (bs_ 36 0x1fffffff) rfl rfl (any_of HT_.out (by kernel_rfl)) (fun _ _ _ h => h) (Or.inl ⟨by rfl, ?_⟩) ?_ ?_; rotate_left; (intro w'; go_simp; with_reducible rfl); rotate_left; (simp only [nm_]; rfl)
             refine pure_ (i := 29) (N := some 47) (v := ?_) (a' := ?_) (bs_ 36 0x3fffffff) rfl rfl (any_of HT_.out (by kernel_rfl)) (fun _ _ _ h => h) (Or.inl ⟨by rfl, ?_⟩) ?_ ?_; rotate_left; (intro w'; go_simp; with_reducible rfl); rotate_left; (simp only [nm_]; rfl)
             refine pure_ (i := 30) (N := some 48) (v := ?_) (a' := ?_) (bs_ 36 0x7fffffff) rfl rfl (any_of HT_.out (by kernel_rfl)) (fun _ _ _ h => h) (Or.inl ⟨by rfl, ?_⟩) ?_ ?_; rotate_left; (intro w'; go_simp; with_reducible rfl); rotate_left; (simp only [nm_]; rfl)
             refine pure_ (i := 31) (N := some 49) (v := undef) (a' := ?_) (bs_ 36 0xffffffff) rfl rfl (any_of HT_.out (by kernel_rfl)) (fun _ _ _ h => h) (Or.inr ⟨by rfl, rfl⟩) ?_ ?_
             rotate_left
             ·simp only [nm_]
              rfl
             refine pure_ (i := 32) (N := some 50) (v := undef) (a' := ?_) (bs_ 36 0x1ffffffff) rfl rfl (any_of HT_.out (by kernel_rfl)) (fun _ _ _ h => h) (Or.inr ⟨by rfl, rfl⟩) ?_ ?_
             rotate_left
             ·simp only [nm_]
              rfl
             refine pure_ (i := 33) (N := some 51) (v := undef) (a' := ?_) (bs_ 36 0x3ffffffff) rfl rfl (any_of HT_.out (by kernel_rfl)) (fun _ _ _ h => h) (Or.inr ⟨by rfl, rfl⟩) ?_ ?_
             rotate_left
             ·simp only [nm_]
              rfl
             refine pure_ (i := 34) (N := some 52) (v := undef) (a' := ?_) (bs_ 36 0x7ffffffff) rfl rfl (any_of HT_.out (by kernel_rfl)) (fun _ _ _ h => h) (Or.inr ⟨by rfl, rfl⟩) ?_ ?_
             rotate_left
             ·simp only [nm_]
              rfl
             refine pure_ (i := 35) (N := some 53) (v := ?_) (a' := ?_) (bs_ 36 0xfffffffff) rfl rfl (any_of HT_.out (by kernel_rfl)) (fun _ _ _ h => h) (Or.inl ⟨by rfl, ?_⟩) ?_ ?_; rotate_left; (intro w'; go_simp; with_reducible rfl); rotate_left; (simp only [nm_]; rfl)
             refine done_ (done_of HT_.out (by kernel_rfl)) ?_
             try go_wp2
             go_meet
             case rel => (try rw [← Nbq19.out]); exact ⟨_, (true), (by first | rfl | (simp; done) | (simp [*]; done)), H', ⟨by have := HK1.out; first | omega | exact Nat.le_refl _⟩, ⟨by (with_reducible repeat (first | refine blk_drewN ?_ _ | refine blk_drew ?_ | refine blk_alloc ?_ _)); exact BK177.out⟩, ⟨by repeat (first | (with_reducible first | exact HB.out | apply below_alloc | apply pw_below_drewN | apply below_drew1 | refine below_set ?_ GE177.out) | exact HB.out)⟩⟩
            ·rw [if_neg c21] at H
             have c21b0 : decide (0 < (((rd_T94 l0 x3_1).f2).length : Int)) = false := decide_eq_false c21
             have c21b1 : decide (0 < ((rd_T94 l0 x3_1).f2).length) = false := decide_eq_false (by omega)
             clear c21
             have H' := Aside0.mk H
             clear H
             try go_wp2
             have n0_ : Aside0 ((((w5.setCell ⟨gb177, 0, none⟩ (.string ((rd_T94 l0 x3_1).f0))).setCell ⟨gb177, 1, none⟩ (.bool (true))).setCell ⟨gb177, 2, none⟩ (.slice A176_2 ((rd_T94 l0 x3_1).f2).length c176_2)).heap[gb177]? = some (.cells #[.string ((rd_T94 l0 x3_1).f0), .bool true, .slice A176_2 ((rd_T94 l0 x3_1).f2).length c176_2] 94 (0, 0))) := ⟨by (with_reducible repeat (first | refine blk_drewN ?_ _ | refine blk_drew ?_ | refine blk_alloc ?_ _)); refine blk_put (cs := #[.string ((rd_T94 l0 x3_1).f0), .bool (true), .slice none 0 0]) ?_ 2 _ rfl; (with_reducible repeat (first | refine blk_drewN ?_ _ | refine blk_drew ?_ | refine blk_alloc ?_ _)); refine blk_put (cs := #[.string ((rd_T94 l0 x3_1).f0), .bool false, .slice none 0 0]) ?_ 1 _ rfl; (with_reducible repeat (first | refine blk_drewN ?_ _ | refine blk_drew ?_ | refine blk_alloc ?_ _)); refine blk_put (cs := #[.string (⟨#[]⟩ : ByteArray), .bool false, .slice none 0 0]) ?_ 0 _ rfl; (with_reducible repeat (first | refine blk_drewN ?_ _ | refine blk_drew ?_ | refine blk_alloc ?_ _)); exact BK177.out⟩
             have n1_ : Aside0 (Below w.heap.size w (((w5.setCell ⟨gb177, 0, none⟩ (.string ((rd_T94 l0 x3_1).f0))).setCell ⟨gb177, 1, none⟩ (.bool (true))).setCell ⟨gb177, 2, none⟩ (.slice A176_2 ((rd_T94 l0 x3_1).f2).length c176_2))) := ⟨by repeat (first | (with_reducible first | exact HB.out | apply below_alloc | apply pw_below_drewN | apply below_drew1 | refine below_set ?_ GE177.out) | exact HB.out)⟩
             (try clear BK177)
             (try clear HB)
             generalize (((w5.setCell ⟨gb177, 0, none⟩ (.string ((rd_T94 l0 x3_1).f0))).setCell ⟨gb177, 1, none⟩ (.bool (true))).setCell ⟨gb177, 2, none⟩ (.slice A176_2 ((rd_T94 l0 x3_1).f2).length c176_2)) = w26 at n0_ n1_ ⊢
             have BK177 := n0_
             have HB := n1_
             clear n0_ n1_
             have n0_ := xa_ (blk_drew BK177.out)
             have n1_ := xa_ (below_drew1 HB.out)
             clear BK177
             clear HB
             have BK177 := n0_
             have HB := n1_
             clear n0_ n1_
             have p179 : 0 ≤ ((ji10) : Int) := of_decide_eq_true (by first | (with_reducible assumption) | assumption)
             have q179 : (ji10) < (l0.length : Int) := of_decide_eq_true (by first | (with_reducible assumption) | assumption)
             obtain ⟨ad179, A179_2, c179_2, e179, hx179_0, hx179_1, hx179_2, hl179_2, hi179_2⟩ := at_T94 HR0.out (ji10) p179 q179
             have hw179_2 := hx179_2
             have hw179_1 := hx179_1
             have hw179_0 := hx179_0
             (try rw [← Nbq19.out] at hx179_1)
             (try rw [← Nbq19.out] at hw179_1)
             obtain rfl : ad176 = ad179 := (by injection e179)
             replace hx179_0 := (HB.out.cell (World.block_lt_of_cell? w _ hx179_0)).trans hx179_0
             replace hx179_1 := (HB.out.cell (World.block_lt_of_cell? w _ hx179_1)).trans hx179_1
             replace hx179_2 := (HB.out.cell (World.block_lt_of_cell? w _ hx179_2)).trans hx179_2
             have HR179_2 := Aside0.mk hi179_2
             have HC179_2 := Aside0.mk hl179_2
             clear hi179_2 hl179_2
             replace p179 := eq_true p179
             replace q179 := eq_true q179
             refine start_ (n := 36) (S := fun w' => w'.cell? ⟨gb177, 0, none⟩ = some (.string ((rd_T94 l0 x3_1).f0)) ∧ w'.cell? ⟨gb177, 1, none⟩ = some (.bool true) ∧ w'.cell? ⟨gb177, 2, none⟩ = some (.slice A176_2 ((rd_T94 l0 x3_1).f2).length c176_2) ∧ w'.cell? (ad176.add (((ji10)).toNat * 3)) = some (.string ((rd_T94 l0 (ji10)).f0)) ∧ w'.cell? ⟨(ad176.add (((ji10)).toNat * 3)).block, (ad176.add (((ji10)).toNat * 3)).off + 1, none⟩ = some (.bool ((rd_T94 l0 (ji10)).f1)) ∧ w'.cell? ⟨(ad176.add (((ji10)).toNat * 3)).block, (ad176.add (((ji10)).toNat * 3)).off + 2, none⟩ = some (.slice A179_2 ((rd_T94 l0 (ji10)).f2).length c179_2)) (ds := []) (bs_ 36 0x0) (by kernel_rfl) rfl rfl ⟨(blk_cell BK177.out 0).trans rfl, (blk_cell BK177.out 1).trans rfl, (blk_cell BK177.out 2).trans rfl, ((HB.out.cell (World.block_lt_of_cell? w _ hw179_0)).trans hw179_0), ((HB.out.cell (World.block_lt_of_cell? w _ hw179_1)).trans hw179_1), ((HB.out.cell (World.block_lt_of_cell? w _ hw179_2)).trans hw179_2)⟩ (fun hHeld => ?_); refine with_tabW tallymanref7_GoodTree.tab5 tallymanref7_GoodTree.bits5 (fun HT_ HW_ => ?_)
             generalize w26.drew = w27 at BK177 HB HR179_2 hx179_0 hx179_1 hx179_2 hHeld ⊢
             refine pure_ (i := 0) (N := some 18) (v := ?_) (a' := ?_) (bs_ 36 0x1) rfl rfl (any_of HT_.out (by kernel_rfl)) (fun _ _ _ h => h) (Or.inl ⟨by rfl, ?_⟩) ?_ ?_; rotate_left; (intro w'; go_simp; with_reducible rfl); rotate_left; (simp only [nm_]; rfl)
             refine take_ (i := 1) (N := some 19) (v := ?_) (a' := ?_) (bs_ 36 0x3) rfl rfl (take_ofW HT_.out HW_.out (by kernel_rfl)) (fun _ _ _ h => h) (Or.inl ⟨by rfl, ?_⟩) hHeld ?_ ?_; rotate_left; (rintro w' ⟨s0, s1, s2, s3, s4, s5⟩; go_simp; with_reducible rfl); rotate_left; (simp only [nm_]; rfl)
             refine one_ (i := 2) (N := some 20) (bs_ 36 0x7) rfl rfl (one_of HT_.out (by kernel_rfl)) (by decide) (fun K hK => ?_)
             refine goes_ Tryd.func42 (by kernel_rfl) rfl #[.string ((rd_T94 l0 x3_1).f0)] (by rfl) rfl rfl (by (try simp only [List.map_toArray, List.map_cons, List.map_nil]); first | done | rfl | (simp only [List.length_drop, List.length_take]; rfl)) ?_
             with_reducible refine (tallymanref7_Good.calls ((rd_T94 l0 x3_1).f0) true _ A7.out).mono ?_
             rintro e w28 ⟨rfl, hb⟩
             refine ⟨_, rfl, ?_⟩
             have n0_ := xa_ (blk_below (xb_ BK177.out) hb)
             have n1_ := xa_ (below_step (by repeat (first | (with_reducible first | exact HB.out | apply below_alloc | apply pw_below_drewN | apply below_drew1 | refine below_set ?_ GE177.out) | exact HB.out)) hb)
             clear BK177
             clear HB
             have BK177 := n0_
             have HB := n1_
             clear n0_ n1_
             (try clear hb)
             (try clear hb2)
             (try clear hk)
             (try clear hi)
             refine hK.out _ _ ⟨(blk_cell BK177.out 0).trans rfl, (blk_cell BK177.out 1).trans rfl, (blk_cell BK177.out 2).trans rfl, ((HB.out.cell (World.block_lt_of_cell? w _ hw179_0)).trans hw179_0), ((HB.out.cell (World.block_lt_of_cell? w _ hw179_1)).trans hw179_1), ((HB.out.cell (World.block_lt_of_cell? w _ hw179_2)).trans hw179_2)⟩ (fun hHeld => ?_)
             clear hK K
             refine norm_ (a' := ?_) ?_ ?_
             rotate_left
             ·show Act.put _ (some 20) _ = _
              simp only [nm_]
              rfl
             refine pure_ (i := 3) (N := some 21) (v := ?_) (a' := ?_) (bs_ 36 0xf) rfl rfl (any_of HT_.out (by kernel_rfl)) (fun _ _ _ h => h) (Or.inl ⟨by rfl, ?_⟩) ?_ ?_; rotate_left; (intro w'; go_simp; with_reducible rfl); rotate_left; (simp only [nm_]; rfl)
             refine pure_ (i := 4) (N := some 22) (v := ?_) (a' := ?_) (bs_ 36 0x1f) rfl rfl (any_of HT_.out (by kernel_rfl)) (fun _ _ _ h => h) (Or.inl ⟨by rfl, ?_⟩) ?_ ?_; rotate_left; (intro w'; go_simp; with_reducible rfl); rotate_left; (simp only [nm_]; rfl)
             refine pure_ (i := 5) (N := some 23) (v := ?_) (a' := ?_) (bs_ 36 0x3f) rfl rfl (any_of HT_.out (by kernel_rfl)) (fun _ _ _ h => h) (Or.inl ⟨by rfl, ?_⟩) ?_ ?_; rotate_left; (intro w'; go_simp; with_reducible rfl); rotate_left; (simp only [nm_]; rfl)
             refine pure_ (i := 6) (N := some 24) (v := ?_) (a' := ?_) (bs_ 36 0x7f) rfl rfl (any_of HT_.out (by kernel_rfl)) (fun _ _ _ h => h) (Or.inl ⟨by rfl, ?_⟩) ?_ ?_; rotate_left; (intro w'; go_simp; with_reducible rfl); rotate_left; (simp only [nm_]; rfl)
             refine pure_ (i := 7) (N := some 25) (v := ?_) (a' := ?_) (bs_ 36 0xff) rfl rfl (any_of HT_.out (by kernel_rfl)) (fun _ _ _ h => h) (Or.inl ⟨by rfl, ?_⟩) ?_ ?_; rotate_left; (intro w'; go_simp; with_reducible rfl); rotate_left; (simp only [nm_]; rfl)
             refine pure_ (i := 8) (N := some 26) (v := ?_) (a' := ?_) (bs_ 36 0x1ff) rfl rfl (any_of HT_.out (by kernel_rfl)) (fun _ _ _ h => h) (Or.inl ⟨by rfl, ?_⟩) ?_ ?_; rotate_left; (intro w'; go_simp; with_reducible rfl); rotate_left; (simp only [nm_]; rfl)
             refine pure_ (i := 9) (N := some 27) (v := ?_) (a' := ?_) (bs_ 36 0x3ff) rfl rfl (any_of HT_.out (by kernel_rfl)) (fun _ _ _ h => h) (Or.inl ⟨by rfl, ?_⟩) ?_ ?_; rotate_left; (intro w'; go_simp; with_reducible rfl); rotate_left; (simp only [nm_]; rfl)
             refine pure_ (i := 10) (N := some 28) (v := ?_) (a' := ?_) (bs_ 36 0x7ff) rfl rfl (any_of HT_.out (by kernel_rfl)) (fun _ _ _ h => h) (Or.inl ⟨by rfl, ?_⟩) ?_ ?_; rotate_left; (intro w'; go_simp; with_reducible rfl); rotate_left; (simp only [nm_]; rfl)
             refine pure_ (i := 11) (N := some 29) (v := ?_) (a' := ?_) (bs_ 36 0xfff) rfl rfl (any_of HT_.out (by kernel_rfl)) (fun _ _ _ h => h) (Or.inl ⟨by rfl, ?_⟩) ?_ ?_; rotate_left; (intro w'; go_simp; with_reducible rfl); rotate_left; (simp only [nm_]; rfl)
             refine pure_ (i := 12) (N := some 30) (v := ?_) (a' := ?_) (bs_ 36 0x1fff) rfl rfl (any_of HT_.out (by kernel_rfl)) (fun _ _ _ h => h) (Or.inl ⟨by rfl, ?_⟩) ?_ ?_; rotate_left; (intro w'; go_simp; with_reducible rfl); rotate_left; (simp only [nm_]; rfl)
             refine pure_ (i := 14) (N := some 32) (v := ?_) (a' := ?_) (bs_ 36 0x5fff) rfl rfl (any_of HT_.out (by kernel_rfl)) (fun _ _ _ h => h) (Or.inl ⟨by rfl, ?_⟩) ?_ ?_; rotate_left; (intro w'; go_simp; with_reducible rfl); rotate_left; (simp only [nm_]; rfl)
             refine take_ (i := 13) (N := some 31) (v := ?_) (a' := ?_) (bs_ 36 0x7fff) rfl rfl (take_ofW HT_.out HW_.out (by kernel_rfl)) (fun _ _ _ h => h) (Or.inl ⟨by rfl, ?_⟩) hHeld ?_ ?_; rotate_left; (rintro w' ⟨s0, s1, s2, s3, s4, s5⟩; go_simp; with_reducible rfl); rotate_left; (simp only [nm_]; rfl)
             refine take_ (i := 15) (N := some 33) (v := ?_) (a' := ?_) (bs_ 36 0xffff) rfl rfl (take_ofW HT_.out HW_.out (by kernel_rfl)) (fun _ _ _ h => h) (Or.inl ⟨by rfl, ?_⟩) hHeld ?_ ?_; rotate_left; (rintro w' ⟨s0, s1, s2, s3, s4, s5⟩; go_simp; with_reducible rfl); rotate_left; (simp only [nm_]; rfl)
             refine one_ (i := 16) (N := some 34) (bs_ 36 0x1ffff) rfl rfl (one_of HT_.out (by kernel_rfl)) (by decide) (fun K hK => ?_)
             refine goes_ Tryd.func52 (by kernel_rfl) rfl #[.string ((rd_T94 l0 (ji10)).f0), .string ((rd_T94 l0 x3_1).f0)] (by rfl) rfl rfl (by (try simp only [List.map_toArray, List.map_cons, List.map_nil]); first | done | (simp only [hji10]; rfl) | rfl | (simp only [List.length_drop, List.length_take]; rfl)) ?_
             with_reducible refine (tallymanref7_Cmp.calls ((rd_T94 l0 (ji10)).f0) ((rd_T94 l0 x3_1).f0) t180 _ A13.out).mono ?_
             rintro e w29 ⟨rfl, hb⟩
             refine ⟨_, rfl, ?_⟩
             have n0_ := xa_ (blk_below (xb_ BK177.out) hb)
             have n1_ := xa_ (below_step (by repeat (first | (with_reducible first | exact HB.out | apply below_alloc | apply pw_below_drewN | apply below_drew1 | refine below_set ?_ GE177.out) | exact HB.out)) hb)
             clear BK177
             clear HB
             have BK177 := n0_
             have HB := n1_
             clear n0_ n1_
             (try clear hb)
             (try clear hb2)
             (try clear hk)
             (try clear hi)
             refine hK.out _ _ ⟨(blk_cell BK177.out 0).trans rfl, (blk_cell BK177.out 1).trans rfl, (blk_cell BK177.out 2).trans rfl, ((HB.out.cell (World.block_lt_of_cell? w _ hw179_0)).trans hw179_0), ((HB.out.cell (World.block_lt_of_cell? w _ hw179_1)).trans hw179_1), ((HB.out.cell (World.block_lt_of_cell? w _ hw179_2)).trans hw179_2)⟩ (fun hHeld => ?_)
             clear hK K
             refine norm_ (a' := ?_) ?_ ?_
             rotate_left
             ·show Act.put _ (some 34) _ = _
              simp only [nm_]
              rfl
             refine pure_ (i := 17) (N := some 35) (v := ?_) (a' := ?_) (bs_ 36 0x3ffff) rfl rfl (any_of HT_.out (by kernel_rfl)) (fun _ _ _ h => h) (Or.inl ⟨by rfl, ?_⟩) ?_ ?_; rotate_left; (intro w'; go_simp; with_reducible rfl); rotate_left; (simp only [nm_]; rfl)
             refine pure_ (i := 18) (N := some 36) (v := ?_) (a' := ?_) (bs_ 36 0x7ffff) rfl rfl (any_of HT_.out (by kernel_rfl)) (fun _ _ _ h => h) (Or.inl ⟨by rfl, ?_⟩) ?_ ?_; rotate_left; (intro w'; go_simp; with_reducible rfl); rotate_left; (simp only [nm_]; rfl)
             refine pure_ (i := 19) (N := some 37) (v := ?_) (a' := ?_) (bs_ 36 0xfffff) rfl rfl (any_of HT_.out (by kernel_rfl)) (fun _ _ _ h => h) (Or.inl ⟨by rfl, ?_⟩) ?_ ?_; rotate_left; (intro w'; go_simp; with_reducible rfl); rotate_left; (simp only [nm_]; rfl)
             refine pure_ (i := 20) (N := some 38) (v := ?_) (a' := ?_) (bs_ 36 0x1fffff) rfl rfl (any_of HT_.out (by kernel_rfl)) (fun _ _ _ h => h) (Or.inl ⟨by rfl, ?_⟩) ?_ ?_; rotate_left; (intro w'; go_simp; with_reducible rfl); rotate_left; (simp only [nm_]; rfl)
             refine pure_ (i := 21) (N := some 39) (v := ?_) (a' := ?_) (bs_ 36 0x3fffff) rfl rfl (any_of HT_.out (by kernel_rfl)) (fun _ _ _ h => h) (Or.inl ⟨by rfl, ?_⟩) ?_ ?_; rotate_left; (intro w'; go_simp; with_reducible rfl); rotate_left; (simp only [nm_]; rfl)
             refine take_ (i := 22) (N := some 40) (v := ?_) (a' := ?_) (bs_ 36 0x7fffff) rfl rfl (take_ofW HT_.out HW_.out (by kernel_rfl)) (fun _ _ _ h => h) (Or.inl ⟨by rfl, ?_⟩) hHeld ?_ ?_; rotate_left; (rintro w' ⟨s0, s1, s2, s3, s4, s5⟩; go_simp; with_reducible rfl); rotate_left; (simp only [nm_]; rfl)
             refine pure_ (i := 23) (N := some 41) (v := ?_) (a' := ?_) (bs_ 36 0xffffff) rfl rfl (any_of HT_.out (by kernel_rfl)) (fun _ _ _ h => h) (Or.inl ⟨by rfl, ?_⟩) ?_ ?_; rotate_left; (intro w'; go_simp; with_reducible rfl); rotate_left; (simp only [nm_]; rfl)
             refine pure_ (i := 24) (N := some 42) (v := ?_) (a' := ?_) (bs_ 36 0x1ffffff) rfl rfl (any_of HT_.out (by kernel_rfl)) (fun _ _ _ h => h) (Or.inl ⟨by rfl, ?_⟩) ?_ ?_; rotate_left; (intro w'; go_simp; with_reducible rfl); rotate_left; (simp only [nm_]; rfl)
             refine take_ (i := 25) (N := some 43) (v := ?_) (a' := ?_) (bs_ 36 0x3ffffff) rfl rfl (take_ofW HT_.out HW_.out (by kernel_rfl)) (fun _ _ _ h => h) (Or.inl ⟨by rfl, ?_⟩) hHeld ?_ ?_; rotate_left; (rintro w' ⟨s0, s1, s2, s3, s4, s5⟩; go_simp; with_reducible rfl); rotate_left; (simp only [nm_]; rfl)
             refine pure_ (i := 26) (N := some 44) (v := ?_) (a' := ?_) (bs_ 36 0x7ffffff) rfl rfl (any_of HT_.out (by kernel_rfl)) (fun _ _ _ h => h) (Or.inl ⟨by rfl, ?_⟩) ?_ ?_; rotate_left; (intro w'; go_simp; with_reducible rfl); rotate_left; (simp only [nm_]; rfl)
             refine pure_ (i := 27) (N := some 45) (v := ?_) (a' := ?_) (bs_ 36 0xfffffff) rfl rfl (any_of HT_.out (by kernel_rfl)) (fun _ _ _ h => h) (Or.inl ⟨by rfl, ?_⟩) ?_ ?_; rotate_left; (intro w'; go_simp; with_reducible rfl); rotate_left; (simp only [nm_]; rfl)
             refine pure_ (i := 28) (N := some 46) (v := ?_) (a' := ?_) (bs_ 36 0x1fffffff) rfl rfl (any_of HT_.out (by kernel_rfl)) (fun _ _ _ h => h) (Or.inl ⟨by rfl, ?_⟩) ?_ ?_; rotate_left; (intro w'; go_simp; with_reducible rfl); rotate_left; (simp only [nm_]; rfl)
             refine pure_ (i := 29) (N := some 47) (v := ?_) (a' := ?_) (bs_ 36 0x3fffffff) rfl rfl (any_of HT_.out (by kernel_rfl)) (fun _ _ _ h => h) (Or.inl ⟨by rfl, ?_⟩) ?_ ?_; rotate_left; (intro w'; go_simp; with_reducible rfl); rotate_left; (simp only [nm_]; rfl)
             refine pure_ (i := 30) (N := some 48) (v := ?_) (a' := ?_) (bs_ 36 0x7fffffff) rfl rfl (any_of HT_.out (by kernel_rfl)) (fun _ _ _ h => h) (Or.inl ⟨by rfl, ?_⟩) ?_ ?_; rotate_left; (intro w'; go_simp; with_reducible rfl); rotate_left; (simp only [nm_]; rfl)
             refine pure_ (i := 31) (N := some 49) (v := ?_) (a' := ?_) (bs_ 36 0xffffffff) rfl rfl (any_of HT_.out (by kernel_rfl)) (fun _ _ _ h => h) (Or.inl ⟨by rfl, ?_⟩) ?_ ?_; rotate_left; (intro w'; go_simp; with_reducible rfl); rotate_left; (simp only [nm_]; rfl)
             refine take_ (i := 32) (N := some 50) (v := ?_) (a' := ?_) (bs_ 36 0x1ffffffff) rfl rfl (take_ofW HT_.out HW_.out (by kernel_rfl)) (fun _ _ _ h => h) (Or.inl ⟨by rfl, ?_⟩) hHeld ?_ ?_; rotate_left; (rintro w' ⟨s0, s1, s2, s3, s4, s5⟩; go_simp; with_reducible rfl); rotate_left; (simp only [nm_]; rfl)
             refine pure_ (i := 33) (N := some 51) (v := ?_) (a' := ?_) (bs_ 36 0x3ffffffff) rfl rfl (any_of HT_.out (by kernel_rfl)) (fun _ _ _ h => h) (Or.inl ⟨by rfl, ?_⟩) ?_ ?_; rotate_left; (intro w'; go_simp; with_reducible rfl); rotate_left; (simp only [nm_]; rfl)
             refine pure_ (i := 34) (N := some 52) (v := ?_) (a' := ?_) (bs_ 36 0x7ffffffff) rfl rfl (any_of HT_.out (by kernel_rfl)) (fun _ _ _ h => h) (Or.inl ⟨by rfl, ?_⟩) ?_ ?_; rotate_left; (intro w'; go_simp; with_reducible rfl); rotate_left; (simp only [nm_]; rfl)
             refine pure_ (i := 35) (N := some 53) (v := ?_) (a' := ?_) (bs_ 36 0xfffffffff) rfl rfl (any_of HT_.out (by kernel_rfl)) (fun _ _ _ h => h) (Or.inl ⟨by rfl, ?_⟩) ?_ ?_; rotate_left; (intro w'; go_simp; with_reducible rfl); rotate_left; (simp only [nm_]; rfl)
             refine done_ (done_of HT_.out (by kernel_rfl)) ?_
             try go_wp2
             go_meet
             case rel => (try rw [← Nbq19.out]); exact ⟨_, (decide ((((rd_T94 l0 x3_1).f2).length : Int) > 2048)), (by first | rfl | (simp; done) | (simp [*]; done)), H', ⟨by have := HK1.out; first | omega | exact Nat.le_refl _⟩, ⟨by (with_reducible repeat (first | refine blk_drewN ?_ _ | refine blk_drew ?_ | refine blk_alloc ?_ _)); exact BK177.out⟩, ⟨by repeat (first | (with_reducible first | exact HB.out | apply below_alloc | apply pw_below_drewN | apply below_drew1 | refine below_set ?_ GE177.out) | exact HB.out)⟩⟩
           ·replace c20 := Bool.eq_false_iff.mpr c20
            subst c20
            have H1 : (tallymanref7_GoodTree.j1 k1 l0 x3_1 (decide ((((rd_T94 l0 x3_1).f2).length : Int) > 2048)) ((rd_T94 l0 x3_1).f0) false ((rd_T94 l0 x3_1).f2)) = some r := by rw [if_neg (show ¬ (false = true) by decide)] at H; exact H
            clear H
            have H := H1
            clear H1
            have H' := Aside0.mk H
            clear H
            try go_wp2
            have n0_ : Aside0 ((((w5.setCell ⟨gb177, 0, none⟩ (.string ((rd_T94 l0 x3_1).f0))).setCell ⟨gb177, 1, none⟩ (.bool (false))).setCell ⟨gb177, 2, none⟩ (.slice A176_2 ((rd_T94 l0 x3_1).f2).length c176_2)).heap[gb177]? = some (.cells #[.string ((rd_T94 l0 x3_1).f0), .bool false, .slice A176_2 ((rd_T94 l0 x3_1).f2).length c176_2] 94 (0, 0))) := ⟨by (with_reducible repeat (first | refine blk_drewN ?_ _ | refine blk_drew ?_ | refine blk_alloc ?_ _)); refine blk_put (cs := #[.string ((rd_T94 l0 x3_1).f0), .bool (false), .slice none 0 0]) ?_ 2 _ rfl; (with_reducible repeat (first | refine blk_drewN ?_ _ | refine blk_drew ?_ | refine blk_alloc ?_ _)); refine blk_put (cs := #[.string ((rd_T94 l0 x3_1).f0), .bool false, .slice none 0 0]) ?_ 1 _ rfl; (with_reducible repeat (first | refine blk_drewN ?_ _ | refine blk_drew ?_ | refine blk_alloc ?_ _)); refine blk_put (cs := #[.string (⟨#[]⟩ : ByteArray), .bool false, .slice none 0 0]) ?_ 0 _ rfl; (with_reducible repeat (first | refine blk_drewN ?_ _ | refine blk_drew ?_ | refine blk_alloc ?_ _)); exact BK177.out⟩
            have n1_ : Aside0 (Below w.heap.size w (((w5.setCell ⟨gb177, 0, none⟩ (.string ((rd_T94 l0 x3_1).f0))).setCell ⟨gb177, 1, none⟩ (.bool (false))).setCell ⟨gb177, 2, none⟩ (.slice A176_2 ((rd_T94 l0 x3_1).f2).length c176_2))) := ⟨by repeat (first | (with_reducible first | exact HB.out | apply below_alloc | apply pw_below_drewN | apply below_drew1 | refine below_set ?_ GE177.out) | exact HB.out)⟩
            (try clear BK177)
            (try clear HB)
            generalize (((w5.setCell ⟨gb177, 0, none⟩ (.string ((rd_T94 l0 x3_1).f0))).setCell ⟨gb177, 1, none⟩ (.bool (false))).setCell ⟨gb177, 2, none⟩ (.slice A176_2 ((rd_T94 l0 x3_1).f2).length c176_2)) = w30 at n0_ n1_ ⊢
            have BK177 := n0_
            have HB := n1_
            clear n0_ n1_
            have n0_ := xa_ (blk_drew BK177.out)
            have n1_ := xa_ (below_drew1 HB.out)
            clear BK177
            clear HB
            have BK177 := n0_
            have HB := n1_
            clear n0_ n1_
            have p179 : 0 ≤ ((ji10) : Int) := of_decide_eq_true (by first | (with_reducible assumption) | assumption)
            have q179 : (ji10) < (l0.length : Int) := of_decide_eq_true (by first | (with_reducible assumption) | assumption)
            obtain ⟨ad179, A179_2, c179_2, e179, hx179_0, hx179_1, hx179_2, hl179_2, hi179_2⟩ := at_T94 HR0.out (ji10) p179 q179
            have hw179_2 := hx179_2
            have hw179_1 := hx179_1
            have hw179_0 := hx179_0
            (try rw [← Nbq19.out] at hx179_1)
            (try rw [← Nbq19.out] at hw179_1)
            obtain rfl : ad176 = ad179 := (by injection e179)
            replace hx179_0 := (HB.out.cell (World.block_lt_of_cell? w _ hx179_0)).trans hx179_0
            replace hx179_1 := (HB.out.cell (World.block_lt_of_cell? w _ hx179_1)).trans hx179_1
            replace hx179_2 := (HB.out.cell (World.block_lt_of_cell? w _ hx179_2)).trans hx179_2
            have HR179_2 := Aside0.mk hi179_2
            have HC179_2 := Aside0.mk hl179_2
            clear hi179_2 hl179_2
            replace p179 := eq_true p179
            replace q179 := eq_true q179
            refine start_ (n := 36) (S := fun w' => w'.cell? ⟨gb177, 0, none⟩ = some (.string ((rd_T94 l0 x3_1).f0)) ∧ w'.cell? ⟨gb177, 1, none⟩ = some (.bool false) ∧ w'.cell? ⟨gb177, 2, none⟩ = some (.slice A176_2 ((rd_T94 l0 x3_1).f2).length c176_2) ∧ w'.cell? (ad176.add (((ji10)).toNat * 3)) = some (.string ((rd_T94 l0 (ji10)).f0)) ∧ w'.cell? ⟨(ad176.add (((ji10)).toNat * 3)).block, (ad176.add (((ji10)).toNat * 3)).off + 1, none⟩ = some (.bool ((rd_T94 l0 (ji10)).f1)) ∧ w'.cell? ⟨(ad176.add (((ji10)).toNat * 3)).block, (ad176.add (((ji10)).toNat * 3)).off + 2, none⟩ = some (.slice A179_2 ((rd_T94 l0 (ji10)).f2).length c179_2)) (ds := []) (bs_ 36 0x0) (by kernel_rfl) rfl rfl ⟨(blk_cell BK177.out 0).trans rfl, (blk_cell BK177.out 1).trans rfl, (blk_cell BK177.out 2).trans rfl, ((HB.out.cell (World.block_lt_of_cell? w _ hw179_0)).trans hw179_0), ((HB.out.cell (World.block_lt_of_cell? w _ hw179_1)).trans hw179_1), ((HB.out.cell (World.block_lt_of_cell? w _ hw179_2)).trans hw179_2)⟩ (fun hHeld => ?_); refine with_tabW tallymanref7_GoodTree.tab5 tallymanref7_GoodTree.bits5 (fun HT_ HW_ => ?_)
            generalize w30.drew = w31 at BK177 HB HR179_2 hx179_0 hx179_1 hx179_2 hHeld ⊢
            refine pure_ (i := 0) (N := some 18) (v := ?_) (a' := ?_) (bs_ 36 0x1) rfl rfl (any_of HT_.out (by kernel_rfl)) (fun _ _ _ h => h) (Or.inl ⟨by rfl, ?_⟩) ?_ ?_; rotate_left; (intro w'; go_simp; with_reducible rfl); rotate_left; (simp only [nm_]; rfl)
            refine take_ (i := 1) (N := some 19) (v := ?_) (a' := ?_) (bs_ 36 0x3) rfl rfl (take_ofW HT_.out HW_.out (by kernel_rfl)) (fun _ _ _ h => h) (Or.inl ⟨by rfl, ?_⟩) hHeld ?_ ?_; rotate_left; (rintro w' ⟨s0, s1, s2, s3, s4, s5⟩; go_simp; with_reducible rfl); rotate_left; (simp only [nm_]; rfl)
            refine one_ (i := 2) (N := some 20) (bs_ 36 0x7) rfl rfl (one_of HT_.out (by kernel_rfl)) (by decide) (fun K hK => ?_)
            refine goes_ Tryd.func42 (by kernel_rfl) rfl #[.string ((rd_T94 l0 x3_1).f0)] (by rfl) rfl rfl (by (try simp only [List.map_toArray, List.map_cons, List.map_nil]); first | done | rfl | (simp only [List.length_drop, List.length_take]; rfl)) ?_
            with_reducible refine (tallymanref7_Good.calls ((rd_T94 l0 x3_1).f0) true _ A7.out).mono ?_
            rintro e w32 ⟨rfl, hb⟩
            refine ⟨_, rfl, ?_⟩
            have n0_ := xa_ (blk_below (xb_ BK177.out) hb)
            have n1_ := xa_ (below_step (by repeat (first | (with_reducible first | exact HB.out | apply below_alloc | apply pw_below_drewN | apply below_drew1 | refine below_set ?_ GE177.out) | exact HB.out)) hb)
            clear BK177
            clear HB
            have BK177 := n0_
            have HB := n1_
            clear n0_ n1_
            (try clear hb)
            (try clear hb2)
            (try clear hk)
            (try clear hi)
            refine hK.out _ _ ⟨(blk_cell BK177.out 0).trans rfl, (blk_cell BK177.out 1).trans rfl, (blk_cell BK177.out 2).trans rfl, ((HB.out.cell (World.block_lt_of_cell? w _ hw179_0)).trans hw179_0), ((HB.out.cell (World.block_lt_of_cell? w _ hw179_1)).trans hw179_1), ((HB.out.cell (World.block_lt_of_cell? w _ hw179_2)).trans hw179_2)⟩ (fun hHeld => ?_)
            clear hK K
            refine norm_ (a' := ?_) ?_ ?_
            rotate_left
            ·show Act.put _ (some 20) _ = _
             simp only [nm_]
             rfl
            refine pure_ (i := 3) (N := some 21) (v := ?_) (a' := ?_) (bs_ 36 0xf) rfl rfl (any_of HT_.out (by kernel_rfl)) (fun _ _ _ h => h) (Or.inl ⟨by rfl, ?_⟩) ?_ ?_; rotate_left; (intro w'; go_simp; with_reducible rfl); rotate_left; (simp only [nm_]; rfl)
            refine pure_ (i := 4) (N := some 22) (v := ?_) (a' := ?_) (bs_ 36 0x1f) rfl rfl (any_of HT_.out (by kernel_rfl)) (fun _ _ _ h => h) (Or.inl ⟨by rfl, ?_⟩) ?_ ?_; rotate_left; (intro w'; go_simp; with_reducible rfl); rotate_left; (simp only [nm_]; rfl)
            refine pure_ (i := 5) (N := some 23) (v := ?_) (a' := ?_) (bs_ 36 0x3f) rfl rfl (any_of HT_.out (by kernel_rfl)) (fun _ _ _ h => h) (Or.inl ⟨by rfl, ?_⟩) ?_ ?_; rotate_left; (intro w'; go_simp; with_reducible rfl); rotate_left; (simp only [nm_]; rfl)
            refine pure_ (i := 6) (N := some 24) (v := ?_) (a' := ?_) (bs_ 36 0x7f) rfl rfl (any_of HT_.out (by kernel_rfl)) (fun _ _ _ h => h) (Or.inl ⟨by rfl, ?_⟩) ?_ ?_; rotate_left; (intro w'; go_simp; with_reducible rfl); rotate_left; (simp only [nm_]; rfl)
            refine pure_ (i := 7) (N := some 25) (v := ?_) (a' := ?_) (bs_ 36 0xff) rfl rfl (any_of HT_.out (by kernel_rfl)) (fun _ _ _ h => h) (Or.inl ⟨by rfl, ?_⟩) ?_ ?_; rotate_left; (intro w'; go_simp; with_reducible rfl); rotate_left; (simp only [nm_]; rfl)
            refine pure_ (i := 8) (N := some 26) (v := ?_) (a' := ?_) (bs_ 36 0x1ff) rfl rfl (any_of HT_.out (by kernel_rfl)) (fun _ _ _ h => h) (Or.inl ⟨by rfl, ?_⟩) ?_ ?_; rotate_left; (intro w'; go_simp; with_reducible rfl); rotate_left; (simp only [nm_]; rfl)
            refine pure_ (i := 9) (N := some 27) (v := ?_) (a' := ?_) (bs_ 36 0x3ff) rfl rfl (any_of HT_.out (by kernel_rfl)) (fun _ _ _ h => h) (Or.inl ⟨by rfl, ?_⟩) ?_ ?_; rotate_left; (intro w'; go_simp; with_reducible rfl); rotate_left; (simp only [nm_]; rfl)
            refine pure_ (i := 10) (N := some 28) (v := ?_) (a' := ?_) (bs_ 36 0x7ff) rfl rfl (any_of HT_.out (by kernel_rfl)) (fun _ _ _ h => h) (Or.inl ⟨by rfl, ?_⟩) ?_ ?_; rotate_left; (intro w'; go_simp; with_reducible rfl); rotate_left; (simp only [nm_]; rfl)
            refine pure_ (i := 11) (N := some 29) (v := ?_) (a' := ?_) (bs_ 36 0xfff) rfl rfl (any_of HT_.out (by kernel_rfl)) (fun _ _ _ h => h) (Or.inl ⟨by rfl, ?_⟩) ?_ ?_; rotate_left; (intro w'; go_simp; with_reducible rfl); rotate_left; (simp only [nm_]; rfl)
            refine pure_ (i := 12) (N := some 30) (v := ?_) (a' := ?_) (bs_ 36 0x1fff) rfl rfl (any_of HT_.out (by kernel_rfl)) (fun _ _ _ h => h) (Or.inl ⟨by rfl, ?_⟩) ?_ ?_; rotate_left; (intro w'; go_simp; with_reducible rfl); rotate_left; (simp only [nm_]; rfl)
            refine pure_ (i := 14) (N := some 32) (v := ?_) (a' := ?_) (bs_ 36 0x5fff) rfl rfl (any_of HT_.out (by kernel_rfl)) (fun _ _ _ h => h) (Or.inl ⟨by rfl, ?_⟩) ?_ ?_; rotate_left; (intro w'; go_simp; with_reducible rfl); rotate_left; (simp only [nm_]; rfl)
            refine take_ (i := 13) (N := some 31) (v := ?_) (a' := ?_) (bs_ 36 0x7fff) rfl rfl (take_ofW HT_.out HW_.out (by kernel_rfl)) (fun _ _ _ h => h) (Or.inl ⟨by rfl, ?_⟩) hHeld ?_ ?_; rotate_left; (rintro w' ⟨s0, s1, s2, s3, s4, s5⟩; go_simp; with_reducible rfl); rotate_left; (simp only [nm_]; rfl)
            refine take_ (i := 15) (N := some 33) (v := ?_) (a' := ?_) (bs_ 36 0xffff) rfl rfl (take_ofW HT_.out HW_.out (by kernel_rfl)) (fun _ _ _ h => h) (Or.inl ⟨by rfl, ?_⟩) hHeld ?_ ?_; rotate_left; (rintro w' ⟨s0, s1, s2, s3, s4, s5⟩; go_simp; with_reducible rfl); rotate_left; (simp only [nm_]; rfl)
            refine one_ (i := 16) (N := some 34) (bs_ 36 0x1ffff) rfl rfl (one_of HT_.out (by kernel_rfl)) (by decide) (fun K hK => ?_)
            refine goes_ Tryd.func52 (by kernel_rfl) rfl #[.string ((rd_T94 l0 (ji10)).f0), .string ((rd_T94 l0 x3_1).f0)] (by rfl) rfl rfl (by (try simp only [List.map_toArray, List.map_cons, List.map_nil]); first | done | (simp only [hji10]; rfl) | rfl | (simp only [List.length_drop, List.length_take]; rfl)) ?_
            with_reducible refine (tallymanref7_Cmp.calls ((rd_T94 l0 (ji10)).f0) ((rd_T94 l0 x3_1).f0) t180 _ A13.out).mono ?_
            rintro e w33 ⟨rfl, hb⟩
            refine ⟨_, rfl, ?_⟩
            have n0_ := xa_ (blk_below (xb_ BK177.out) hb)
            have n1_ := xa_ (below_step (by repeat (first | (with_reducible first | exact HB.out | apply below_alloc | apply pw_below_drewN | apply below_drew1 | refine below_set ?_ GE177.out) | exact HB.out)) hb)
            clear BK177
            clear HB
            have BK177 := n0_
            have HB := n1_
            clear n0_ n1_
            (try clear hb)
            (try clear hb2)
            (try clear hk)
            (try clear hi)
            refine hK.out _ _ ⟨(blk_cell BK177.out 0).trans rfl, (blk_cell BK177.out 1).trans rfl, (blk_cell BK177.out 2).trans rfl, ((HB.out.cell (World.block_lt_of_cell? w _ hw179_0)).trans hw179_0), ((HB.out.cell (World.block_lt_of_cell? w _ hw179_1)).trans hw179_1), ((HB.out.cell (World.block_lt_of_cell? w _ hw179_2)).trans hw179_2)⟩ (fun hHeld => ?_)
            clear hK K
            refine norm_ (a' := ?_) ?_ ?_
            rotate_left
            ·show Act.put _ (some 34) _ = _
             simp only [nm_]
             rfl
            refine pure_ (i := 17) (N := some 35) (v := ?_) (a' := ?_) (bs_ 36 0x3ffff) rfl rfl (any_of HT_.out (by kernel_rfl)) (fun _ _ _ h => h) (Or.inl ⟨by rfl, ?_⟩) ?_ ?_; rotate_left; (intro w'; go_simp; with_reducible rfl); rotate_left; (simp only [nm_]; rfl)
            refine pure_ (i := 18) (N := some 36) (v := ?_) (a' := ?_) (bs_ 36 0x7ffff) rfl rfl (any_of HT_.out (by kernel_rfl)) (fun _ _ _ h => h) (Or.inl ⟨by rfl, ?_⟩) ?_ ?_; rotate_left; (intro w'; go_simp; with_reducible rfl); rotate_left; (simp only [nm_]; rfl)
            refine pure_ (i := 19) (N := some 37) (v := ?_) (a' := ?_) (bs_ 36 0xfffff) rfl rfl (any_of HT_.out (by kernel_rfl)) (fun _ _ _ h => h) (Or.inl ⟨by rfl, ?_⟩) ?_ ?_; rotate_left; (intro w'; go_simp; with_reducible rfl); rotate_left; (simp only [nm_]; rfl)
            refine pure_ (i := 20) (N := some 38) (v := ?_) (a' := ?_) (bs_ 36 0x1fffff) rfl rfl (any_of HT_.out (by kernel_rfl)) (fun _ _ _ h => h) (Or.inl ⟨by rfl, ?_⟩) ?_ ?_; rotate_left; (intro w'; go_simp; with_reducible rfl); rotate_left; (simp only [nm_]; rfl)
            refine pure_ (i := 21) (N := some 39) (v := ?_) (a' := ?_) (bs_ 36 0x3fffff) rfl rfl (any_of HT_.out (by kernel_rfl)) (fun _ _ _ h => h) (Or.inl ⟨by rfl, ?_⟩) ?_ ?_; rotate_left; (intro w'; go_simp; with_reducible rfl); rotate_left; (simp only [nm_]; rfl)
            refine take_ (i := 22) (N := some 40) (v := ?_) (a' := ?_) (bs_ 36 0x7fffff) rfl rfl (take_ofW HT_.out HW_.out (by kernel_rfl)) (fun _ _ _ h => h) (Or.inl ⟨by rfl, ?_⟩) hHeld ?_ ?_; rotate_left; (rintro w' ⟨s0, s1, s2, s3, s4, s5⟩; go_simp; with_reducible rfl); rotate_left; (simp only [nm_]; rfl)
            refine pure_ (i := 23) (N := some 41) (v := ?_) (a' := ?_) (bs_ 36 0xffffff) rfl rfl (any_of HT_.out (by kernel_rfl)) (fun _ _ _ h => h) (Or.inl ⟨by rfl, ?_⟩) ?_ ?_; rotate_left; (intro w'; go_simp; with_reducible rfl); rotate_left; (simp only [nm_]; rfl)
            refine pure_ (i := 24) (N := some 42) (v := undef) (a' := ?_) (bs_ 36 0x1ffffff) rfl rfl (any_of HT_.out (by kernel_rfl)) (fun _ _ _ h => h) (Or.inr ⟨by rfl, rfl⟩) ?_ ?_
            rotate_left
            ·simp only [nm_]
             rfl
            refine pure_ (i := 25) (N := some 43) (v := undef) (a' := ?_) (bs_ 36 0x3ffffff) rfl rfl (any_of HT_.out (by kernel_rfl)) (fun _ _ _ h => h) (Or.inr ⟨by rfl, rfl⟩) ?_ ?_
            rotate_left
            ·simp only [nm_]
             rfl
            refine pure_ (i := 26) (N := some 44) (v := undef) (a' := ?_) (bs_ 36 0x7ffffff) rfl rfl (any_of HT_.out (by kernel_rfl)) (fun _ _ _ h => h) (Or.inr ⟨by rfl, rfl⟩) ?_ ?_
            rotate_left
            ·simp only [nm_]
             rfl
            refine pure_ (i := 27) (N := some 45) (v := undef) (a' := ?_) (bs_ 36 0xfffffff) rfl rfl (any_of HT_.out (by kernel_rfl)) (fun _ _ _ h => h) (Or.inr ⟨by rfl, rfl⟩) ?_ ?_
            rotate_left
            ·simp only [nm_]
             rfl
            refine pure_ (i := 28) (N := some 46) (v := ?_) (a' := ?_) (bs_ 36 0x1fffffff) rfl rfl (any_of HT_.out (by kernel_rfl)) (fun _ _ _ h => h) (Or.inl ⟨by rfl, ?_⟩) ?_ ?_; rotate_left; (intro w'; go_simp; with_reducible rfl); rotate_left; (simp only [nm_]; rfl)
            refine pure_ (i := 29) (N := some 47) (v := ?_) (a' := ?_) (bs_ 36 0x3fffffff) rfl rfl (any_of HT_.out (by kernel_rfl)) (fun _ _ _ h => h) (Or.inl ⟨by rfl, ?_⟩) ?_ ?_; rotate_left; (intro w'; go_simp; with_reducible rfl); rotate_left; (simp only [nm_]; rfl)
            refine pure_ (i := 30) (N := some 48) (v := ?_) (a' := ?_) (bs_ 36 0x7fffffff) rfl rfl (any_of HT_.out (by kernel_rfl)) (fun _ _ _ h => h) (Or.inl ⟨by rfl, ?_⟩) ?_ ?_; rotate_left; (intro w'; go_simp; with_reducible rfl); rotate_left; (simp only [nm_]; rfl)
            refine pure_ (i := 31) (N := some 49) (v := ?_) (a' := ?_) (bs_ 36 0xffffffff) rfl rfl (any_of HT_.out (by kernel_rfl)) (fun _ _ _ h => h) (Or.inl ⟨by rfl, ?_⟩) ?_ ?_; rotate_left; (intro w'; go_simp; with_reducible rfl); rotate_left; (simp only [nm_]; rfl)
            refine take_ (i := 32) (N := some 50) (v := ?_) (a' := ?_) (bs_ 36 0x1ffffffff) rfl rfl (take_ofW HT_.out HW_.out (by kernel_rfl)) (fun _ _ _ h => h) (Or.inl ⟨by rfl, ?_⟩) hHeld ?_ ?_; rotate_left; (rintro w' ⟨s0, s1, s2, s3, s4, s5⟩; go_simp; with_reducible rfl); rotate_left; (simp only [nm_]; rfl)
            refine pure_ (i := 33) (N := some 51) (v := ?_) (a' := ?_) (bs_ 36 0x3ffffffff) rfl rfl (any_of HT_.out (by kernel_rfl)) (fun _ _ _ h => h) (Or.inl ⟨by rfl, ?_⟩) ?_ ?_; rotate_left; (intro w'; go_simp; with_reducible rfl); rotate_left; (simp only [nm_]; rfl)
            refine pure_ (i := 34) (N := some 52) (v := ?_) (a' := ?_) (bs_ 36 0x7ffffffff) rfl rfl (any_of HT_.out (by kernel_rfl)) (fun _ _ _ h => h) (Or.inl ⟨by rfl, ?_⟩) ?_ ?_; rotate_left; (intro w'; go_simp; with_reducible rfl); rotate_left; (simp only [nm_]; rfl)
            refine pure_ (i := 35) (N := some 53) (v := ?_) (a' := ?_) (bs_ 36 0xfffffffff) rfl rfl (any_of HT_.out (by kernel_rfl)) (fun _ _ _ h => h) (Or.inl ⟨by rfl, ?_⟩) ?_ ?_; rotate_left; (intro w'; go_simp; with_reducible rfl); rotate_left; (simp only [nm_]; rfl)
            refine done_ (done_of HT_.out (by kernel_rfl)) ?_
            try go_wp2
            go_meet
            case rel => (try rw [← Nbq19.out]); exact ⟨_, (decide ((((rd_T94 l0 x3_1).f2).length : Int) > 2048)), (by first | rfl | (simp; done) | (simp [*]; done)), H', ⟨by have := HK1.out; first | omega | exact Nat.le_refl _⟩, ⟨by (with_reducible repeat (first | refine blk_drewN ?_ _ | refine blk_drew ?_ | refine blk_alloc ?_ _)); exact BK177.out⟩, ⟨by repeat (first | (with_reducible first | exact HB.out | apply below_alloc | apply pw_below_drewN | apply below_drew1 | refine below_set ?_ GE177.out) | exact HB.out)⟩⟩
         ·rw [if_neg c12] at H
          exact absurd H (by simp)
        ·rw [if_neg c11] at H
         exact absurd H (by simp)
       ·rw [if_neg c9] at H
        have c9b0 : decide (0 < x3_1) = false := decide_eq_false c9
        clear c9
        (first | rw [c9b0] | (simp only [i64_w, i32_w]; rw [c9b0]) | skip)
        obtain ⟨bq34, hbq34⟩ : ∃ b_ : Bool, b_ = ((rd_T94 l0 x3_1).f1) := ⟨_, rfl⟩
        replace H : (if bq34 = true then (if (((rd_T94 l0 x3_1).f2).length : Int) > 0 then (tallymanref7_GoodTree.j1 k1 l0 x3_1 true ((rd_T94 l0 x3_1).f0) bq34 ((rd_T94 l0 x3_1).f2)) else (tallymanref7_GoodTree.j1 k1 l0 x3_1 (decide ((((rd_T94 l0 x3_1).f2).length : Int) > 2048)) ((rd_T94 l0 x3_1).f0) bq34 ((rd_T94 l0 x3_1).f2))) else (tallymanref7_GoodTree.j1 k1 l0 x3_1 (decide ((((rd_T94 l0 x3_1).f2).length : Int) > 2048)) ((rd_T94 l0 x3_1).f0) bq34 ((rd_T94 l0 x3_1).f2))) = some r := by rw [← hbq34] at H; exact H
        (try rw [← hbq34])
        have Nbq34 := Aside0.mk hbq34
        clear hbq34
        by_cases c35 : bq34 = true
        ·subst c35
         have H1 : (if (((rd_T94 l0 x3_1).f2).length : Int) > 0 then (tallymanref7_GoodTree.j1 k1 l0 x3_1 true ((rd_T94 l0 x3_1).f0) true ((rd_T94 l0 x3_1).f2)) else (tallymanref7_GoodTree.j1 k1 l0 x3_1 (decide ((((rd_T94 l0 x3_1).f2).length : Int) > 2048)) ((rd_T94 l0 x3_1).f0) true ((rd_T94 l0 x3_1).f2))) = some r := by rw [if_pos rfl] at H; exact H
         clear H
         have H := H1
         clear H1
         by_cases c36 : (((rd_T94 l0 x3_1).f2).length : Int) > 0
         ·rw [if_pos c36] at H
          have c36b0 : decide (0 < (((rd_T94 l0 x3_1).f2).length : Int)) = true := decide_eq_true c36
          have c36b1 : decide (0 < ((rd_T94 l0 x3_1).f2).length) = true := decide_eq_true (by omega)
          clear c36
          have H' := Aside0.mk H
          clear H
          try go_wp2
          have n0_ : Aside0 ((((w5.setCell ⟨gb177, 0, none⟩ (.string ((rd_T94 l0 x3_1).f0))).setCell ⟨gb177, 1, none⟩ (.bool (true))).setCell ⟨gb177, 2, none⟩ (.slice A176_2 ((rd_T94 l0 x3_1).f2).length c176_2)).heap[gb177]? = some (.cells #[.string ((rd_T94 l0 x3_1).f0), .bool true, .slice A176_2 ((rd_T94 l0 x3_1).f2).length c176_2] 94 (0, 0))) := ⟨by (with_reducible repeat (first | refine blk_drewN ?_ _ | refine blk_drew ?_ | refine blk_alloc ?_ _)); refine blk_put (cs := #[.string ((rd_T94 l0 x3_1).f0), .bool (true), .slice none 0 0]) ?_ 2 _ rfl; (with_reducible repeat (first | refine blk_drewN ?_ _ | refine blk_drew ?_ | refine blk_alloc ?_ _)); refine blk_put (cs := #[.string ((rd_T94 l0 x3_1).f0), .bool false, .slice none 0 0]) ?_ 1 _ rfl; (with_reducible repeat (first | refine blk_drewN ?_ _ | refine blk_drew ?_ | refine blk_alloc ?_ _)); refine blk_put (cs := #[.string (⟨#[]⟩ : ByteArray), .bool false, .slice none 0 0]) ?_ 0 _ rfl; (with_reducible repeat (first | refine blk_drewN ?_ _ | refine blk_drew ?_ | refine blk_alloc ?_ _)); exact BK177.out⟩
          have n1_ : Aside0 (Below w.heap.size w (((w5.setCell ⟨gb177, 0, none⟩ (.string ((rd_T94 l0 x3_1).f0))).setCell ⟨gb177, 1, none⟩ (.bool (true))).setCell ⟨gb177, 2, none⟩ (.slice A176_2 ((rd_T94 l0 x3_1).f2).length c176_2))) := ⟨by repeat (first | (with_reducible first | exact HB.out | apply below_alloc | apply pw_below_drewN | apply below_drew1 | refine below_set ?_ GE177.out) | exact HB.out)⟩
          (try clear BK177)
          (try clear HB)
          generalize (((w5.setCell ⟨gb177, 0, none⟩ (.string ((rd_T94 l0 x3_1).f0))).setCell ⟨gb177, 1, none⟩ (.bool (true))).setCell ⟨gb177, 2, none⟩ (.slice A176_2 ((rd_T94 l0 x3_1).f2).length c176_2)) = w37 at n0_ n1_ ⊢
          have BK177 := n0_
          have HB := n1_
          clear n0_ n1_
          have n0_ := xa_ (blk_drew BK177.out)
          have n1_ := xa_ (below_drew1 HB.out)
          clear BK177
          clear HB
          have BK177 := n0_
          have HB := n1_
          clear n0_ n1_
          refine start_ (n := 36) (S := fun w' => w'.cell? ⟨gb177, 0, none⟩ = some (.string ((rd_T94 l0 x3_1).f0)) ∧ w'.cell? ⟨gb177, 1, none⟩ = some (.bool true) ∧ w'.cell? ⟨gb177, 2, none⟩ = some (.slice A176_2 ((rd_T94 l0 x3_1).f2).length c176_2)) (ds := []) (bs_ 36 0x0) (by kernel_rfl) rfl rfl ⟨(blk_cell BK177.out 0).trans rfl, (blk_cell BK177.out 1).trans rfl, (blk_cell BK177.out 2).trans rfl⟩ (fun hHeld => ?_); refine with_tabW tallymanref7_GoodTree.tab5 tallymanref7_GoodTree.bits5 (fun HT_ HW_ => ?_)
          generalize w37.drew = w38 at BK177 HB hHeld ⊢
          refine pure_ (i := 0) (N := some 18) (v := ?_) (a' := ?_) (bs_ 36 0x1) rfl rfl (any_of HT_.out (by kernel_rfl)) (fun _ _ _ h => h) (Or.inl ⟨by rfl, ?_⟩) ?_ ?_; rotate_left; (intro w'; go_simp; with_reducible rfl); rotate_left; (simp only [nm_]; rfl)
          refine take_ (i := 1) (N := some 19) (v := ?_) (a' := ?_) (bs_ 36 0x3) rfl rfl (take_ofW HT_.out HW_.out (by kernel_rfl)) (fun _ _ _ h => h) (Or.inl ⟨by rfl, ?_⟩) hHeld ?_ ?_; rotate_left; (rintro w' ⟨s0, s1, s2⟩; go_simp; with_reducible rfl); rotate_left; (simp only [nm_]; rfl)
          refine one_ (i := 2) (N := some 20) (bs_ 36 0x7) rfl rfl (one_of HT_.out (by kernel_rfl)) (by decide) (fun K hK => ?_)
          refine goes_ Tryd.func42 (by kernel_rfl) rfl #[.string ((rd_T94 l0 x3_1).f0)] (by rfl) rfl rfl (by (try simp only [List.map_toArray, List.map_cons, List.map_nil]); first | done | rfl | (simp only [List.length_drop, List.length_take]; rfl)) ?_
          with_reducible refine (tallymanref7_Good.calls ((rd_T94 l0 x3_1).f0) true _ A7.out).mono ?_
          rintro e w39 ⟨rfl, hb⟩
          refine ⟨_, rfl, ?_⟩
          have n0_ := xa_ (blk_below (xb_ BK177.out) hb)
          have n1_ := xa_ (below_step (by repeat (first | (with_reducible first | exact HB.out | apply below_alloc | apply pw_below_drewN | apply below_drew1 | refine below_set ?_ GE177.out) | exact HB.out)) hb)
          clear BK177
          clear HB
          have BK177 := n0_
          have HB := n1_
          clear n0_ n1_
          (try clear hb)
          (try clear hb2)
          (try clear hk)
          (try clear hi)
          refine hK.out _ _ ⟨(blk_cell BK177.out 0).trans rfl, (blk_cell BK177.out 1).trans rfl, (blk_cell BK177.out 2).trans rfl⟩ (fun hHeld => ?_)
          clear hK K
          refine norm_ (a' := ?_) ?_ ?_
          rotate_left
          ·show Act.put _ (some 20) _ = _
           simp only [nm_]
           rfl
          refine pure_ (i := 3) (N := some 21) (v := ?_) (a' := ?_) (bs_ 36 0xf) rfl rfl (any_of HT_.out (by kernel_rfl)) (fun _ _ _ h => h) (Or.inl ⟨by rfl, ?_⟩) ?_ ?_; rotate_left; (intro w'; go_simp; with_reducible rfl); rotate_left; (simp only [nm_]; rfl)
          refine pure_ (i := 4) (N := some 22) (v := ?_) (a' := ?_) (bs_ 36 0x1f) rfl rfl (any_of HT_.out (by kernel_rfl)) (fun _ _ _ h => h) (Or.inl ⟨by rfl, ?_⟩) ?_ ?_; rotate_left; (intro w'; go_simp; with_reducible rfl); rotate_left; (simp only [nm_]; rfl)
          refine pure_ (i := 5) (N := some 23) (v := ?_) (a' := ?_) (bs_ 36 0x3f) rfl rfl (any_of HT_.out (by kernel_rfl)) (fun _ _ _ h => h) (Or.inl ⟨by rfl, ?_⟩) ?_ ?_; rotate_left; (intro w'; go_simp; with_reducible rfl); rotate_left; (simp only [nm_]; rfl)
          refine pure_ (i := 6) (N := some 24) (v := ?_) (a' := ?_) (bs_ 36 0x7f) rfl rfl (any_of HT_.out (by kernel_rfl)) (fun _ _ _ h => h) (Or.inl ⟨by rfl, ?_⟩) ?_ ?_; rotate_left; (intro w'; go_simp; with_reducible rfl); rotate_left; (simp only [nm_]; rfl)
          refine pure_ (i := 7) (N := some 25) (v := ?_) (a' := ?_) (bs_ 36 0xff) rfl rfl (any_of HT_.out (by kernel_rfl)) (fun _ _ _ h => h) (Or.inl ⟨by rfl, ?_⟩) ?_ ?_; rotate_left; (intro w'; go_simp; with_reducible rfl); rotate_left; (simp only [nm_]; rfl)
          refine pure_ (i := 8) (N := some 26) (v := undef) (a' := ?_) (bs_ 36 0x1ff) rfl rfl (any_of HT_.out (by kernel_rfl)) (fun _ _ _ h => h) (Or.inr ⟨by rfl, rfl⟩) ?_ ?_
          rotate_left
          ·simp only [nm_]
           rfl
          refine pure_ (i := 9) (N := some 27) (v := undef) (a' := ?_) (bs_ 36 0x3ff) rfl rfl (any_of HT_.out (by kernel_rfl)) (fun _ _ _ h => h) (Or.inr ⟨by rfl, rfl⟩) ?_ ?_
          rotate_left
          ·simp only [nm_]
           rfl
          refine pure_ (i := 10) (N := some 28) (v := undef) (a' := ?_) (bs_ 36 0x7ff) rfl rfl (any_of HT_.out (by kernel_rfl)) (fun _ _ _ h => h) (Or.inr ⟨by rfl, rfl⟩) ?_ ?_
          rotate_left
          ·simp only [nm_]
           rfl
          refine pure_ (i := 11) (N := some 29) (v := undef) (a' := ?_) (bs_ 36 0xfff) rfl rfl (any_of HT_.out (by kernel_rfl)) (fun _ _ _ h => h) (Or.inr ⟨by rfl, rfl⟩) ?_ ?_
          rotate_left
          ·simp only [nm_]
           rfl
          refine pure_ (i := 12) (N := some 30) (v := undef) (a' := ?_) (bs_ 36 0x1fff) rfl rfl (any_of HT_.out (by kernel_rfl)) (fun _ _ _ h => h) (Or.inr ⟨by rfl, rfl⟩) ?_ ?_
          rotate_left
          ·simp only [nm_]
           rfl
          refine pure_ (i := 13) (N := some 31) (v := undef) (a' := ?_) (bs_ 36 0x3fff) rfl rfl (any_of HT_.out (by kernel_rfl)) (fun _ _ _ h => h) (Or.inr ⟨by rfl, rfl⟩) ?_ ?_
          rotate_left
          ·simp only [nm_]
           rfl
          refine pure_ (i := 14) (N := some 32) (v := undef) (a' := ?_) (bs_ 36 0x7fff) rfl rfl (any_of HT_.out (by kernel_rfl)) (fun _ _ _ h => h) (Or.inr ⟨by rfl, rfl⟩) ?_ ?_
          rotate_left
          ·simp only [nm_]
           rfl
          refine pure_ (i := 15) (N := some 33) (v := undef) (a' := ?_) (bs_ 36 0xffff) rfl rfl (any_of HT_.out (by kernel_rfl)) (fun _ _ _ h => h) (Or.inr ⟨by rfl, rfl⟩) ?_ ?_
          rotate_left
          ·simp only [nm_]
           rfl
          refine pure_ (i := 16) (N := some 34) (v := undef) (a' := ?_) (bs_ 36 0x1ffff) rfl rfl (any_of HT_.out (by kernel_rfl)) (fun _ _ _ h => h) (Or.inr ⟨by rfl, rfl⟩) ?_ ?_
          rotate_left
          ·simp only [nm_]
           rfl
          refine pure_ (i := 17) (N := some 35) (v := undef) (a' := ?_) (bs_ 36 0x3ffff) rfl rfl (any_of HT_.out (by kernel_rfl)) (fun _ _ _ h => h) (Or.inr ⟨by rfl, rfl⟩) ?_ ?_
          rotate_left
          ·simp only [nm_]
           rfl
          refine pure_ (i := 18) (N := some 36) (v := ?_) (a' := ?_) (bs_ 36 0x7ffff) rfl rfl (any_of HT_.out (by kernel_rfl)) (fun _ _ _ h => h) (Or.inl ⟨by rfl, ?_⟩) ?_ ?_; rotate_left; (intro w'; go_simp; with_reducible rfl); rotate_left; (simp only [nm_]; rfl)
          refine pure_ (i := 19) (N := some 37) (v := ?_) (a' := ?_) (bs_ 36 0xfffff) rfl rfl (any_of HT_.out (by kernel_rfl)) (fun _ _ _ h => h) (Or.inl ⟨by rfl, ?_⟩) ?_ ?_; rotate_left; (intro w'; go_simp; with_reducible rfl); rotate_left; (simp only [nm_]; rfl)
          refine pure_ (i := 20) (N := some 38) (v := ?_) (a' := ?_) (bs_ 36 0x1fffff) rfl rfl (any_of HT_.out (by kernel_rfl)) (fun _ _ _ h => h) (Or.inl ⟨by rfl, ?_⟩) ?_ ?_; rotate_left; (intro w'; go_simp; with_reducible rfl); rotate_left; (simp only [nm_]; rfl)
          refine pure_ (i := 21) (N := some 39) (v := ?_) (a' := ?_) (bs_ 36 0x3fffff) rfl rfl (any_of HT_.out (by kernel_rfl)) (fun _ _ _ h => h) (Or.inl ⟨by rfl, ?_⟩) ?_ ?_; rotate_left; (intro w'; go_simp; with_reducible rfl); rotate_left; (simp only [nm_]; rfl)
          refine take_ (i := 22) (N := some 40) (v := ?_) (a' := ?_) (bs_ 36 0x7fffff) rfl rfl (take_ofW HT_.out HW_.out (by kernel_rfl)) (fun _ _ _ h => h) (Or.inl ⟨by rfl, ?_⟩) hHeld ?_ ?_; rotate_left; (rintro w' ⟨s0, s1, s2⟩; go_simp; with_reducible rfl); rotate_left; (simp only [nm_]; rfl)
          refine pure_ (i := 23) (N := some 41) (v := ?_) (a' := ?_) (bs_ 36 0xffffff) rfl rfl (any_of HT_.out (by kernel_rfl)) (fun _ _ _ h => h) (Or.inl ⟨by rfl, ?_⟩) ?_ ?_; rotate_left; (intro w'; go_simp; with_reducible rfl); rotate_left; (simp only [nm_]; rfl)
          refine pure_ (i := 24) (N := some 42) (v := ?_) (a' := ?_) (bs_ 36 0x1ffffff) rfl rfl (any_of HT_.out (by kernel_rfl)) (fun _ _ _ h => h) (Or.inl ⟨by rfl, ?_⟩) ?_ ?_; rotate_left; (intro w'; go_simp; with_reducible rfl); rotate_left; (simp only [nm_]; rfl)
          refine take_ (i := 25) (N := some 43) (v := ?_) (a' := ?_) (bs_ 36 0x3ffffff) rfl rfl (take_ofW HT_.out HW_.out (by kernel_rfl)) (fun _ _ _ h => h) (Or.inl ⟨by rfl, ?_⟩) hHeld ?_ ?_; rotate_left; (rintro w' ⟨s0, s1, s2⟩; go_simp; with_reducible rfl); rotate_left; (simp only [nm_]; rfl)
          refine pure_ (i := 26) (N := some 44) (v := ?_) (a' := ?_) (bs_ 36 0x7ffffff) rfl rfl (any_of HT_.out (by kernel_rfl)) (fun _ _ _ h => h) (Or.inl ⟨by rfl, ?_⟩) ?_ ?_; rotate_left; (intro w'; go_simp; with_reducible rfl); rotate_left; (simp only [nm_]; rfl)
          refine pure_ (i := 27) (N := some 45) (v := ?_) (a' := ?_) (bs_ 36 0xfffffff) rfl rfl (any_of HT_.out (by kernel_rfl)) (fun _ _ _ h => h) (Or.inl ⟨by rfl, ?_⟩) ?_ ?_; rotate_left; (intro w'; go_simp; with_reducible rfl); rotate_left; (simp only [nm_]; rfl)
          refine pure_ (i := 28) (N := some 46) (v := ?_) (a' := ?_) (bs_ 36 0x1fffffff) rfl rfl (any_of HT_.out (by kernel_rfl)) (fun _ _ _ h => h) (Or.inl ⟨by rfl, ?_⟩) ?_ ?_; rotate_left; (intro w'; go_simp; with_reducible rfl); rotate_left; (simp only [nm_]; rfl)
          refine pure_ (i := 29) (N := some 47) (v := ?_) (a' := ?_) (bs_ 36 0x3fffffff) rfl rfl (any_of HT_.out (by kernel_rfl)) (fun _ _ _ h => h) (Or.inl ⟨by rfl, ?_⟩) ?_ ?_; rotate_left; (intro w'; go_simp; with_reducible rfl); rotate_left; (simp only [nm_]; rfl)
          refine pure_ (i := 30) (N := some 48) (v := ?_) (a' := ?_) (bs_ 36 0x7fffffff) rfl rfl (any_of HT_.out (by kernel_rfl)) (fun _ _ _ h => h) (Or.inl ⟨by rfl, ?_⟩) ?_ ?_; rotate_left; (intro w'; go_simp; with_reducible rfl); rotate_left; (simp only [nm_]; rfl)
          refine pure_ (i := 31) (N := some 49) (v := undef) (a' := ?_) (bs_ 36 0xffffffff) rfl rfl (any_of HT_.out (by kernel_rfl)) (fun _ _ _ h => h) (Or.inr ⟨by rfl, rfl⟩) ?_ ?_
          rotate_left
          ·simp only [nm_]
           rfl
          refine pure_ (i := 32) (N := some 50) (v := undef) (a' := ?_) (bs_ 36 0x1ffffffff) rfl rfl (any_of HT_.out (by kernel_rfl)) (fun _ _ _ h => h) (Or.inr ⟨by rfl, rfl⟩) ?_ ?_
          rotate_left
          ·simp only [nm_]
           rfl
          refine pure_ (i := 33) (N := some 51) (v := undef) (a' := ?_) (bs_ 36 0x3ffffffff) rfl rfl (any_of HT_.out (by kernel_rfl)) (fun _ _ _ h => h) (Or.inr ⟨by rfl, rfl⟩) ?_ ?_
          rotate_left
          ·simp only [nm_]
           rfl
          refine pure_ (i := 34) (N := some 52) (v := undef) (a' := ?_) (bs_ 36 0x7ffffffff) rfl rfl (any_of HT_.out (by kernel_rfl)) (fun _ _ _ h => h) (Or.inr ⟨by rfl, rfl⟩) ?_ ?_
          rotate_left
          ·simp only [nm_]
           rfl
          refine pure_ (i := 35) (N := some 53) (v := ?_) (a' := ?_) (bs_ 36 0xfffffffff) rfl rfl (any_of HT_.out (by kernel_rfl)) (fun _ _ _ h => h) (Or.inl ⟨by rfl, ?_⟩) ?_ ?_; rotate_left; (intro w'; go_simp; with_reducible rfl); rotate_left; (simp only [nm_]; rfl)
          refine done_ (done_of HT_.out (by kernel_rfl)) ?_
          try go_wp2
          go_meet
          case rel => (try rw [← Nbq34.out]); exact ⟨_, (true), (by first | rfl | (simp; done) | (simp [*]; done)), H', ⟨by have := HK1.out; first | omega | exact Nat.le_refl _⟩, ⟨by (with_reducible repeat (first | refine blk_drewN ?_ _ | refine blk_drew ?_ | refine blk_alloc ?_ _)); exact BK177.out⟩, ⟨by repeat (first | (with_reducible first | exact HB.out | apply below_alloc | apply pw_below_drewN | apply below_drew1 | refine below_set ?_ GE177.out) | exact HB.out)⟩⟩
         ·rw [if_neg c36] at H
          have c36b0 : decide (0 < (((rd_T94 l0 x3_1).f2).length : Int)) = false := decide_eq_false c36
          have c36b1 : decide (0 < ((rd_T94 l0 x3_1).f2).length) = false := decide_eq_false (by omega)
          clear c36
          have H' := Aside0.mk H
          clear H
          try go_wp2
          have n0_ : Aside0 ((((w5.setCell ⟨gb177, 0, none⟩ (.string ((rd_T94 l0 x3_1).f0))).setCell ⟨gb177, 1, none⟩ (.bool (true))).setCell ⟨gb177, 2, none⟩ (.slice A176_2 ((rd_T94 l0 x3_1).f2).length c176_2)).heap[gb177]? = some (.cells #[.string ((rd_T94 l0 x3_1).f0), .bool true, .slice A176_2 ((rd_T94 l0 x3_1).f2).length c176_2] 94 (0, 0))) := ⟨by (with_reducible repeat (first | refine blk_drewN ?_ _ | refine blk_drew ?_ | refine blk_alloc ?_ _)); refine blk_put (cs := #[.string ((rd_T94 l0 x3_1).f0), .bool (true), .slice none 0 0]) ?_ 2 _ rfl; (with_reducible repeat (first | refine blk_drewN ?_ _ | refine blk_drew ?_ | refine blk_alloc ?_ _)); refine blk_put (cs := #[.string ((rd_T94 l0 x3_1).f0), .bool false, .slice none 0 0]) ?_ 1 _ rfl; (with_reducible repeat (first | refine blk_drewN ?_ _ | refine blk_drew ?_ | refine blk_alloc ?_ _)); refine blk_put (cs := #[.string (⟨#[]⟩ : ByteArray), .bool false, .slice none 0 0]) ?_ 0 _ rfl; (with_reducible repeat (first | refine blk_drewN ?_ _ | refine blk_drew ?_ | refine blk_alloc ?_ _)); exact BK177.out⟩
          have n1_ : Aside0 (Below w.heap.size w (((w5.setCell ⟨gb177, 0, none⟩ (.string ((rd_T94 l0 x3_1).f0))).setCell ⟨gb177, 1, none⟩ (.bool (true))).setCell ⟨gb177, 2, none⟩ (.slice A176_2 ((rd_T94 l0 x3_1).f2).length c176_2))) := ⟨by repeat (first | (with_reducible first | exact HB.out | apply below_alloc | apply pw_below_drewN | apply below_drew1 | refine below_set ?_ GE177.out) | exact HB.out)⟩
          (try clear BK177)
          (try clear HB)
          generalize (((w5.setCell ⟨gb177, 0, none⟩ (.string ((rd_T94 l0 x3_1).f0))).setCell ⟨gb177, 1, none⟩ (.bool (true))).setCell ⟨gb177, 2, none⟩ (.slice A176_2 ((rd_T94 l0 x3_1).f2).length c176_2)) = w40 at n0_ n1_ ⊢
          have BK177 := n0_
          have HB := n1_
          clear n0_ n1_
          have n0_ := xa_ (blk_drew BK177.out)
          have n1_ := xa_ (below_drew1 HB.out)
          clear BK177
          clear HB
          have BK177 := n0_
          have HB := n1_
          clear n0_ n1_
          refine start_ (n := 36) (S := fun w' => w'.cell? ⟨gb177, 0, none⟩ = some (.string ((rd_T94 l0 x3_1).f0)) ∧ w'.cell? ⟨gb177, 1, none⟩ = some (.bool true) ∧ w'.cell? ⟨gb177, 2, none⟩ = some (.slice A176_2 ((rd_T94 l0 x3_1).f2).length c176_2)) (ds := []) (bs_ 36 0x0) (by kernel_rfl) rfl rfl ⟨(blk_cell BK177.out 0).trans rfl, (blk_cell BK177.out 1).trans rfl, (blk_cell BK177.out 2).trans rfl⟩ (fun hHeld => ?_); refine with_tabW tallymanref7_GoodTree.tab5 tallymanref7_GoodTree.bits5 (fun HT_ HW_ => ?_)
          generalize w40.drew = w41 at BK177 HB hHeld ⊢
          refine pure_ (i := 0) (N := some 18) (v := ?_) (a' := ?_) (bs_ 36 0x1) rfl rfl (any_of HT_.out (by kernel_rfl)) (fun _ _ _ h => h) (Or.inl ⟨by rfl, ?_⟩) ?_ ?_; rotate_left; (intro w'; go_simp; with_reducible rfl); rotate_left; (simp only [nm_]; rfl)
          refine take_ (i := 1) (N := some 19) (v := ?_) (a' := ?_) (bs_ 36 0x3) rfl rfl (take_ofW HT_.out HW_.out (by kernel_rfl)) (fun _ _ _ h => h) (Or.inl ⟨by rfl, ?_⟩) hHeld ?_ ?_; rotate_left; (rintro w' ⟨s0, s1, s2⟩; go_simp; with_reducible rfl); rotate_left; (simp only [nm_]; rfl)
          refine one_ (i := 2) (N := some 20) (bs_ 36 0x7) rfl rfl (one_of HT_.out (by kernel_rfl)) (by decide) (fun K hK => ?_)
          refine goes_ Tryd.func42 (by kernel_rfl) rfl #[.string ((rd_T94 l0 x3_1).f0)] (by rfl) rfl rfl (by (try simp only [List.map_toArray, List.map_cons, List.map_nil]); first | done | rfl | (simp only [List.length_drop, List.length_take]; rfl)) ?_
          with_reducible refine (tallymanref7_Good.calls ((rd_T94 l0 x3_1).f0) true _ A7.out).mono ?_
          rintro e w42 ⟨rfl, hb⟩
          refine ⟨_, rfl, ?_⟩
          have n0_ := xa_ (blk_below (xb_ BK177.out) hb)
          have n1_ := xa_ (below_step (by repeat (first | (with_reducible first | exact HB.out | apply below_alloc | apply pw_below_drewN | apply below_drew1 | refine below_set ?_ GE177.out) | exact HB.out)) hb)
          clear BK177
          clear HB
          have BK177 := n0_
          have HB := n1_
          clear n0_ n1_
          (try clear hb)
          (try clear hb2)
          (try clear hk)
          (try clear hi)
          refine hK.out _ _ ⟨(blk_cell BK177.out 0).trans rfl, (blk_cell BK177.out 1).trans rfl, (blk_cell BK177.out 2).trans rfl⟩ (fun hHeld => ?_)
          clear hK K
          refine norm_ (a' := ?_) ?_ ?_
          rotate_left
          ·show Act.put _ (some 20) _ = _
           simp only [nm_]
           rfl
          refine pure_ (i := 3) (N := some 21) (v := ?_) (a' := ?_) (bs_ 36 0xf) rfl rfl (any_of HT_.out (by kernel_rfl)) (fun _ _ _ h => h) (Or.inl ⟨by rfl, ?_⟩) ?_ ?_; rotate_left; (intro w'; go_simp; with_reducible rfl); rotate_left; (simp only [nm_]; rfl)
          refine pure_ (i := 4) (N := some 22) (v := ?_) (a' := ?_) (bs_ 36 0x1f) rfl rfl (any_of HT_.out (by kernel_rfl)) (fun _ _ _ h => h) (Or.inl ⟨by rfl, ?_⟩) ?_ ?_; rotate_left; (intro w'; go_simp; with_reducible rfl); rotate_left; (simp only [nm_]; rfl)
          refine pure_ (i := 5) (N := some 23) (v := ?_) (a' := ?_) (bs_ 36 0x3f) rfl rfl (any_of HT_.out (by kernel_rfl)) (fun _ _ _ h => h) (Or.inl ⟨by rfl, ?_⟩) ?_ ?_; rotate_left; (intro w'; go_simp; with_reducible rfl); rotate_left; (simp only [nm_]; rfl)
          refine pure_ (i := 6) (N := some 24) (v := ?_) (a' := ?_) (bs_ 36 0x7f) rfl rfl (any_of HT_.out (by kernel_rfl)) (fun _ _ _ h => h) (Or.inl ⟨by rfl, ?_⟩) ?_ ?_; rotate_left; (intro w'; go_simp; with_reducible rfl); rotate_left; (simp only [nm_]; rfl)
          refine pure_ (i := 7) (N := some 25) (v := ?_) (a' := ?_) (bs_ 36 0xff) rfl rfl (any_of HT_.out (by kernel_rfl)) (fun _ _ _ h => h) (Or.inl ⟨by rfl, ?_⟩) ?_ ?_; rotate_left; (intro w'; go_simp; with_reducible rfl); rotate_left; (simp only [nm_]; rfl)
          refine pure_ (i := 8) (N := some 26) (v := undef) (a' := ?_) (bs_ 36 0x1ff) rfl rfl (any_of HT_.out (by kernel_rfl)) (fun _ _ _ h => h) (Or.inr ⟨by rfl, rfl⟩) ?_ ?_
          rotate_left
          ·simp only [nm_]
           rfl
          refine pure_ (i := 9) (N := some 27) (v := undef) (a' := ?_) (bs_ 36 0x3ff) rfl rfl (any_of HT_.out (by kernel_rfl)) (fun _ _ _ h => h) (Or.inr ⟨by rfl, rfl⟩) ?_ ?_
          rotate_left
          ·simp only [nm_]
           rfl
          refine pure_ (i := 10) (N := some 28) (v := undef) (a' := ?_) (bs_ 36 0x7ff) rfl rfl (any_of HT_.out (by kernel_rfl)) (fun _ _ _ h => h) (Or.inr ⟨by rfl, rfl⟩) ?_ ?_
          rotate_left
          ·simp only [nm_]
           rfl
          refine pure_ (i := 11) (N := some 29) (v := undef) (a' := ?_) (bs_ 36 0xfff) rfl rfl (any_of HT_.out (by kernel_rfl)) (fun _ _ _ h => h) (Or.inr ⟨by rfl, rfl⟩) ?_ ?_
          rotate_left
          ·simp only [nm_]
           rfl
          refine pure_ (i := 12) (N := some 30) (v := undef) (a' := ?_) (bs_ 36 0x1fff) rfl rfl (any_of HT_.out (by kernel_rfl)) (fun _ _ _ h => h) (Or.inr ⟨by rfl, rfl⟩) ?_ ?_
          rotate_left
          ·simp only [nm_]
           rfl
          refine pure_ (i := 13) (N := some 31) (v := undef) (a' := ?_) (bs_ 36 0x3fff) rfl rfl (any_of HT_.out (by kernel_rfl)) (fun _ _ _ h => h) (Or.inr ⟨by rfl, rfl⟩) ?_ ?_
          rotate_left
          ·simp only [nm_]
           rfl
          refine pure_ (i := 14) (N := some 32) (v := undef) (a' := ?_) (bs_ 36 0x7fff) rfl rfl (any_of HT_.out (by kernel_rfl)) (fun _ _ _ h => h) (Or.inr ⟨by rfl, rfl⟩) ?_ ?_
          rotate_left
          ·simp only [nm_]
           rfl
          refine pure_ (i := 15) (N := some 33) (v := undef) (a' := ?_) (bs_ 36 0xffff) rfl rfl (any_of HT_.out (by kernel_rfl)) (fun _ _ _ h => h) (Or.inr ⟨by rfl, rfl⟩) ?_ ?_
          rotate_left
          ·simp only [nm_]
           rfl
          refine pure_ (i := 16) (N := some 34) (v := undef) (a' := ?_) (bs_ 36 0x1ffff) rfl rfl (any_of HT_.out (by kernel_rfl)) (fun _ _ _ h => h) (Or.inr ⟨by rfl, rfl⟩) ?_ ?_
          rotate_left
          ·simp only [nm_]
           rfl
          refine pure_ (i := 17) (N := some 35) (v := undef) (a' := ?_) (bs_ 36 0x3ffff) rfl rfl (any_of HT_.out (by kernel_rfl)) (fun _ _ _ h => h) (Or.inr ⟨by rfl, rfl⟩) ?_ ?_
          rotate_left
          ·simp only [nm_]
           rfl
          refine pure_ (i := 18) (N := some 36) (v := ?_) (a' := ?_) (bs_ 36 0x7ffff) rfl rfl (any_of HT_.out (by kernel_rfl)) (fun _ _ _ h => h) (Or.inl ⟨by rfl, ?_⟩) ?_ ?_; rotate_left; (intro w'; go_simp; with_reducible rfl); rotate_left; (simp only [nm_]; rfl)
          refine pure_ (i := 19) (N := some 37) (v := ?_) (a' := ?_) (bs_ 36 0xfffff) rfl rfl (any_of HT_.out (by kernel_rfl)) (fun _ _ _ h => h) (Or.inl ⟨by rfl, ?_⟩) ?_ ?_; rotate_left; (intro w'; go_simp; with_reducible rfl); rotate_left; (simp only [nm_]; rfl)
          refine pure_ (i := 20) (N := some 38) (v := ?_) (a' := ?_) (bs_ 36 0x1fffff) rfl rfl (any_of HT_.out (by kernel_rfl)) (fun _ _ _ h => h) (Or.inl ⟨by rfl, ?_⟩) ?_ ?_; rotate_left; (intro w'; go_simp; with_reducible rfl); rotate_left; (simp only [nm_]; rfl)
          refine pure_ (i := 21) (N := some 39) (v := ?_) (a' := ?_) (bs_ 36 0x3fffff) rfl rfl (any_of HT_.out (by kernel_rfl)) (fun _ _ _ h => h) (Or.inl ⟨by rfl, ?_⟩) ?_ ?_; rotate_left; (intro w'; go_simp; with_reducible rfl); rotate_left; (simp only [nm_]; rfl)
          refine take_ (i := 22) (N := some 40) (v := ?_) (a' := ?_) (bs_ 36 0x7fffff) rfl rfl (take_ofW HT_.out HW_.out (by kernel_rfl)) (fun _ _ _ h => h) (Or.inl ⟨by rfl, ?_⟩) hHeld ?_ ?_; rotate_left; (rintro w' ⟨s0, s1, s2⟩; go_simp; with_reducible rfl); rotate_left; (simp only [nm_]; rfl)
          refine pure_ (i := 23) (N := some 41) (v := ?_) (a' := ?_) (bs_ 36 0xffffff) rfl rfl (any_of HT_.out (by kernel_rfl)) (fun _ _ _ h => h) (Or.inl ⟨by rfl, ?_⟩) ?_ ?_; rotate_left; (intro w'; go_simp; with_reducible rfl); rotate_left; (simp only [nm_]; rfl)
          refine pure_ (i := 24) (N := some 42) (v := ?_) (a' := ?_) (bs_ 36 0x1ffffff) rfl rfl (any_of HT_.out (by kernel_rfl)) (fun _ _ _ h => h) (Or.inl ⟨by rfl, ?_⟩) ?_ ?_; rotate_left; (intro w'; go_simp; with_reducible rfl); rotate_left; (simp only [nm_]; rfl)
          refine take_ (i := 25) (N := some 43) (v := ?_) (a' := ?_) (bs_ 36 0x3ffffff) rfl rfl (take_ofW HT_.out HW_.out (by kernel_rfl)) (fun _ _ _ h => h) (Or.inl ⟨by rfl, ?_⟩) hHeld ?_ ?_; rotate_left; (rintro w' ⟨s0, s1, s2⟩; go_simp; with_reducible rfl); rotate_left; (simp only [nm_]; rfl)
          refine pure_ (i := 26) (N := some 44) (v := ?_) (a' := ?_) (bs_ 36 0x7ffffff) rfl rfl (any_of HT_.out (by kernel_rfl)) (fun _ _ _ h => h) (Or.inl ⟨by rfl, ?_⟩) ?_ ?_; rotate_left; (intro w'; go_simp; with_reducible rfl); rotate_left; (simp only [nm_]; rfl)
          refine pure_ (i := 27) (N := some 45) (v := ?_) (a' := ?_) (bs_ 36 0xfffffff) rfl rfl (any_of HT_.out (by kernel_rfl)) (fun _ _ _ h => h) (Or.inl ⟨by rfl, ?_⟩) ?_ ?_; rotate_left; (intro w'; go_simp; with_reducible rfl); rotate_left; (simp only [nm_]; rfl)
          refine pure_ (i := 28) (N := some 46) (v := ?_) (a' := ?_) (bs_ 36 0x1fffffff) rfl rfl (any_of HT_.out (by kernel_rfl)) (fun _ _ _ h => h) (Or.inl ⟨by rfl, ?_⟩) ?_ ?_; rotate_left; (intro w'; go_simp; with_reducible rfl); rotate_left; (simp only [nm_]; rfl)
          refine pure_ (i := 29) (N := some 47) (v := ?_) (a' := ?_) (bs_ 36 0x3fffffff) rfl rfl (any_of HT_.out (by kernel_rfl)) (fun _ _ _ h => h) (Or.inl ⟨by rfl, ?_⟩) ?_ ?_; rotate_left; (intro w'; go_simp; with_reducible rfl); rotate_left; (simp only [nm_]; rfl)
          refine pure_ (i := 30) (N := some 48) (v := ?_) (a' := ?_) (bs_ 36 0x7fffffff) rfl rfl (any_of HT_.out (by kernel_rfl)) (fun _ _ _ h => h) (Or.inl ⟨by rfl, ?_⟩) ?_ ?_; rotate_left; (intro w'; go_simp; with_reducible rfl); rotate_left; (simp only [nm_]; rfl)
          refine pure_ (i := 31) (N := some 49) (v := ?_) (a' := ?_) (bs_ 36 0xffffffff) rfl rfl (any_of HT_.out (by kernel_rfl)) (fun _ _ _ h => h) (Or.inl ⟨by rfl, ?_⟩) ?_ ?_; rotate_left; (intro w'; go_simp; with_reducible rfl); rotate_left; (simp only [nm_]; rfl)
          refine take_ (i := 32) (N := some 50) (v := ?_) (a' := ?_) (bs_ 36 0x1ffffffff) rfl rfl (take_ofW HT_.out HW_.out (by kernel_rfl)) (fun _ _ _ h => h) (Or.inl ⟨by rfl, ?_⟩) hHeld ?_ ?_; rotate_left; (rintro w' ⟨s0, s1, s2⟩; go_simp; with_reducible rfl); rotate_left; (simp only [nm_]; rfl)
          refine pure_ (i := 33) (N := some 51) (v := ?_) (a' := ?_) (bs_ 36 0x3ffffffff) rfl rfl (any_of HT_.out (by kernel_rfl)) (fun _ _ _ h => h) (Or.inl ⟨by rfl, ?_⟩) ?_ ?_; rotate_left; (intro w'; go_simp; with_reducible rfl); rotate_left; (simp only [nm_]; rfl)
          refine pure_ (i := 34) (N := some 52) (v := ?_) (a' := ?_) (bs_ 36 0x7ffffffff) rfl rfl (any_of HT_.out (by kernel_rfl)) (fun _ _ _ h => h) (Or.inl ⟨by rfl, ?_⟩) ?_ ?_; rotate_left; (intro w'; go_simp; with_reducible rfl); rotate_left; (simp only [nm_]; rfl)
          refine pure_ (i := 35) (N := some 53) (v := ?_) (a' := ?_) (bs_ 36 0xfffffffff) rfl rfl (any_of HT_.out (by kernel_rfl)) (fun _ _ _ h => h) (Or.inl ⟨by rfl, ?_⟩) ?_ ?_; rotate_left; (intro w'; go_simp; with_reducible rfl); rotate_left; (simp only [nm_]; rfl)
          refine done_ (done_of HT_.out (by kernel_rfl)) ?_
          try go_wp2
          go_meet
          case rel => (try rw [← Nbq34.out]); exact ⟨_, (decide ((((rd_T94 l0 x3_1).f2).length : Int) > 2048)), (by first | rfl | (simp; done) | (simp [*]; done)), H', ⟨by have := HK1.out; first | omega | exact Nat.le_refl _⟩, ⟨by (with_reducible repeat (first | refine blk_drewN ?_ _ | refine blk_drew ?_ | refine blk_alloc ?_ _)); exact BK177.out⟩, ⟨by repeat (first | (with_reducible first | exact HB.out | apply below_alloc | apply pw_below_drewN | apply below_drew1 | refine below_set ?_ GE177.out) | exact HB.out)⟩⟩
        ·replace c35 := Bool.eq_false_iff.mpr c35
         subst c35
         have H1 : (tallymanref7_GoodTree.j1 k1 l0 x3_1 (decide ((((rd_T94 l0 x3_1).f2).length : Int) > 2048)) ((rd_T94 l0 x3_1).f0) false ((rd_T94 l0 x3_1).f2)) = some r := by rw [if_neg (show ¬ (false = true) by decide)] at H; exact H
         clear H
         have H := H1
         clear H1
         have H' := Aside0.mk H
         clear H
         try go_wp2
         have n0_ : Aside0 ((((w5.setCell ⟨gb177, 0, none⟩ (.string ((rd_T94 l0 x3_1).f0))).setCell ⟨gb177, 1, none⟩ (.bool (false))).setCell ⟨gb177, 2, none⟩ (.slice A176_2 ((rd_T94 l0 x3_1).f2).length c176_2)).heap[gb177]? = some (.cells #[.string ((rd_T94 l0 x3_1).f0), .bool false, .slice A176_2 ((rd_T94 l0 x3_1).f2).length c176_2] 94 (0, 0))) := ⟨by (with_reducible repeat (first | refine blk_drewN ?_ _ | refine blk_drew ?_ | refine blk_alloc ?_ _)); refine blk_put (cs := #[.string ((rd_T94 l0 x3_1).f0), .bool (false), .slice none 0 0]) ?_ 2 _ rfl; (with_reducible repeat (first | refine blk_drewN ?_ _ | refine blk_drew ?_ | refine blk_alloc ?_ _)); refine blk_put (cs := #[.string ((rd_T94 l0 x3_1).f0), .bool false, .slice none 0 0]) ?_ 1 _ rfl; (with_reducible repeat (first | refine blk_drewN ?_ _ | refine blk_drew ?_ | refine blk_alloc ?_ _)); refine blk_put (cs := #[.string (⟨#[]⟩ : ByteArray), .bool false, .slice none 0 0]) ?_ 0 _ rfl; (with_reducible repeat (first | refine blk_drewN ?_ _ | refine blk_drew ?_ | refine blk_alloc ?_ _)); exact BK177.out⟩
         have n1_ : Aside0 (Below w.heap.size w (((w5.setCell ⟨gb177, 0, none⟩ (.string ((rd_T94 l0 x3_1).f0))).setCell ⟨gb177, 1, none⟩ (.bool (false))).setCell ⟨gb177, 2, none⟩ (.slice A176_2 ((rd_T94 l0 x3_1).f2).length c176_2))) := ⟨by repeat (first | (with_reducible first | exact HB.out | apply below_alloc | apply pw_below_drewN | apply below_drew1 | refine below_set ?_ GE177.out) | exact HB.out)⟩
         (try clear BK177)
         (try clear HB)
         generalize (((w5.setCell ⟨gb177, 0, none⟩ (.string ((rd_T94 l0 x3_1).f0))).setCell ⟨gb177, 1, none⟩ (.bool (false))).setCell ⟨gb177, 2, none⟩ (.slice A176_2 ((rd_T94 l0 x3_1).f2).length c176_2)) = w43 at n0_ n1_ ⊢
         have BK177 := n0_
         have HB := n1_
         clear n0_ n1_
         have n0_ := xa_ (blk_drew BK177.out)
         have n1_ := xa_ (below_drew1 HB.out)
         clear BK177
         clear HB
         have BK177 := n0_
         have HB := n1_
         clear n0_ n1_
         refine start_ (n := 36) (S := fun w' => w'.cell? ⟨gb177, 0, none⟩ = some (.string ((rd_T94 l0 x3_1).f0)) ∧ w'.cell? ⟨gb177, 1, none⟩ = some (.bool false) ∧ w'.cell? ⟨gb177, 2, none⟩ = some (.slice A176_2 ((rd_T94 l0 x3_1).f2).length c176_2)) (ds := []) (bs_ 36 0x0) (by kernel_rfl) rfl rfl ⟨(blk_cell BK177.out 0).trans rfl, (blk_cell BK177.out 1).trans rfl, (blk_cell BK177.out 2).trans rfl⟩ (fun hHeld => ?_); refine with_tabW tallymanref7_GoodTree.tab5 tallymanref7_GoodTree.bits5 (fun HT_ HW_ => ?_)
         generalize w43.drew = w44 at BK177 HB hHeld ⊢
         refine pure_ (i := 0) (N := some 18) (v := ?_) (a' := ?_) (bs_ 36 0x1) rfl rfl (any_of HT_.out (by kernel_rfl)) (fun _ _ _ h => h) (Or.inl ⟨by rfl, ?_⟩) ?_ ?_; rotate_left; (intro w'; go_simp; with_reducible rfl); rotate_left; (simp only [nm_]; rfl)
         refine take_ (i := 1) (N := some 19) (v := ?_) (a' := ?_) (bs_ 36 0x3) rfl rfl (take_ofW HT_.out HW_.out (by kernel_rfl)) (fun _ _ _ h => h) (Or.inl ⟨by rfl, ?_⟩) hHeld ?_ ?_; rotate_left; (rintro w' ⟨s0, s1, s2⟩; go_simp; with_reducible rfl); rotate_left; (simp only [nm_]; rfl)
         refine one_ (i := 2) (N := some 20) (bs_ 36 0x7) rfl rfl (one_of HT_.out (by kernel_rfl)) (by decide) (fun K hK => ?_)
         refine goes_ Tryd.func42 (by kernel_rfl) rfl #[.string ((rd_T94 l0 x3_1).f0)] (by rfl) rfl rfl (by (try simp only [List.map_toArray, List.map_cons, List.map_nil]); first | done | rfl | (simp only [List.length_drop, List.length_take]; rfl)) ?_
         with_reducible refine (tallymanref7_Good.calls ((rd_T94 l0 x3_1).f0) true _ A7.out).mono ?_
         rintro e w45 ⟨rfl, hb⟩
         refine ⟨_, rfl, ?_⟩
         have n0_ := xa_ (blk_below (xb_ BK177.out) hb)
         have n1_ := xa_ (below_step (by repeat (first | (with_reducible first | exact HB.out | apply below_alloc | apply pw_below_drewN | apply below_drew1 | refine below_set ?_ GE177.out) | exact HB.out)) hb)
         clear BK177
         clear HB
         have BK177 := n0_
         have HB := n1_
         clear n0_ n1_
         (try clear hb)
         (try clear hb2)
         (try clear hk)
         (try clear hi)
         refine hK.out _ _ ⟨(blk_cell BK177.out 0).trans rfl, (blk_cell BK177.out 1).trans rfl, (blk_cell BK177.out 2).trans rfl⟩ (fun hHeld => ?_)
         clear hK K
         refine norm_ (a' := ?_) ?_ ?_
         rotate_left
         ·show Act.put _ (some 20) _ = _
          simp only [nm_]
          rfl
         refine pure_ (i := 3) (N := some 21) (v := ?_) (a' := ?_) (bs_ 36 0xf) rfl rfl (any_of HT_.out (by kernel_rfl)) (fun _ _ _ h => h) (Or.inl ⟨by rfl, ?_⟩) ?_ ?_; rotate_left; (intro w'; go_simp; with_reducible rfl); rotate_left; (simp only [nm_]; rfl)
         refine pure_ (i := 4) (N := some 22) (v := ?_) (a' := ?_) (bs_ 36 0x1f) rfl rfl (any_of HT_.out (by kernel_rfl)) (fun _ _ _ h => h) (Or.inl ⟨by rfl, ?_⟩) ?_ ?_; rotate_left; (intro w'; go_simp; with_reducible rfl); rotate_left; (simp only [nm_]; rfl)
         refine pure_ (i := 5) (N := some 23) (v := ?_) (a' := ?_) (bs_ 36 0x3f) rfl rfl (any_of HT_.out (by kernel_rfl)) (fun _ _ _ h => h) (Or.inl ⟨by rfl, ?_⟩) ?_ ?_; rotate_left; (intro w'; go_simp; with_reducible rfl); rotate_left; (simp only [nm_]; rfl)
         refine pure_ (i := 6) (N := some 24) (v := ?_) (a' := ?_) (bs_ 36 0x7f) rfl rfl (any_of HT_.out (by kernel_rfl)) (fun _ _ _ h => h) (Or.inl ⟨by rfl, ?_⟩) ?_ ?_; rotate_left; (intro w'; go_simp; with_reducible rfl); rotate_left; (simp only [nm_]; rfl)
         refine pure_ (i := 7) (N := some 25) (v := ?_) (a' := ?_) (bs_ 36 0xff) rfl rfl (any_of HT_.out (by kernel_rfl)) (fun _ _ _ h => h) (Or.inl ⟨by rfl, ?_⟩) ?_ ?_; rotate_left; (intro w'; go_simp; with_reducible rfl); rotate_left; (simp only [nm_]; rfl)
         refine pure_ (i := 8) (N := some 26) (v := undef) (a' := ?_) (bs_ 36 0x1ff) rfl rfl (any_of HT_.out (by kernel_rfl)) (fun _ _ _ h => h) (Or.inr ⟨by rfl, rfl⟩) ?_ ?_
         rotate_left
         ·simp only [nm_]
          rfl
         refine pure_ (i := 9) (N := some 27) (v := undef) (a' := ?_) (bs_ 36 0x3ff) rfl rfl (any_of HT_.out (by kernel_rfl)) (fun _ _ _ h => h) (Or.inr ⟨by rfl, rfl⟩) ?_ ?_
         rotate_left
         ·simp only [nm_]
          rfl
         refine pure_ (i := 10) (N := some 28) (v := undef) (a' := ?_) (bs_ 36 0x7ff) rfl rfl (any_of HT_.out (by kernel_rfl)) (fun _ _ _ h => h) (Or.inr ⟨by rfl, rfl⟩) ?_ ?_
         rotate_left
         ·simp only [nm_]
          rfl
         refine pure_ (i := 11) (N := some 29) (v := undef) (a' := ?_) (bs_ 36 0xfff) rfl rfl (any_of HT_.out (by kernel_rfl)) (fun _ _ _ h => h) (Or.inr ⟨by rfl, rfl⟩) ?_ ?_
         rotate_left
         ·simp only [nm_]
          rfl
         refine pure_ (i := 12) (N := some 30) (v := undef) (a' := ?_) (bs_ 36 0x1fff) rfl rfl (any_of HT_.out (by kernel_rfl)) (fun _ _ _ h => h) (Or.inr ⟨by rfl, rfl⟩) ?_ ?_
         rotate_left
         ·simp only [nm_]
          rfl
         refine pure_ (i := 13) (N := some 31) (v := undef) (a' := ?_) (bs_ 36 0x3fff) rfl rfl (any_of HT_.out (by kernel_rfl)) (fun _ _ _ h => h) (Or.inr ⟨by rfl, rfl⟩) ?_ ?_
         rotate_left
         ·simp only [nm_]
          rfl
         refine pure_ (i := 14) (N := some 32) (v := undef) (a' := ?_) (bs_ 36 0x7fff) rfl rfl (any_of HT_.out (by kernel_rfl)) (fun _ _ _ h => h) (Or.inr ⟨by rfl, rfl⟩) ?_ ?_
         rotate_left
         ·simp only [nm_]
          rfl
         refine pure_ (i := 15) (N := some 33) (v := undef) (a' := ?_) (bs_ 36 0xffff) rfl rfl (any_of HT_.out (by kernel_rfl)) (fun _ _ _ h => h) (Or.inr ⟨by rfl, rfl⟩) ?_ ?_
         rotate_left
         ·simp only [nm_]
          rfl
         refine pure_ (i := 16) (N := some 34) (v := undef) (a' := ?_) (bs_ 36 0x1ffff) rfl rfl (any_of HT_.out (by kernel_rfl)) (fun _ _ _ h => h) (Or.inr ⟨by rfl, rfl⟩) ?_ ?_
         rotate_left
         ·simp only [nm_]
          rfl
         refine pure_ (i := 17) (N := some 35) (v := undef) (a' := ?_) (bs_ 36 0x3ffff) rfl rfl (any_of HT_.out (by kernel_rfl)) (fun _ _ _ h => h) (Or.inr ⟨by rfl, rfl⟩) ?_ ?_
         rotate_left
         ·simp only [nm_]
          rfl
         refine pure_ (i := 18) (N := some 36) (v := ?_) (a' := ?_) (bs_ 36 0x7ffff) rfl rfl (any_of HT_.out (by kernel_rfl)) (fun _ _ _ h => h) (Or.inl ⟨by rfl, ?_⟩) ?_ ?_; rotate_left; (intro w'; go_simp; with_reducible rfl); rotate_left; (simp only [nm_]; rfl)
         refine pure_ (i := 19) (N := some 37) (v := ?_) (a' := ?_) (bs_ 36 0xfffff) rfl rfl (any_of HT_.out (by kernel_rfl)) (fun _ _ _ h => h) (Or.inl ⟨by rfl, ?_⟩) ?_ ?_; rotate_left; (intro w'; go_simp; with_reducible rfl); rotate_left; (simp only [nm_]; rfl)
         refine pure_ (i := 20) (N := some 38) (v := ?_) (a' := ?_) (bs_ 36 0x1fffff) rfl rfl (any_of HT_.out (by kernel_rfl)) (fun _ _ _ h => h) (Or.inl ⟨by rfl, ?_⟩) ?_ ?_; rotate_left; (intro w'; go_simp; with_reducible rfl); rotate_left; (simp only [nm_]; rfl)
         refine pure_ (i := 21) (N := some 39) (v := ?_) (a' := ?_) (bs_ 36 0x3fffff) rfl rfl (any_of HT_.out (by kernel_rfl)) (fun _ _ _ h => h) (Or.inl ⟨by rfl, ?_⟩) ?_ ?_; rotate_left; (intro w'; go_simp; with_reducible rfl); rotate_left; (simp only [nm_]; rfl)
         refine take_ (i := 22) (N := some 40) (v := ?_) (a' := ?_) (bs_ 36 0x7fffff) rfl rfl (take_ofW HT_.out HW_.out (by kernel_rfl)) (fun _ _ _ h => h) (Or.inl ⟨by rfl, ?_⟩) hHeld ?_ ?_; rotate_left; (rintro w' ⟨s0, s1, s2⟩; go_simp; with_reducible rfl); rotate_left; (simp only [nm_]; rfl)
         refine pure_ (i := 23) (N := some 41) (v := ?_) (a' := ?_) (bs_ 36 0xffffff) rfl rfl (any_of HT_.out (by kernel_rfl)) (fun _ _ _ h => h) (Or.inl ⟨by rfl, ?_⟩) ?_ ?_; rotate_left; (intro w'; go_simp; with_reducible rfl); rotate_left; (simp only [nm_]; rfl)
         refine pure_ (i := 24) (N := some 42) (v := undef) (a' := ?_) (bs_ 36 0x1ffffff) rfl rfl (any_of HT_.out (by kernel_rfl)) (fun _ _ _ h => h) (Or.inr ⟨by rfl, rfl⟩) ?_ ?_
         rotate_left
         ·simp only [nm_]
          rfl
         refine pure_ (i := 25) (N := some 43) (v := undef) (a' := ?_) (bs_ 36 0x3ffffff) rfl rfl (any_of HT_.out (by kernel_rfl)) (fun _ _ _ h => h) (Or.inr ⟨by rfl, rfl⟩) ?_ ?_
         rotate_left
         ·simp only [nm_]
          rfl
         refine pure_ (i := 26) (N := some 44) (v := undef) (a' := ?_) (bs_ 36 0x7ffffff) rfl rfl (any_of HT_.out (by kernel_rfl)) (fun _ _ _ h => h) (Or.inr ⟨by rfl, rfl⟩) ?_ ?_
         rotate_left
         ·simp only [nm_]
          rfl
         refine pure_ (i := 27) (N := some 45) (v := undef) (a' := ?_) (bs_ 36 0xfffffff) rfl rfl (any_of HT_.out (by kernel_rfl)) (fun _ _ _ h => h) (Or.inr ⟨by rfl, rfl⟩) ?_ ?_
         rotate_left
         ·simp only [nm_]
          rfl
         refine pure_ (i := 28) (N := some 46) (v := ?_) (a' := ?_) (bs_ 36 0x1fffffff) rfl rfl (any_of HT_.out (by kernel_rfl)) (fun _ _ _ h => h) (Or.inl ⟨by rfl, ?_⟩) ?_ ?_; rotate_left; (intro w'; go_simp; with_reducible rfl); rotate_left; (simp only [nm_]; rfl)
         refine pure_ (i := 29) (N := some 47) (v := ?_) (a' := ?_) (bs_ 36 0x3fffffff) rfl rfl (any_of HT_.out (by kernel_rfl)) (fun _ _ _ h => h) (Or.inl ⟨by rfl, ?_⟩) ?_ ?_; rotate_left; (intro w'; go_simp; with_reducible rfl); rotate_left; (simp only [nm_]; rfl)
         refine pure_ (i := 30) (N := some 48) (v := ?_) (a' := ?_) (bs_ 36 0x7fffffff) rfl rfl (any_of HT_.out (by kernel_rfl)) (fun _ _ _ h => h) (Or.inl ⟨by rfl, ?_⟩) ?_ ?_; rotate_left; (intro w'; go_simp; with_reducible rfl); rotate_left; (simp only [nm_]; rfl)
         refine pure_ (i := 31) (N := some 49) (v := ?_) (a' := ?_) (bs_ 36 0xffffffff) rfl rfl (any_of HT_.out (by kernel_rfl)) (fun _ _ _ h => h) (Or.inl ⟨by rfl, ?_⟩) ?_ ?_; rotate_left; (intro w'; go_simp; with_reducible rfl); rotate_left; (simp only [nm_]; rfl)
         refine take_ (i := 32) (N := some 50) (v := ?_) (a' := ?_) (bs_ 36 0x1ffffffff) rfl rfl (take_ofW HT_.out HW_.out (by kernel_rfl)) (fun _ _ _ h => h) (Or.inl ⟨by rfl, ?_⟩) hHeld ?_ ?_; rotate_left; (rintro w' ⟨s0, s1, s2⟩; go_simp; with_reducible rfl); rotate_left; (simp only [nm_]; rfl)
         refine pure_ (i := 33) (N := some 51) (v := ?_) (a' := ?_) (bs_ 36 0x3ffffffff) rfl rfl (any_of HT_.out (by kernel_rfl)) (fun _ _ _ h => h) (Or.inl ⟨by rfl, ?_⟩) ?_ ?_; rotate_left; (intro w'; go_simp; with_reducible rfl); rotate_left; (simp only [nm_]; rfl)
         refine pure_ (i := 34) (N := some 52) (v := ?_) (a' := ?_) (bs_ 36 0x7ffffffff) rfl rfl (any_of HT_.out (by kernel_rfl)) (fun _ _ _ h => h) (Or.inl ⟨by rfl, ?_⟩) ?_ ?_; rotate_left; (intro w'; go_simp; with_reducible rfl); rotate_left; (simp only [nm_]; rfl)
         refine pure_ (i := 35) (N := some 53) (v := ?_) (a' := ?_) (bs_ 36 0xfffffffff) rfl rfl (any_of HT_.out (by kernel_rfl)) (fun _ _ _ h => h) (Or.inl ⟨by rfl, ?_⟩) ?_ ?_; rotate_left; (intro w'; go_simp; with_reducible rfl); rotate_left; (simp only [nm_]; rfl)
         refine done_ (done_of HT_.out (by kernel_rfl)) ?_
         try go_wp2
         go_meet
         case rel => (try rw [← Nbq34.out]); exact ⟨_, (decide ((((rd_T94 l0 x3_1).f2).length : Int) > 2048)), (by first | rfl | (simp; done) | (simp [*]; done)), H', ⟨by have := HK1.out; first | omega | exact Nat.le_refl _⟩, ⟨by (with_reducible repeat (first | refine blk_drewN ?_ _ | refine blk_drew ?_ | refine blk_alloc ?_ _)); exact BK177.out⟩, ⟨by repeat (first | (with_reducible first | exact HB.out | apply below_alloc | apply pw_below_drewN | apply below_drew1 | refine below_set ?_ GE177.out) | exact HB.out)⟩⟩
      ·replace c8 := Bool.eq_false_iff.mpr c8
       subst c8
       have H1 : (tallymanref7_GoodTree.j1 k1 l0 x3_1 true ((rd_T94 l0 x3_1).f0) ((rd_T94 l0 x3_1).f1) ((rd_T94 l0 x3_1).f2)) = some r := by rw [if_neg (show ¬ (false = true) by decide)] at H; exact H
       clear H
       have H := H1
       clear H1
       have H' := Aside0.mk H
       clear H
       try go_wp2
       have n0_ : Aside0 ((((w5.setCell ⟨gb177, 0, none⟩ (.string ((rd_T94 l0 x3_1).f0))).setCell ⟨gb177, 1, none⟩ (.bool ((rd_T94 l0 x3_1).f1))).setCell ⟨gb177, 2, none⟩ (.slice A176_2 ((rd_T94 l0 x3_1).f2).length c176_2)).heap[gb177]? = some (.cells #[.string ((rd_T94 l0 x3_1).f0), .bool ((rd_T94 l0 x3_1).f1), .slice A176_2 ((rd_T94 l0 x3_1).f2).length c176_2] 94 (0, 0))) := ⟨by (with_reducible repeat (first | refine blk_drewN ?_ _ | refine blk_drew ?_ | refine blk_alloc ?_ _)); refine blk_put (cs := #[.string ((rd_T94 l0 x3_1).f0), .bool ((rd_T94 l0 x3_1).f1), .slice none 0 0]) ?_ 2 _ rfl; (with_reducible repeat (first | refine blk_drewN ?_ _ | refine blk_drew ?_ | refine blk_alloc ?_ _)); refine blk_put (cs := #[.string ((rd_T94 l0 x3_1).f0), .bool false, .slice none 0 0]) ?_ 1 _ rfl; (with_reducible repeat (first | refine blk_drewN ?_ _ | refine blk_drew ?_ | refine blk_alloc ?_ _)); refine blk_put (cs := #[.string (⟨#[]⟩ : ByteArray), .bool false, .slice none 0 0]) ?_ 0 _ rfl; (with_reducible repeat (first | refine blk_drewN ?_ _ | refine blk_drew ?_ | refine blk_alloc ?_ _)); exact BK177.out⟩
       have n1_ : Aside0 (Below w.heap.size w (((w5.setCell ⟨gb177, 0, none⟩ (.string ((rd_T94 l0 x3_1).f0))).setCell ⟨gb177, 1, none⟩ (.bool ((rd_T94 l0 x3_1).f1))).setCell ⟨gb177, 2, none⟩ (.slice A176_2 ((rd_T94 l0 x3_1).f2).length c176_2))) := ⟨by repeat (first | (with_reducible first | exact HB.out | apply below_alloc | apply pw_below_drewN | apply below_drew1 | refine below_set ?_ GE177.out) | exact HB.out)⟩
       (try clear BK177)
       (try clear HB)
       generalize (((w5.setCell ⟨gb177, 0, none⟩ (.string ((rd_T94 l0 x3_1).f0))).setCell ⟨gb177, 1, none⟩ (.bool ((rd_T94 l0 x3_1).f1))).setCell ⟨gb177, 2, none⟩ (.slice A176_2 ((rd_T94 l0 x3_1).f2).length c176_2)) = w46 at n0_ n1_ ⊢
       have BK177 := n0_
       have HB := n1_
       clear n0_ n1_
       have n0_ := xa_ (blk_drew BK177.out)
       have n1_ := xa_ (below_drew1 HB.out)
       clear BK177
       clear HB
       have BK177 := n0_
       have HB := n1_
       clear n0_ n1_
       refine start_ (n := 36) (S := fun w' => w'.cell? ⟨gb177, 0, none⟩ = some (.string ((rd_T94 l0 x3_1).f0)) ∧ w'.cell? ⟨gb177, 1, none⟩ = some (.bool ((rd_T94 l0 x3_1).f1)) ∧ w'.cell? ⟨gb177, 2, none⟩ = some (.slice A176_2 ((rd_T94 l0 x3_1).f2).length c176_2)) (ds := []) (bs_ 36 0x0) (by kernel_rfl) rfl rfl ⟨(blk_cell BK177.out 0).trans rfl, (blk_cell BK177.out 1).trans rfl, (blk_cell BK177.out 2).trans rfl⟩ (fun hHeld => ?_); refine with_tabW tallymanref7_GoodTree.tab5 tallymanref7_GoodTree.bits5 (fun HT_ HW_ => ?_)
       generalize w46.drew = w47 at BK177 HB hHeld ⊢
       refine pure_ (i := 0) (N := some 18) (v := ?_) (a' := ?_) (bs_ 36 0x1) rfl rfl (any_of HT_.out (by kernel_rfl)) (fun _ _ _ h => h) (Or.inl ⟨by rfl, ?_⟩) ?_ ?_; rotate_left; (intro w'; go_simp; with_reducible rfl); rotate_left; (simp only [nm_]; rfl)
       refine take_ (i := 1) (N := some 19) (v := ?_) (a' := ?_) (bs_ 36 0x3) rfl rfl (take_ofW HT_.out HW_.out (by kernel_rfl)) (fun _ _ _ h => h) (Or.inl ⟨by rfl, ?_⟩) hHeld ?_ ?_; rotate_left; (rintro w' ⟨s0, s1, s2⟩; go_simp; with_reducible rfl); rotate_left; (simp only [nm_]; rfl)
       refine one_ (i := 2) (N := some 20) (bs_ 36 0x7) rfl rfl (one_of HT_.out (by kernel_rfl)) (by decide) (fun K hK => ?_)
       refine goes_ Tryd.func42 (by kernel_rfl) rfl #[.string ((rd_T94 l0 x3_1).f0)] (by rfl) rfl rfl (by (try simp only [List.map_toArray, List.map_cons, List.map_nil]); first | done | rfl | (simp only [List.length_drop, List.length_take]; rfl)) ?_
       with_reducible refine (tallymanref7_Good.calls ((rd_T94 l0 x3_1).f0) false _ A7.out).mono ?_
       rintro e w48 ⟨rfl, hb⟩
       refine ⟨_, rfl, ?_⟩
       have n0_ := xa_ (blk_below (xb_ BK177.out) hb)
       have n1_ := xa_ (below_step (by repeat (first | (with_reducible first | exact HB.out | apply below_alloc | apply pw_below_drewN | apply below_drew1 | refine below_set ?_ GE177.out) | exact HB.out)) hb)
       clear BK177
       clear HB
       have BK177 := n0_
       have HB := n1_
       clear n0_ n1_
       (try clear hb)
       (try clear hb2)
       (try clear hk)
       (try clear hi)
       refine hK.out _ _ ⟨(blk_cell BK177.out 0).trans rfl, (blk_cell BK177.out 1).trans rfl, (blk_cell BK177.out 2).trans rfl⟩ (fun hHeld => ?_)
       clear hK K
       refine norm_ (a' := ?_) ?_ ?_
       rotate_left
       ·show Act.put _ (some 20) _ = _
        simp only [nm_]
        rfl
       refine pure_ (i := 3) (N := some 21) (v := ?_) (a' := ?_) (bs_ 36 0xf) rfl rfl (any_of HT_.out (by kernel_rfl)) (fun _ _ _ h => h) (Or.inl ⟨by rfl, ?_⟩) ?_ ?_; rotate_left; (intro w'; go_simp; with_reducible rfl); rotate_left; (simp only [nm_]; rfl)
       refine pure_ (i := 4) (N := some 22) (v := ?_) (a' := ?_) (bs_ 36 0x1f) rfl rfl (any_of HT_.out (by kernel_rfl)) (fun _ _ _ h => h) (Or.inl ⟨by rfl, ?_⟩) ?_ ?_; rotate_left; (intro w'; go_simp; with_reducible rfl); rotate_left; (simp only [nm_]; rfl)
       refine pure_ (i := 5) (N := some 23) (v := undef) (a' := ?_) (bs_ 36 0x3f) rfl rfl (any_of HT_.out (by kernel_rfl)) (fun _ _ _ h => h) (Or.inr ⟨by rfl, rfl⟩) ?_ ?_
       rotate_left
       ·simp only [nm_]
        rfl
       refine pure_ (i := 6) (N := some 24) (v := undef) (a' := ?_) (bs_ 36 0x7f) rfl rfl (any_of HT_.out (by kernel_rfl)) (fun _ _ _ h => h) (Or.inr ⟨by rfl, rfl⟩) ?_ ?_
       rotate_left
       ·simp only [nm_]
        rfl
       refine pure_ (i := 7) (N := some 25) (v := undef) (a' := ?_) (bs_ 36 0xff) rfl rfl (any_of HT_.out (by kernel_rfl)) (fun _ _ _ h => h) (Or.inr ⟨by rfl, rfl⟩) ?_ ?_
       rotate_left
       ·simp only [nm_]
        rfl
       refine pure_ (i := 8) (N := some 26) (v := undef) (a' := ?_) (bs_ 36 0x1ff) rfl rfl (any_of HT_.out (by kernel_rfl)) (fun _ _ _ h => h) (Or.inr ⟨by rfl, rfl⟩) ?_ ?_
       rotate_left
       ·simp only [nm_]
        rfl
       refine pure_ (i := 9) (N := some 27) (v := undef) (a' := ?_) (bs_ 36 0x3ff) rfl rfl (any_of HT_.out (by kernel_rfl)) (fun _ _ _ h => h) (Or.inr ⟨by rfl, rfl⟩) ?_ ?_
       rotate_left
       ·simp only [nm_]
        rfl
       refine pure_ (i := 10) (N := some 28) (v := undef) (a' := ?_) (bs_ 36 0x7ff) rfl rfl (any_of HT_.out (by kernel_rfl)) (fun _ _ _ h => h) (Or.inr ⟨by rfl, rfl⟩) ?_ ?_
       rotate_left
       ·simp only [nm_]
        rfl
       refine pure_ (i := 11) (N := some 29) (v := undef) (a' := ?_) (bs_ 36 0xfff) rfl rfl (any_of HT_.out (by kernel_rfl)) (fun _ _ _ h => h) (Or.inr ⟨by rfl, rfl⟩) ?_ ?_
       rotate_left
       ·simp only [nm_]
        rfl
       refine pure_ (i := 12) (N := some 30) (v := undef) (a' := ?_) (bs_ 36 0x1fff) rfl rfl (any_of HT_.out (by kernel_rfl)) (fun _ _ _ h => h) (Or.inr ⟨by rfl, rfl⟩) ?_ ?_
       rotate_left
       ·simp only [nm_]
        rfl
       refine pure_ (i := 13) (N := some 31) (v := undef) (a' := ?_) (bs_ 36 0x3fff) rfl rfl (any_of HT_.out (by kernel_rfl)) (fun _ _ _ h => h) (Or.inr ⟨by rfl, rfl⟩) ?_ ?_
       rotate_left
       ·simp only [nm_]
        rfl
       refine pure_ (i := 14) (N := some 32) (v := undef) (a' := ?_) (bs_ 36 0x7fff) rfl rfl (any_of HT_.out (by kernel_rfl)) (fun _ _ _ h => h) (Or.inr ⟨by rfl, rfl⟩) ?_ ?_
       rotate_left
       ·simp only [nm_]
        rfl
       refine pure_ (i := 15) (N := some 33) (v := undef) (a' := ?_) (bs_ 36 0xffff) rfl rfl (any_of HT_.out (by kernel_rfl)) (fun _ _ _ h => h) (Or.inr ⟨by rfl, rfl⟩) ?_ ?_
       rotate_left
       ·simp only [nm_]
        rfl
       refine pure_ (i := 16) (N := some 34) (v := undef) (a' := ?_) (bs_ 36 0x1ffff) rfl rfl (any_of HT_.out (by kernel_rfl)) (fun _ _ _ h => h) (Or.inr ⟨by rfl, rfl⟩) ?_ ?_
       rotate_left
       ·simp only [nm_]
        rfl
       refine pure_ (i := 17) (N := some 35) (v := undef) (a' := ?_) (bs_ 36 0x3ffff) rfl rfl (any_of HT_.out (by kernel_rfl)) (fun _ _ _ h => h) (Or.inr ⟨by rfl, rfl⟩) ?_ ?_
       rotate_left
       ·simp only [nm_]
        rfl
       refine pure_ (i := 18) (N := some 36) (v := undef) (a' := ?_) (bs_ 36 0x7ffff) rfl rfl (any_of HT_.out (by kernel_rfl)) (fun _ _ _ h => h) (Or.inr ⟨by rfl, rfl⟩) ?_ ?_
       rotate_left
       ·simp only [nm_]
        rfl
       refine pure_ (i := 19) (N := some 37) (v := ?_) (a' := ?_) (bs_ 36 0xfffff) rfl rfl (any_of HT_.out (by kernel_rfl)) (fun _ _ _ h => h) (Or.inl ⟨by rfl, ?_⟩) ?_ ?_; rotate_left; (intro w'; go_simp; with_reducible rfl); rotate_left; (simp only [nm_]; rfl)
       refine pure_ (i := 20) (N := some 38) (v := ?_) (a' := ?_) (bs_ 36 0x1fffff) rfl rfl (any_of HT_.out (by kernel_rfl)) (fun _ _ _ h => h) (Or.inl ⟨by rfl, ?_⟩) ?_ ?_; rotate_left; (intro w'; go_simp; with_reducible rfl); rotate_left; (simp only [nm_]; rfl)
       refine pure_ (i := 21) (N := some 39) (v := undef) (a' := ?_) (bs_ 36 0x3fffff) rfl rfl (any_of HT_.out (by kernel_rfl)) (fun _ _ _ h => h) (Or.inr ⟨by rfl, rfl⟩) ?_ ?_
       rotate_left
       ·simp only [nm_]
        rfl
       refine pure_ (i := 22) (N := some 40) (v := undef) (a' := ?_) (bs_ 36 0x7fffff) rfl rfl (any_of HT_.out (by kernel_rfl)) (fun _ _ _ h => h) (Or.inr ⟨by rfl, rfl⟩) ?_ ?_
       rotate_left
       ·simp only [nm_]
        rfl
       refine pure_ (i := 23) (N := some 41) (v := undef) (a' := ?_) (bs_ 36 0xffffff) rfl rfl (any_of HT_.out (by kernel_rfl)) (fun _ _ _ h => h) (Or.inr ⟨by rfl, rfl⟩) ?_ ?_
       rotate_left
       ·simp only [nm_]
        rfl
       refine pure_ (i := 24) (N := some 42) (v := undef) (a' := ?_) (bs_ 36 0x1ffffff) rfl rfl (any_of HT_.out (by kernel_rfl)) (fun _ _ _ h => h) (Or.inr ⟨by rfl, rfl⟩) ?_ ?_
       rotate_left
       ·simp only [nm_]
        rfl
       refine pure_ (i := 25) (N := some 43) (v := undef) (a' := ?_) (bs_ 36 0x3ffffff) rfl rfl (any_of HT_.out (by kernel_rfl)) (fun _ _ _ h => h) (Or.inr ⟨by rfl, rfl⟩) ?_ ?_
       rotate_left
       ·simp only [nm_]
        rfl
       refine pure_ (i := 26) (N := some 44) (v := undef) (a' := ?_) (bs_ 36 0x7ffffff) rfl rfl (any_of HT_.out (by kernel_rfl)) (fun _ _ _ h => h) (Or.inr ⟨by rfl, rfl⟩) ?_ ?_
       rotate_left
       ·simp only [nm_]
        rfl
       refine pure_ (i := 27) (N := some 45) (v := undef) (a' := ?_) (bs_ 36 0xfffffff) rfl rfl (any_of HT_.out (by kernel_rfl)) (fun _ _ _ h => h) (Or.inr ⟨by rfl, rfl⟩) ?_ ?_
       rotate_left
       ·simp only [nm_]
        rfl
       refine pure_ (i := 28) (N := some 46) (v := undef) (a' := ?_) (bs_ 36 0x1fffffff) rfl rfl (any_of HT_.out (by kernel_rfl)) (fun _ _ _ h => h) (Or.inr ⟨by rfl, rfl⟩) ?_ ?_
       rotate_left
       ·simp only [nm_]
        rfl
       refine pure_ (i := 29) (N := some 47) (v := ?_) (a' := ?_) (bs_ 36 0x3fffffff) rfl rfl (any_of HT_.out (by kernel_rfl)) (fun _ _ _ h => h) (Or.inl ⟨by rfl, ?_⟩) ?_ ?_; rotate_left; (intro w'; go_simp; with_reducible rfl); rotate_left; (simp only [nm_]; rfl)
       refine pure_ (i := 30) (N := some 48) (v := ?_) (a' := ?_) (bs_ 36 0x7fffffff) rfl rfl (any_of HT_.out (by kernel_rfl)) (fun _ _ _ h => h) (Or.inl ⟨by rfl, ?_⟩) ?_ ?_; rotate_left; (intro w'; go_simp; with_reducible rfl); rotate_left; (simp only [nm_]; rfl)
       refine pure_ (i := 31) (N := some 49) (v := undef) (a' := ?_) (bs_ 36 0xffffffff) rfl rfl (any_of HT_.out (by kernel_rfl)) (fun _ _ _ h => h) (Or.inr ⟨by rfl, rfl⟩) ?_ ?_
       rotate_left
       ·simp only [nm_]
        rfl
       refine pure_ (i := 32) (N := some 50) (v := undef) (a' := ?_) (bs_ 36 0x1ffffffff) rfl rfl (any_of HT_.out (by kernel_rfl)) (fun _ _ _ h => h) (Or.inr ⟨by rfl, rfl⟩) ?_ ?_
       rotate_left
       ·simp only [nm_]
        rfl
       refine pure_ (i := 33) (N := some 51) (v := undef) (a' := ?_) (bs_ 36 0x3ffffffff) rfl rfl (any_of HT_.out (by kernel_rfl)) (fun _ _ _ h => h) (Or.inr ⟨by rfl, rfl⟩) ?_ ?_
       rotate_left
       ·simp only [nm_]
        rfl
       refine pure_ (i := 34) (N := some 52) (v := undef) (a' := ?_) (bs_ 36 0x7ffffffff) rfl rfl (any_of HT_.out (by kernel_rfl)) (fun _ _ _ h => h) (Or.inr ⟨by rfl, rfl⟩) ?_ ?_
       rotate_left
       ·simp only [nm_]
        rfl
       refine pure_ (i := 35) (N := some 53) (v := ?_) (a' := ?_) (bs_ 36 0xfffffffff) rfl rfl (any_of HT_.out (by kernel_rfl)) (fun _ _ _ h => h) (Or.inl ⟨by rfl, ?_⟩) ?_ ?_; rotate_left; (intro w'; go_simp; with_reducible rfl); rotate_left; (simp only [nm_]; rfl)
       refine done_ (done_of HT_.out (by kernel_rfl)) ?_
       try go_wp2
       go_meet
       case rel => exact ⟨_, (true), (by first | rfl | (simp; done) | (simp [*]; done)), H', ⟨by have := HK1.out; first | omega | exact Nat.le_refl _⟩, ⟨by (with_reducible repeat (first | refine blk_drewN ?_ _ | refine blk_drew ?_ | refine blk_alloc ?_ _)); exact BK177.out⟩, ⟨by repeat (first | (with_reducible first | exact HB.out | apply below_alloc | apply pw_below_drewN | apply below_drew1 | refine below_set ?_ GE177.out) | exact HB.out)⟩⟩
     case rest =>
      clear HC4
      try clear c1
      try clear p2
      try clear c3
      try clear c4
      try clear c8
      try clear c17
      try clear c35
      try clear c42
      obtain ⟨kq, x53_3, rfl, HA, HJ3, BK177, HB⟩ := hcut
      cases kq with
      | zero => exact absurd HA.out (by simp [tallymanref7_GoodTree.j1])
      | succ kj3 =>
       have H := HA.out
       clear HA
       simp only [tallymanref7_GoodTree.j1] at H
       by_cases c49 : x53_3 = true
       ·subst c49
        have H1 : (some false) = some r := by rw [if_pos rfl] at H; exact H
        clear H
        have H := H1
        clear H1
        obtain rfl := Option.some.inj H
        go_wp2
        go_ret
        exact ⟨by first | rfl | (simp [errW_none, errW_some] <;> rfl) | (simp [*, errW_none, errW_some] <;> rfl), by repeat (first | (with_reducible first | exact HB.out | apply below_alloc | apply pw_below_drewN | apply below_drew1 | refine below_set ?_ GE177.out) | exact HB.out)⟩
       ·replace c49 := Bool.eq_false_iff.mpr c49
        subst c49
        have H1 : ((tallymanref7_Up.f kj3 ((rd_T94 l0 x3_1).f0)).bind fun bt181 => ((tallymanref7_At.f kj3 l0 bt181.1).bind fun t183 => (if bt181.1.toList = ([] : List UInt8) then (tallymanref7_GoodTree.l0 kj3 l0 (wrap64 (x3_1 + 1))) else (if t183 < 0 then (some false) else (if 0 ≤ t183 then (if t183 < (l0.length : Int) then (if ((rd_T94 l0 t183).f1 = true) then (tallymanref7_GoodTree.l0 kj3 l0 (wrap64 (x3_1 + 1))) else (some false)) else (none)) else (none)))))) = some r := by rw [if_neg (show ¬ (false = true) by decide)] at H; exact H
        clear H
        have H := H1
        clear H1
        replace H := Option.bind_eq_some_iff.mp H
        obtain ⟨⟨t181, t182⟩, A500, H⟩ := H
        replace H : ((tallymanref7_At.f kj3 l0 t181).bind fun t183 => (if t181.toList = ([] : List UInt8) then (tallymanref7_GoodTree.l0 kj3 l0 (wrap64 (x3_1 + 1))) else (if t183 < 0 then (some false) else (if 0 ≤ t183 then (if t183 < (l0.length : Int) then (if ((rd_T94 l0 t183).f1 = true) then (tallymanref7_GoodTree.l0 kj3 l0 (wrap64 (x3_1 + 1))) else (some false)) else (none)) else (none))))) = some r := H
        have A50 := Aside0.mk A500
        clear A500
        replace H := Option.bind_eq_some_iff.mp H
        obtain ⟨t183, A510, H⟩ := H
        replace H : (if t181.toList = ([] : List UInt8) then (tallymanref7_GoodTree.l0 kj3 l0 (wrap64 (x3_1 + 1))) else (if t183 < 0 then (some false) else (if 0 ≤ t183 then (if t183 < (l0.length : Int) then (if ((rd_T94 l0 t183).f1 = true) then (tallymanref7_GoodTree.l0 kj3 l0 (wrap64 (x3_1 + 1))) else (some false)) else (none)) else (none)))) = some r := H
        have A51 := Aside0.mk A510
        clear A510
        by_cases c52 : t181.toList = ([] : List UInt8)
        ·rw [if_pos c52] at H
         have c52b0 : (t181.toList == ([] : List UInt8)) = true := beq_iff_eq.mpr c52
         have c52b1 : (t181.toList != ([] : List UInt8)) = false := bne_eq_false_iff_eq.mpr c52
         have c52b2 : t181.toList.isEmpty = true := by simpa using c52
         clear c52
         have H' := Aside0.mk H
         clear H
         have hcz53_0 : wc.cell? ⟨gb177, 0, none⟩ = some (.string ((rd_T94 l0 x3_1).f0)) := (blk_cell BK177.out 0).trans rfl
         have hcz53_1 : wc.cell? ⟨gb177, 1, none⟩ = some (.bool ((rd_T94 l0 x3_1).f1)) := (blk_cell BK177.out 1).trans rfl
         have hcz53_2 : wc.cell? ⟨gb177, 2, none⟩ = some (.slice A176_2 ((rd_T94 l0 x3_1).f2).length c176_2) := (blk_cell BK177.out 2).trans rfl
         have hfz53_0 := blk_frozen BK177.out 0
         have hfz53_1 := blk_frozen BK177.out 1
         have hfz53_2 := blk_frozen BK177.out 2
         go_wp2_with (first | ((with_reducible refine gate_callee (f := 38) rfl ?_); refine goesL_ (some 57) rfl rfl Tryd.func38 (by kernel_rfl) rfl #[.string ((rd_T94 l0 x3_1).f0)] rfl (by (try simp only [List.map_toArray, List.map_cons, List.map_nil]); first | done | rfl | (simp only [List.length_drop, List.length_take]; rfl)) ?_; (with_reducible refine (tallymanref7_Up.calls kj3 ((rd_T94 l0 x3_1).f0) t181 t182 _ A50.out).mono ?_); rintro e w54 ⟨rfl, hb⟩; refine ⟨_, rfl, ?_⟩; replace BK177 := xa_ (blk_below (xb_ BK177.out) hb); replace HB := xa_ (below_step (by repeat (first | (with_reducible first | exact HB.out | apply below_alloc | apply pw_below_drewN | apply below_drew1 | refine below_set ?_ GE177.out) | exact HB.out)) hb); (try clear hb); (try clear hb2); (try clear hk); (try clear hi)) | ((with_reducible refine gate_callee (f := 72) rfl ?_); refine goesL_ (some 62) rfl rfl Tryd.func72 (by kernel_rfl) rfl #[.slice (some ad176) l0.length c0, .string t181] rfl (by (try simp only [List.map_toArray, List.map_cons, List.map_nil]); first | done | rfl | (simp only [List.length_drop, List.length_take]; rfl)) ?_; (with_reducible refine (tallymanref7_At.calls kj3 _ _ l0 t181 t183 _ ?side1 ?side2 A51.out).mono ?_); (case side1 => exact xC_ (Kd.C_below HR0.out HB.out)); (case side2 => exact HC0.out); rintro e w' ⟨rfl, ⟨nd, rfl⟩⟩; refine ⟨_, rfl, ?_⟩))
         go_roundg kj3
         case measure => have := HK1.out; have := HJ3.out; omega
         case rel => exact ⟨(wrap64 (x3_1 + 1)), (by first | rfl | (simp; done) | (simp [*]; done)), H', ⟨by have := HK1.out; have := HJ3.out; omega⟩, ⟨by repeat (first | (with_reducible first | exact HB.out | apply below_alloc | apply pw_below_drewN | apply below_drew1 | refine below_set ?_ GE177.out) | exact HB.out)⟩⟩
        ·rw [if_neg c52] at H
         have c52b0 : (t181.toList == ([] : List UInt8)) = false := beq_eq_false_iff_ne.mpr c52
         have c52b1 : (t181.toList != ([] : List UInt8)) = true := bne_iff_ne.mpr c52
         have c52b2 : t181.toList.isEmpty = false := by simpa using c52
         by_cases c55 : t183 < 0
         ·rw [if_pos c55] at H
          have c55b0 : decide (t183 < 0) = true := decide_eq_true c55
          clear c55
          obtain rfl := Option.some.inj H
          have hcz56_0 : wc.cell? ⟨gb177, 0, none⟩ = some (.string ((rd_T94 l0 x3_1).f0)) := (blk_cell BK177.out 0).trans rfl
          have hcz56_1 : wc.cell? ⟨gb177, 1, none⟩ = some (.bool ((rd_T94 l0 x3_1).f1)) := (blk_cell BK177.out 1).trans rfl
          have hcz56_2 : wc.cell? ⟨gb177, 2, none⟩ = some (.slice A176_2 ((rd_T94 l0 x3_1).f2).length c176_2) := (blk_cell BK177.out 2).trans rfl
          have hfz56_0 := blk_frozen BK177.out 0
          have hfz56_1 := blk_frozen BK177.out 1
          have hfz56_2 := blk_frozen BK177.out 2
          go_wp2_with (first | ((with_reducible refine gate_callee (f := 38) rfl ?_); refine goesL_ (some 57) rfl rfl Tryd.func38 (by kernel_rfl) rfl #[.string ((rd_T94 l0 x3_1).f0)] rfl (by (try simp only [List.map_toArray, List.map_cons, List.map_nil]); first | done | rfl | (simp only [List.length_drop, List.length_take]; rfl)) ?_; (with_reducible refine (tallymanref7_Up.calls kj3 ((rd_T94 l0 x3_1).f0) t181 t182 _ A50.out).mono ?_); rintro e w57 ⟨rfl, hb⟩; refine ⟨_, rfl, ?_⟩; replace BK177 := xa_ (blk_below (xb_ BK177.out) hb); replace HB := xa_ (below_step (by repeat (first | (with_reducible first | exact HB.out | apply below_alloc | apply pw_below_drewN | apply below_drew1 | refine below_set ?_ GE177.out) | exact HB.out)) hb); (try clear hb); (try clear hb2); (try clear hk); (try clear hi)) | ((with_reducible refine gate_callee (f := 72) rfl ?_); refine goesL_ (some 62) rfl rfl Tryd.func72 (by kernel_rfl) rfl #[.slice (some ad176) l0.length c0, .string t181] rfl (by (try simp only [List.map_toArray, List.map_cons, List.map_nil]); first | done | rfl | (simp only [List.length_drop, List.length_take]; rfl)) ?_; (with_reducible refine (tallymanref7_At.calls kj3 _ _ l0 t181 t183 _ ?side1 ?side2 A51.out).mono ?_); (case side1 => exact xC_ (Kd.C_below HR0.out HB.out)); (case side2 => exact HC0.out); rintro e w' ⟨rfl, ⟨nd, rfl⟩⟩; refine ⟨_, rfl, ?_⟩))
          go_ret
          exact ⟨by first | rfl | (simp [errW_none, errW_some] <;> rfl) | (simp [*, errW_none, errW_some] <;> rfl), by repeat (first | (with_reducible first | exact HB.out | apply below_alloc | apply pw_below_drewN | apply below_drew1 | refine below_set ?_ GE177.out) | exact HB.out)⟩
         ·rw [if_neg c55] at H
          have c55b0 : decide (t183 < 0) = false := decide_eq_false c55
          clear c55
          by_cases c58 : 0 ≤ t183
          ·rw [if_pos c58] at H
           have c58b0 : decide (0 ≤ t183) = true := decide_eq_true c58
           clear c58
           by_cases c59 : t183 < (l0.length : Int)
           ·rw [if_pos c59] at H
            have c59b0 : decide (t183 < (l0.length : Int)) = true := decide_eq_true c59
            clear c59
            obtain ⟨bq60, hbq60⟩ : ∃ b_ : Bool, b_ = ((rd_T94 l0 t183).f1) := ⟨_, rfl⟩
            replace H : (if (bq60 = true) then (tallymanref7_GoodTree.l0 kj3 l0 (wrap64 (x3_1 + 1))) else (some false)) = some r := by rw [← hbq60] at H; exact H
            (try rw [← hbq60])
            have Nbq60 := Aside0.mk hbq60
            clear hbq60
            by_cases c61 : (bq60 = true)
            ·subst c61
             have H1 : (tallymanref7_GoodTree.l0 kj3 l0 (wrap64 (x3_1 + 1))) = some r := by rw [if_pos rfl] at H; exact H
             clear H
             have H := H1
             clear H1
             have H' := Aside0.mk H
             clear H
             have hcz62_0 : wc.cell? ⟨gb177, 0, none⟩ = some (.string ((rd_T94 l0 x3_1).f0)) := (blk_cell BK177.out 0).trans rfl
             have hcz62_1 : wc.cell? ⟨gb177, 1, none⟩ = some (.bool ((rd_T94 l0 x3_1).f1)) := (blk_cell BK177.out 1).trans rfl
             have hcz62_2 : wc.cell? ⟨gb177, 2, none⟩ = some (.slice A176_2 ((rd_T94 l0 x3_1).f2).length c176_2) := (blk_cell BK177.out 2).trans rfl
             have hfz62_0 := blk_frozen BK177.out 0
             have hfz62_1 := blk_frozen BK177.out 1
             have hfz62_2 := blk_frozen BK177.out 2
             go_wp2_with (first | ((with_reducible refine gate_callee (f := 38) rfl ?_); refine goesL_ (some 57) rfl rfl Tryd.func38 (by kernel_rfl) rfl #[.string ((rd_T94 l0 x3_1).f0)] rfl (by (try simp only [List.map_toArray, List.map_cons, List.map_nil]); first | done | rfl | (simp only [List.length_drop, List.length_take]; rfl)) ?_; (with_reducible refine (tallymanref7_Up.calls kj3 ((rd_T94 l0 x3_1).f0) t181 t182 _ A50.out).mono ?_); rintro e w63 ⟨rfl, hb⟩; refine ⟨_, rfl, ?_⟩; replace BK177 := xa_ (blk_below (xb_ BK177.out) hb); replace HB := xa_ (below_step (by repeat (first | (with_reducible first | exact HB.out | apply below_alloc | apply pw_below_drewN | apply below_drew1 | refine below_set ?_ GE177.out) | exact HB.out)) hb); (try clear hb); (try clear hb2); (try clear hk); (try clear hi)) | ((with_reducible refine gate_callee (f := 72) rfl ?_); refine goesL_ (some 62) rfl rfl Tryd.func72 (by kernel_rfl) rfl #[.slice (some ad176) l0.length c0, .string t181] rfl (by (try simp only [List.map_toArray, List.map_cons, List.map_nil]); first | done | rfl | (simp only [List.length_drop, List.length_take]; rfl)) ?_; (with_reducible refine (tallymanref7_At.calls kj3 _ _ l0 t181 t183 _ ?side1 ?side2 A51.out).mono ?_); (case side1 => exact xC_ (Kd.C_below HR0.out HB.out)); (case side2 => exact HC0.out); rintro e w' ⟨rfl, ⟨nd, rfl⟩⟩; refine ⟨_, rfl, ?_⟩; have p184 : 0 ≤ (t183 : Int) := of_decide_eq_true (by first | (with_reducible assumption) | assumption); have q184 : t183 < (l0.length : Int) := of_decide_eq_true (by first | (with_reducible assumption) | assumption); obtain ⟨ad184, A184_2, c184_2, e184, hx184_0, hx184_1, hx184_2, hl184_2, hi184_2⟩ := at_T94 HR0.out t183 p184 q184; (try rw [← Nbq60.out] at hx184_1); obtain rfl : ad176 = ad184 := (by injection e184); replace hx184_0 := (HB.out.cell (World.block_lt_of_cell? w _ hx184_0)).trans hx184_0; replace hx184_1 := (HB.out.cell (World.block_lt_of_cell? w _ hx184_1)).trans hx184_1; replace hx184_2 := (HB.out.cell (World.block_lt_of_cell? w _ hx184_2)).trans hx184_2; have HR184_2 := Aside0.mk hi184_2; have HC184_2 := Aside0.mk hl184_2; clear hi184_2 hl184_2; replace p184 := eq_true p184; replace q184 := eq_true q184))
             go_roundg kj3
             case measure => have := HK1.out; have := HJ3.out; omega
             case rel => (try rw [← Nbq60.out]); exact ⟨(wrap64 (x3_1 + 1)), (by first | rfl | (simp; done) | (simp [*]; done)), H', ⟨by have := HK1.out; have := HJ3.out; omega⟩, ⟨by repeat (first | (with_reducible first | exact HB.out | apply below_alloc | apply pw_below_drewN | apply below_drew1 | refine below_set ?_ GE177.out) | exact HB.out)⟩⟩
            ·replace c61 := Bool.eq_false_iff.mpr c61
             subst c61
             have H1 : (some false) = some r := by rw [if_neg (show ¬ (false = true) by decide)] at H; exact H
             clear H
             have H := H1
             clear H1
             obtain rfl := Option.some.inj H
             have hcz64_0 : wc.cell? ⟨gb177, 0, none⟩ = some (.string ((rd_T94 l0 x3_1).f0)) := (blk_cell BK177.out 0).trans rfl
             have hcz64_1 : wc.cell? ⟨gb177, 1, none⟩ = some (.bool ((rd_T94 l0 x3_1).f1)) := (blk_cell BK177.out 1).trans rfl
             have hcz64_2 : wc.cell? ⟨gb177, 2, none⟩ = some (.slice A176_2 ((rd_T94 l0 x3_1).f2).length c176_2) := (blk_cell BK177.out 2).trans rfl
             have hfz64_0 := blk_frozen BK177.out 0
             have hfz64_1 := blk_frozen BK177.out 1
             have hfz64_2 := blk_frozen BK177.out 2
             go_wp2_with (first | ((with_reducible refine gate_callee (f := 38) rfl ?_); refine goesL_ (some 57) rfl rfl Tryd.func38 (by kernel_rfl) rfl #[.string ((rd_T94 l0 x3_1).f0)] rfl (by (try simp only [List.map_toArray, List.map_cons, List.map_nil]); first | done | rfl | (simp only [List.length_drop, List.length_take]; rfl)) ?_; (with_reducible refine (tallymanref7_Up.calls kj3 ((rd_T94 l0 x3_1).f0) t181 t182 _ A50.out).mono ?_); rintro e w65 ⟨rfl, hb⟩; refine ⟨_, rfl, ?_⟩; replace BK177 := xa_ (blk_below (xb_ BK177.out) hb); replace HB := xa_ (below_step (by repeat (first | (with_reducible first | exact HB.out | apply below_alloc | apply pw_below_drewN | apply below_drew1 | refine below_set ?_ GE177.out) | exact HB.out)) hb); (try clear hb); (try clear hb2); (try clear hk); (try clear hi)) | ((with_reducible refine gate_callee (f := 72) rfl ?_); refine goesL_ (some 62) rfl rfl Tryd.func72 (by kernel_rfl) rfl #[.slice (some ad176) l0.length c0, .string t181] rfl (by (try simp only [List.map_toArray, List.map_cons, List.map_nil]); first | done | rfl | (simp only [List.length_drop, List.length_take]; rfl)) ?_; (with_reducible refine (tallymanref7_At.calls kj3 _ _ l0 t181 t183 _ ?side1 ?side2 A51.out).mono ?_); (case side1 => exact xC_ (Kd.C_below HR0.out HB.out)); (case side2 => exact HC0.out); rintro e w' ⟨rfl, ⟨nd, rfl⟩⟩; refine ⟨_, rfl, ?_⟩; have p184 : 0 ≤ (t183 : Int) := of_decide_eq_true (by first | (with_reducible assumption) | assumption); have q184 : t183 < (l0.length : Int) := of_decide_eq_true (by first | (with_reducible assumption) | assumption); obtain ⟨ad184, A184_2, c184_2, e184, hx184_0, hx184_1, hx184_2, hl184_2, hi184_2⟩ := at_T94 HR0.out t183 p184 q184; (try rw [← Nbq60.out] at hx184_1); obtain rfl : ad176 = ad184 := (by injection e184); replace hx184_0 := (HB.out.cell (World.block_lt_of_cell? w _ hx184_0)).trans hx184_0; replace hx184_1 := (HB.out.cell (World.block_lt_of_cell? w _ hx184_1)).trans hx184_1; replace hx184_2 := (HB.out.cell (World.block_lt_of_cell? w _ hx184_2)).trans hx184_2; have HR184_2 := Aside0.mk hi184_2; have HC184_2 := Aside0.mk hl184_2; clear hi184_2 hl184_2; replace p184 := eq_true p184; replace q184 := eq_true q184))
             go_ret
             exact ⟨by first | rfl | (simp [errW_none, errW_some] <;> rfl) | (simp [*, errW_none, errW_some] <;> rfl), by repeat (first | (with_reducible first | exact HB.out | apply below_alloc | apply pw_below_drewN | apply below_drew1 | refine below_set ?_ GE177.out) | exact HB.out)⟩
           ·rw [if_neg c59] at H
            exact absurd H (by simp)
          ·rw [if_neg c58] at H
           exact absurd H (by simp)
    ·rw [if_neg c3] at H
     exact absurd H (by simp)
   ·rw [if_neg c2] at H
    have c2b0 : decide (x3_1 < (l0.length : Int)) = false := decide_eq_false c2
    clear c2
    by_cases c66 : (l0.length : Int) ≤ 40
    ·rw [if_pos c66] at H
     have c66b0 : decide ((l0.length : Int) ≤ 40) = true := decide_eq_true c66
     have c66b1 : decide (l0.length ≤ 40) = true := decide_eq_true (by omega)
     clear c66
     replace H := Option.bind_eq_some_iff.mp H
     obtain ⟨t175, A670, H⟩ := H
     replace H : (some (decide (t175 ≤ 16384))) = some r := H
     have A67 := Aside0.mk A670
     clear A670
     obtain rfl := Option.some.inj H
     go_wp2_with (first | (go_at_call 25; (with_reducible refine (tallymanref7_Bytes.calls k1 _ _ l0 t175 _ ?side1 ?side2 A67.out).mono ?_); (case side1 => exact xC_ (Kd.C_below HR0.out HB.out)); (case side2 => exact HC0.out); rintro e w' ⟨rfl, ⟨nd, rfl⟩⟩))
     go_ret
     exact ⟨by first | rfl | (simp [errW_none, errW_some] <;> rfl) | (simp [*, errW_none, errW_some] <;> rfl), by repeat (first | (with_reducible first | exact HB.out | apply below_alloc | apply pw_below_drewN | apply below_drew1) | exact HB.out)⟩
    ·rw [if_neg c66] at H
     have c66b0 : decide ((l0.length : Int) ≤ 40) = false := decide_eq_false c66
     have c66b1 : decide (l0.length ≤ 40) = false := decide_eq_false (by omega)
     clear c66
     obtain rfl := Option.some.inj H
     go_wp2
     go_ret
     exact ⟨by first | rfl | (simp [errW_none, errW_some] <;> rfl) | (simp [*, errW_none, errW_some] <;> rfl), by repeat (first | (with_reducible first | exact HB.out | apply below_alloc | apply pw_below_drewN | apply below_drew1) | exact HB.out)⟩

end Go.Proofs.YtidlldfghkaeeaaDoor.P
