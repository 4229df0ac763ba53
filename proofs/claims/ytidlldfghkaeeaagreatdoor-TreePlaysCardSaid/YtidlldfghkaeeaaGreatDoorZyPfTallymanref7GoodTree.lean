/- Put together by pack2.py: PfTallymanref7GoodTree -/
import Derived.Test.YtidlldfghkaeeaaGreatDoorZyRefNamesEtc
import Derived.Test.YtidlldfghkaeeaaGreatDoorZyPfTallymanlaw8OwnEtc
import Derived.Test.YtidlldfghkaeeaaGreatDoorZyPfTallymanref7Up
import Derived.Test.YtidlldfghkaeeaaGreatDoorZyW0
set_option linter.unusedVariables false
set_option linter.unusedSimpArgs false
set_option maxHeartbeats 8000000
set_option maxRecDepth 100000
namespace Go.Proofs.YtidlldfghkaeeaaGreatDoor.P
open Go.RowKit Go.Proofs.YtidlldfghkaeeaaGreatDoorW.PrintWords Go.Proofs.YtidlldfghkaeeaaGreatDoorW.PrintLast Go.Proofs.YtidlldfghkaeeaaGreatDoorW.PrintMore
attribute [local go_sem] max2_int min2_int max_two min_two max_three min_three max_four min_four
mutual
def tallymanref7_GoodTree.l0 : Nat → List (S45) → Int → Option (Bool)
 | 0, _, _ => none
 | k + 1, x0, x3 => if x3 < (x0.length : Int) then (if 0 ≤ x3 then ((tallymanref7_Good.f ((rd_T45 x0 x3).f0)).bind fun t168 => (if t168 = true then (if x3 > 0 then (if 0 ≤ (wrap64 (x3 - 1)) then (if (wrap64 (x3 - 1)) < (x0.length : Int) then ((tallymanref7_Cmp.f ((rd_T45 x0 (wrap64 (x3 - 1))).f0) ((rd_T45 x0 x3).f0)).bind fun t170 => (if t170 ≥ 0 then (tallymanref7_GoodTree.j1 k x0 x3 true ((rd_T45 x0 x3).f0) ((rd_T45 x0 x3).f1) ((rd_T45 x0 x3).f2)) else (if (rd_T45 x0 x3).f1 = true then (if (((rd_T45 x0 x3).f2).length : Int) > 0 then (tallymanref7_GoodTree.j1 k x0 x3 true ((rd_T45 x0 x3).f0) ((rd_T45 x0 x3).f1) ((rd_T45 x0 x3).f2)) else (tallymanref7_GoodTree.j1 k x0 x3 (decide ((((rd_T45 x0 x3).f2).length : Int) > 2048)) ((rd_T45 x0 x3).f0) ((rd_T45 x0 x3).f1) ((rd_T45 x0 x3).f2))) else (tallymanref7_GoodTree.j1 k x0 x3 (decide ((((rd_T45 x0 x3).f2).length : Int) > 2048)) ((rd_T45 x0 x3).f0) ((rd_T45 x0 x3).f1) ((rd_T45 x0 x3).f2))))) else (none)) else (none)) else (if (rd_T45 x0 x3).f1 = true then (if (((rd_T45 x0 x3).f2).length : Int) > 0 then (tallymanref7_GoodTree.j1 k x0 x3 true ((rd_T45 x0 x3).f0) ((rd_T45 x0 x3).f1) ((rd_T45 x0 x3).f2)) else (tallymanref7_GoodTree.j1 k x0 x3 (decide ((((rd_T45 x0 x3).f2).length : Int) > 2048)) ((rd_T45 x0 x3).f0) ((rd_T45 x0 x3).f1) ((rd_T45 x0 x3).f2))) else (tallymanref7_GoodTree.j1 k x0 x3 (decide ((((rd_T45 x0 x3).f2).length : Int) > 2048)) ((rd_T45 x0 x3).f0) ((rd_T45 x0 x3).f1) ((rd_T45 x0 x3).f2)))) else (tallymanref7_GoodTree.j1 k x0 x3 true ((rd_T45 x0 x3).f0) ((rd_T45 x0 x3).f1) ((rd_T45 x0 x3).f2)))) else (none)) else (if (x0.length : Int) ≤ 40 then ((tallymanref7_Bytes.f k x0).bind fun t165 => (some (decide (t165 ≤ 16384)))) else (some false))
def tallymanref7_GoodTree.j1 : Nat → List (S45) → Int → Bool → ByteArray → Bool → List Int → Option (Bool)
 | 0, _, _, _, _, _, _ => none
 | k + 1, x0, x3, x53, x168000, x168001, x168002 => if x53 = true then (some false) else ((tallymanref7_Up.f k x168000).bind fun bt171 => ((tallymanref7_At.f k x0 bt171.1).bind fun t173 => (if bt171.1.toList = ([] : List UInt8) then (tallymanref7_GoodTree.l0 k x0 (wrap64 (x3 + 1))) else (if t173 < 0 then (some false) else (if 0 ≤ t173 then (if t173 < (x0.length : Int) then (if ((rd_T45 x0 t173).f1 = true) then (tallymanref7_GoodTree.l0 k x0 (wrap64 (x3 + 1))) else (some false)) else (none)) else (none))))))
end
def tallymanref7_GoodTree.f (k : Nat) (l0 : List (S45)) : Option (Bool) := tallymanref7_GoodTree.l0 k l0 0
def tallymanref7_GoodTree.T5 : Bool × List (List Nat × List Nat) := (true, [([], []), ([0], [0]), ([1], [1]), ([2], [2]), ([3, 2], [3]), ([4], [4]), ([5, 4], [4, 5]), ([6, 4, 4], [4, 6]), ([7], [7]), ([7], [7]), ([9, 7], [7, 9]), ([8, 10, 7], [7, 8, 10]), ([11, 7], [7, 11]), ([12, 7], [7, 12]), ([7], [7]), ([14, 7], [7, 14]), ([13, 15, 7, 7], [7, 13, 15]), ([16, 7], [7, 16]), ([7, 17, 4], [4, 7, 17]), ([4, 18], [4, 18]), ([19, 16], [19]), ([20], [20]), ([21, 20], [20, 21]), ([22, 20, 20], [20, 22]), ([23], [23]), ([24, 23], [23, 24]), ([25, 23], [23, 25]), ([26, 23], [23, 26]), ([23, 27, 20], [20, 23, 27]), ([20, 28], [20, 28]), ([29, 23], [29]), ([30], [30]), ([31, 30], [30, 31]), ([32, 30], [30, 32]), ([33, 30], [30, 33]), ([30, 34], [30, 34])])
def tallymanref7_GoodTree.B5 : List Nat := [0, 1, 3, 7, 15, 31, 63, 127, 255, 255, 767, 2047, 4095, 8191, 255, 16639, 65535, 131071, 262143, 524287, 1048575, 2097151, 4194303, 8388607, 16777215, 33554431, 67108863, 134217727, 268435455, 536870911, 1073741823, 2147483647, 4294967295, 8589934591, 17179869183, 34359738367]
theorem tallymanref7_GoodTree.tab5 : rtab .any (opsOf Tryz.f48 5) = tallymanref7_GoodTree.T5 := by kernel_rfl
theorem tallymanref7_GoodTree.bits5 : waitsOk tallymanref7_GoodTree.T5.2 tallymanref7_GoodTree.B5 = true := by kernel_rfl
theorem tallymanref7_GoodTree.calls (k : Nat) (A0 : Option Addr) (c0 : Nat) (l0 : List (S45)) (r : Bool) (w : World) (hr0 : Kd.C k45 w A0 l0.length l0) (hc0 : l0.length ≤ c0) (h : tallymanref7_GoodTree.f k l0 = some r) :
  Calls Tryz.prog 48 #[.slice A0 l0.length c0] w fun e w' => e = .returned (.bool r) ∧ Below w.heap.size w w' := by
 have hu45 := Tryz.underlying45
 have HR0 := Aside0.mk hr0
 have HC0 := Aside0.mk hc0
 clear hr0 hc0
 have HB := xa_ (Below.refl w.heap.size w)
 have H : (tallymanref7_GoodTree.l0 k l0 0) = some r := h
 clear h
 have H' := Aside0.mk H
 clear H
 go_enter Tryz.func48, Tryz.ntmps48
 go_wp2
 go_loopg [3] k (fun kq v3 w' => ∃ (x3_1 : Int), v3 = .int .i64 x3_1 ∧ Aside0 (tallymanref7_GoodTree.l0 kq l0 x3_1 = some r) ∧ Aside0 (kq ≤ k) ∧ Aside0 (Below w.heap.size w w'))
 case atStart => exact ⟨(0), (by first | rfl | (simp; done) | (simp [*]; done)), H', ⟨Nat.le_refl _⟩, ⟨by repeat (first | (with_reducible first | exact HB.out | apply below_alloc | apply pw_below_drewN | apply below_drew1) | exact HB.out)⟩⟩
 case round =>
  clear H'
  obtain ⟨x3_1, rfl, HA, HK1, HB⟩ := hrel
  cases gk with
  | zero => exact absurd HA.out (by simp [tallymanref7_GoodTree.l0])
  | succ k1 =>
   have H := HA.out
   clear HA
   simp only [tallymanref7_GoodTree.l0] at H
   by_cases c2 : x3_1 < (l0.length : Int)
   ·rw [if_pos c2] at H
    have c2b0 : decide (x3_1 < (l0.length : Int)) = true := decide_eq_true c2
    clear c2
    by_cases c3 : 0 ≤ x3_1
    ·rw [if_pos c3] at H
     have c3b0 : decide (0 ≤ x3_1) = true := decide_eq_true c3
     clear c3
     have HC4 := Aside0.mk H
     clear H
     have p166 : 0 ≤ (x3_1 : Int) := of_decide_eq_true (by first | (with_reducible assumption) | assumption)
     have q166 : x3_1 < (l0.length : Int) := of_decide_eq_true (by first | (with_reducible assumption) | assumption)
     obtain ⟨ad166, A166_2, c166_2, e166, hx166_0, hx166_1, hx166_2, hl166_2, hi166_2⟩ := at_T45 HR0.out x3_1 p166 q166
     cases e166
     replace hx166_0 := (HB.out.cell (World.block_lt_of_cell? w _ hx166_0)).trans hx166_0
     replace hx166_1 := (HB.out.cell (World.block_lt_of_cell? w _ hx166_1)).trans hx166_1
     replace hx166_2 := (HB.out.cell (World.block_lt_of_cell? w _ hx166_2)).trans hx166_2
     have HR166_2 := Aside0.mk hi166_2
     have HC166_2 := Aside0.mk hl166_2
     clear hi166_2 hl166_2
     replace p166 := eq_true p166
     replace q166 := eq_true q166
     go_upto_region 5 with (first | ((with_reducible refine gate_dst (N := 4) rfl ?_); (try (refine gate_guard (by rfl) ?_; dsimp only)); refine box_event ?hg (N := 4) ?hd (cs := #[.string (⟨#[]⟩ : ByteArray), .bool false, .slice none 0 0]) (t := 45) ?hr ?_; (case hd => rfl); (case hg => rfl); (case hr => first | (go_simp; done) | (go_simp; rfl)); intro gb167 hg w5 hbox hb; have BK167 := xa_ (hbox); have GW167 := xa_ ((by rw [hg]; exact (below_size (xw_ HB.out)) : w.heap.size ≤ gb167)); have GE167 := xa_ ((by rw [hg]; exact (below_size (xw_ HB.out)) : w.heap.size ≤ gb167)); replace HB := xa_ (below_step (xw_ HB.out) hb); clear hb hbox hg; have hcz6_0 : w5.cell? ⟨gb167, 0, none⟩ = some (.string (⟨#[]⟩ : ByteArray)) := (blk_cell BK167.out 0).trans rfl; have hcz6_1 : w5.cell? ⟨gb167, 1, none⟩ = some (.bool false) := (blk_cell BK167.out 1).trans rfl; have hcz6_2 : w5.cell? ⟨gb167, 2, none⟩ = some (.slice none 0 0) := (blk_cell BK167.out 2).trans rfl; have hfz6_0 := blk_frozen BK167.out 0; have hfz6_1 := blk_frozen BK167.out 1; have hfz6_2 := blk_frozen BK167.out 2))
     (try simp only [Act.put, List.setIfInBounds_toArray, List.set_cons_zero, List.set_cons_succ])
     go_cut [53] (fun v53 wc => ∃ (kq : Nat) (x53_3 : Bool), v53 = .bool x53_3 ∧ Aside0 (tallymanref7_GoodTree.j1 kq l0 x3_1 x53_3 ((rd_T45 l0 x3_1).f0) ((rd_T45 l0 x3_1).f1) ((rd_T45 l0 x3_1).f2) = some r) ∧ Aside0 (kq ≤ k1) ∧ Aside0 (wc.heap[gb167]? = some (.cells #[.string ((rd_T45 l0 x3_1).f0), .bool ((rd_T45 l0 x3_1).f1), (.slice A166_2 ((rd_T45 l0 x3_1).f2).length c166_2)] 45 (0, 0))) ∧ Aside0 (Below w.heap.size w wc))
     case first =>
      have H := HC4.out
      clear HC4
      replace H := Option.bind_eq_some_iff.mp H
      obtain ⟨t168, A70, H⟩ := H
      replace H : (if t168 = true then (if x3_1 > 0 then (if 0 ≤ (wrap64 (x3_1 - 1)) then (if (wrap64 (x3_1 - 1)) < (l0.length : Int) then ((tallymanref7_Cmp.f ((rd_T45 l0 (wrap64 (x3_1 - 1))).f0) ((rd_T45 l0 x3_1).f0)).bind fun t170 => (if t170 ≥ 0 then (tallymanref7_GoodTree.j1 k1 l0 x3_1 true ((rd_T45 l0 x3_1).f0) ((rd_T45 l0 x3_1).f1) ((rd_T45 l0 x3_1).f2)) else (if (rd_T45 l0 x3_1).f1 = true then (if (((rd_T45 l0 x3_1).f2).length : Int) > 0 then (tallymanref7_GoodTree.j1 k1 l0 x3_1 true ((rd_T45 l0 x3_1).f0) ((rd_T45 l0 x3_1).f1) ((rd_T45 l0 x3_1).f2)) else (tallymanref7_GoodTree.j1 k1 l0 x3_1 (decide ((((rd_T45 l0 x3_1).f2).length : Int) > 2048)) ((rd_T45 l0 x3_1).f0) ((rd_T45 l0 x3_1).f1) ((rd_T45 l0 x3_1).f2))) else (tallymanref7_GoodTree.j1 k1 l0 x3_1 (decide ((((rd_T45 l0 x3_1).f2).length : Int) > 2048)) ((rd_T45 l0 x3_1).f0) ((rd_T45 l0 x3_1).f1) ((rd_T45 l0 x3_1).f2))))) else (none)) else (none)) else (if (rd_T45 l0 x3_1).f1 = true then (if (((rd_T45 l0 x3_1).f2).length : Int) > 0 then (tallymanref7_GoodTree.j1 k1 l0 x3_1 true ((rd_T45 l0 x3_1).f0) ((rd_T45 l0 x3_1).f1) ((rd_T45 l0 x3_1).f2)) else (tallymanref7_GoodTree.j1 k1 l0 x3_1 (decide ((((rd_T45 l0 x3_1).f2).length : Int) > 2048)) ((rd_T45 l0 x3_1).f0) ((rd_T45 l0 x3_1).f1) ((rd_T45 l0 x3_1).f2))) else (tallymanref7_GoodTree.j1 k1 l0 x3_1 (decide ((((rd_T45 l0 x3_1).f2).length : Int) > 2048)) ((rd_T45 l0 x3_1).f0) ((rd_T45 l0 x3_1).f1) ((rd_T45 l0 x3_1).f2)))) else (tallymanref7_GoodTree.j1 k1 l0 x3_1 true ((rd_T45 l0 x3_1).f0) ((rd_T45 l0 x3_1).f1) ((rd_T45 l0 x3_1).f2))) = some r := H
      have A7 := Aside0.mk A70
      clear A70
      by_cases c8 : t168 = true
      ·subst c8
       have H1 : (if x3_1 > 0 then (if 0 ≤ (wrap64 (x3_1 - 1)) then (if (wrap64 (x3_1 - 1)) < (l0.length : Int) then ((tallymanref7_Cmp.f ((rd_T45 l0 (wrap64 (x3_1 - 1))).f0) ((rd_T45 l0 x3_1).f0)).bind fun t170 => (if t170 ≥ 0 then (tallymanref7_GoodTree.j1 k1 l0 x3_1 true ((rd_T45 l0 x3_1).f0) ((rd_T45 l0 x3_1).f1) ((rd_T45 l0 x3_1).f2)) else (if (rd_T45 l0 x3_1).f1 = true then (if (((rd_T45 l0 x3_1).f2).length : Int) > 0 then (tallymanref7_GoodTree.j1 k1 l0 x3_1 true ((rd_T45 l0 x3_1).f0) ((rd_T45 l0 x3_1).f1) ((rd_T45 l0 x3_1).f2)) else (tallymanref7_GoodTree.j1 k1 l0 x3_1 (decide ((((rd_T45 l0 x3_1).f2).length : Int) > 2048)) ((rd_T45 l0 x3_1).f0) ((rd_T45 l0 x3_1).f1) ((rd_T45 l0 x3_1).f2))) else (tallymanref7_GoodTree.j1 k1 l0 x3_1 (decide ((((rd_T45 l0 x3_1).f2).length : Int) > 2048)) ((rd_T45 l0 x3_1).f0) ((rd_T45 l0 x3_1).f1) ((rd_T45 l0 x3_1).f2))))) else (none)) else (none)) else (if (rd_T45 l0 x3_1).f1 = true then (if (((rd_T45 l0 x3_1).f2).length : Int) > 0 then (tallymanref7_GoodTree.j1 k1 l0 x3_1 true ((rd_T45 l0 x3_1).f0) ((rd_T45 l0 x3_1).f1) ((rd_T45 l0 x3_1).f2)) else (tallymanref7_GoodTree.j1 k1 l0 x3_1 (decide ((((rd_T45 l0 x3_1).f2).length : Int) > 2048)) ((rd_T45 l0 x3_1).f0) ((rd_T45 l0 x3_1).f1) ((rd_T45 l0 x3_1).f2))) else (tallymanref7_GoodTree.j1 k1 l0 x3_1 (decide ((((rd_T45 l0 x3_1).f2).length : Int) > 2048)) ((rd_T45 l0 x3_1).f0) ((rd_T45 l0 x3_1).f1) ((rd_T45 l0 x3_1).f2)))) = some r := by rw [if_pos rfl] at H; exact H
       clear H
       have H := H1
       clear H1
       by_cases c9 : x3_1 > 0
       ·rw [if_pos c9] at H
        have c9b0 : decide (0 < x3_1) = true := decide_eq_true c9
        clear c9
        (first | rw [c9b0] | (simp only [i64_w, i32_w]; rw [c9b0]) | skip)
        obtain ⟨ji10, hji10⟩ : ∃ j_ : Int, (wrap64 (x3_1 - 1)) = j_ := ⟨_, rfl⟩
        replace H : (if 0 ≤ (ji10) then (if (ji10) < (l0.length : Int) then ((tallymanref7_Cmp.f ((rd_T45 l0 (ji10)).f0) ((rd_T45 l0 x3_1).f0)).bind fun t170 => (if t170 ≥ 0 then (tallymanref7_GoodTree.j1 k1 l0 x3_1 true ((rd_T45 l0 x3_1).f0) ((rd_T45 l0 x3_1).f1) ((rd_T45 l0 x3_1).f2)) else (if (rd_T45 l0 x3_1).f1 = true then (if (((rd_T45 l0 x3_1).f2).length : Int) > 0 then (tallymanref7_GoodTree.j1 k1 l0 x3_1 true ((rd_T45 l0 x3_1).f0) ((rd_T45 l0 x3_1).f1) ((rd_T45 l0 x3_1).f2)) else (tallymanref7_GoodTree.j1 k1 l0 x3_1 (decide ((((rd_T45 l0 x3_1).f2).length : Int) > 2048)) ((rd_T45 l0 x3_1).f0) ((rd_T45 l0 x3_1).f1) ((rd_T45 l0 x3_1).f2))) else (tallymanref7_GoodTree.j1 k1 l0 x3_1 (decide ((((rd_T45 l0 x3_1).f2).length : Int) > 2048)) ((rd_T45 l0 x3_1).f0) ((rd_T45 l0 x3_1).f1) ((rd_T45 l0 x3_1).f2))))) else (none)) else (none)) = some r := by first | (rw [hji10] at H; exact H) | (simp only [hji10] at H ⊢; exact H)
        (try rw [hji10] at A7)
        have hji10w : (IntKind.i64.wrap (x3_1 - 1)) = ji10 := (i64_w _).trans hji10
        by_cases c11 : 0 ≤ (ji10)
        ·rw [if_pos c11] at H
         have c11b0 : decide (0 ≤ (ji10)) = true := decide_eq_true c11
         clear c11
         by_cases c12 : (ji10) < (l0.length : Int)
         ·rw [if_pos c12] at H
          have c12b0 : decide ((ji10) < (l0.length : Int)) = true := decide_eq_true c12
          clear c12
          replace H := Option.bind_eq_some_iff.mp H
          obtain ⟨t170, A130, H⟩ := H
          replace H : (if t170 ≥ 0 then (tallymanref7_GoodTree.j1 k1 l0 x3_1 true ((rd_T45 l0 x3_1).f0) ((rd_T45 l0 x3_1).f1) ((rd_T45 l0 x3_1).f2)) else (if (rd_T45 l0 x3_1).f1 = true then (if (((rd_T45 l0 x3_1).f2).length : Int) > 0 then (tallymanref7_GoodTree.j1 k1 l0 x3_1 true ((rd_T45 l0 x3_1).f0) ((rd_T45 l0 x3_1).f1) ((rd_T45 l0 x3_1).f2)) else (tallymanref7_GoodTree.j1 k1 l0 x3_1 (decide ((((rd_T45 l0 x3_1).f2).length : Int) > 2048)) ((rd_T45 l0 x3_1).f0) ((rd_T45 l0 x3_1).f1) ((rd_T45 l0 x3_1).f2))) else (tallymanref7_GoodTree.j1 k1 l0 x3_1 (decide ((((rd_T45 l0 x3_1).f2).length : Int) > 2048)) ((rd_T45 l0 x3_1).f0) ((rd_T45 l0 x3_1).f1) ((rd_T45 l0 x3_1).f2)))) = some r := H
          have A13 := Aside0.mk A130
          clear A130
          by_cases c14 : t170 ≥ 0
          ·rw [if_pos c14] at H
           have c14b0 : decide (0 ≤ t170) = true := decide_eq_true c14
           clear c14
           have H' := Aside0.mk H
           clear H
           try go_wp2
           have n0_ : Aside0 ((((w5.setCell ⟨gb167, 0, none⟩ (.string ((rd_T45 l0 x3_1).f0))).setCell ⟨gb167, 1, none⟩ (.bool ((rd_T45 l0 x3_1).f1))).setCell ⟨gb167, 2, none⟩ (.slice A166_2 ((rd_T45 l0 x3_1).f2).length c166_2)).heap[gb167]? = some (.cells #[.string ((rd_T45 l0 x3_1).f0), .bool ((rd_T45 l0 x3_1).f1), .slice A166_2 ((rd_T45 l0 x3_1).f2).length c166_2] 45 (0, 0))) := ⟨by (with_reducible repeat (first | refine blk_drewN ?_ _ | refine blk_drew ?_ | refine blk_alloc ?_ _)); refine blk_put (cs := #[.string ((rd_T45 l0 x3_1).f0), .bool ((rd_T45 l0 x3_1).f1), .slice none 0 0]) ?_ 2 _ rfl; (with_reducible repeat (first | refine blk_drewN ?_ _ | refine blk_drew ?_ | refine blk_alloc ?_ _)); refine blk_put (cs := #[.string ((rd_T45 l0 x3_1).f0), .bool false, .slice none 0 0]) ?_ 1 _ rfl; (with_reducible repeat (first | refine blk_drewN ?_ _ | refine blk_drew ?_ | refine blk_alloc ?_ _)); refine blk_put (cs := #[.string (⟨#[]⟩ : ByteArray), .bool false, .slice none 0 0]) ?_ 0 _ rfl; (with_reducible repeat (first | refine blk_drewN ?_ _ | refine blk_drew ?_ | refine blk_alloc ?_ _)); exact BK167.out⟩
           have n1_ : Aside0 (Below w.heap.size w (((w5.setCell ⟨gb167, 0, none⟩ (.string ((rd_T45 l0 x3_1).f0))).setCell ⟨gb167, 1, none⟩ (.bool ((rd_T45 l0 x3_1).f1))).setCell ⟨gb167, 2, none⟩ (.slice A166_2 ((rd_T45 l0 x3_1).f2).length c166_2))) := ⟨by repeat (first | (with_reducible first | exact HB.out | apply below_alloc | apply pw_below_drewN | apply below_drew1 | refine below_set ?_ GE167.out) | exact HB.out)⟩
           (try clear BK167)
           (try clear HB)
           generalize (((w5.setCell ⟨gb167, 0, none⟩ (.string ((rd_T45 l0 x3_1).f0))).setCell ⟨gb167, 1, none⟩ (.bool ((rd_T45 l0 x3_1).f1))).setCell ⟨gb167, 2, none⟩ (.slice A166_2 ((rd_T45 l0 x3_1).f2).length c166_2)) = w15 at n0_ n1_ ⊢
           have BK167 := n0_
           have HB := n1_
           clear n0_ n1_
           have n0_ := xa_ (blk_drew BK167.out)
           have n1_ := xa_ (below_drew1 HB.out)
           clear BK167
           clear HB
           have BK167 := n0_
           have HB := n1_
           clear n0_ n1_
           have p169 : 0 ≤ ((ji10) : Int) := of_decide_eq_true (by first | (with_reducible assumption) | assumption)
           have q169 : (ji10) < (l0.length : Int) := of_decide_eq_true (by first | (with_reducible assumption) | assumption)
           obtain ⟨ad169, A169_2, c169_2, e169, hx169_0, hx169_1, hx169_2, hl169_2, hi169_2⟩ := at_T45 HR0.out (ji10) p169 q169
           have hw169_2 := hx169_2
           have hw169_1 := hx169_1
           have hw169_0 := hx169_0
           obtain rfl : ad166 = ad169 := (by injection e169)
           replace hx169_0 := (HB.out.cell (World.block_lt_of_cell? w _ hx169_0)).trans hx169_0
           replace hx169_1 := (HB.out.cell (World.block_lt_of_cell? w _ hx169_1)).trans hx169_1
           replace hx169_2 := (HB.out.cell (World.block_lt_of_cell? w _ hx169_2)).trans hx169_2
           have HR169_2 := Aside0.mk hi169_2
           have HC169_2 := Aside0.mk hl169_2
           clear hi169_2 hl169_2
           replace p169 := eq_true p169
           replace q169 := eq_true q169
           refine start_ (n := 36) (S := fun w' => w'.cell? ⟨gb167, 0, none⟩ = some (.string ((rd_T45 l0 x3_1).f0)) ∧ w'.cell? ⟨gb167, 1, none⟩ = some (.bool ((rd_T45 l0 x3_1).f1)) ∧ w'.cell? ⟨gb167, 2, none⟩ = some (.slice A166_2 ((rd_T45 l0 x3_1).f2).length c166_2) ∧ w'.cell? (ad166.add (((ji10)).toNat * 3)) = some (.string ((rd_T45 l0 (ji10)).f0)) ∧ w'.cell? ⟨(ad166.add (((ji10)).toNat * 3)).block, (ad166.add (((ji10)).toNat * 3)).off + 1, none⟩ = some (.bool ((rd_T45 l0 (ji10)).f1)) ∧ w'.cell? ⟨(ad166.add (((ji10)).toNat * 3)).block, (ad166.add (((ji10)).toNat * 3)).off + 2, none⟩ = some (.slice A169_2 ((rd_T45 l0 (ji10)).f2).length c169_2)) (ds := []) (bs_ 36 0x0) (by kernel_rfl) rfl rfl ⟨(blk_cell BK167.out 0).trans rfl, (blk_cell BK167.out 1).trans rfl, (blk_cell BK167.out 2).trans rfl, ((HB.out.cell (World.block_lt_of_cell? w _ hw169_0)).trans hw169_0), ((HB.out.cell (World.block_lt_of_cell? w _ hw169_1)).trans hw169_1), ((HB.out.cell (World.block_lt_of_cell? w _ hw169_2)).trans hw169_2)⟩ (fun hHeld => ?_); refine with_tabW tallymanref7_GoodTree.tab5 tallymanref7_GoodTree.bits5 (fun HT_ HW_ => ?_)
           generalize w15.drew = w16 at BK167 HB HR169_2 hx169_0 hx169_1 hx169_2 hHeld ⊢
           refine pl_ [(0, some 18, 0x1), (1, some 19, 0x3)] ?_; iterate 2 (first | (refine pq_ (v := ?_) (a' := ?_) HT_.out rfl rfl (by kernel_rfl) (fun _ _ _ h => h) (Or.inl ⟨by rfl, ?_⟩) ?_ ?_; rotate_left; (intro w'; go_simp; with_reducible rfl); rotate_left; (simp only [nm_]; rfl)) | (refine tq_ (v := ?_) (a' := ?_) HT_.out HW_.out rfl rfl (by kernel_rfl) (fun _ _ _ h => h) (Or.inl ⟨by rfl, ?_⟩) hHeld ?_ ?_; rotate_left; (rintro w' ⟨s0, s1, s2, s3, s4, s5⟩; go_simp; with_reducible rfl); rotate_left; (simp only [nm_]; rfl)))
           refine ql_ ?_
           refine one_ (i := 2) (N := some 20) (bs_ 36 0x7) rfl rfl (one_of HT_.out (by kernel_rfl)) (by decide) (fun K hK => ?_)
           refine goes_ Tryz.func49 (by kernel_rfl) rfl #[.string ((rd_T45 l0 x3_1).f0)] (by rfl) rfl rfl (by (try simp only [ca_]); first | done | rfl) ?_
           with_reducible refine (tallymanref7_Good.calls ((rd_T45 l0 x3_1).f0) true _ A7.out).mono ?_
           rintro e w17 ⟨rfl, hb⟩
           refine ⟨_, rfl, ?_⟩
           have n0_ := xa_ (blk_below (xb_ BK167.out) hb)
           have n1_ := xa_ (below_step (xw_ HB.out) hb)
           clear BK167
           clear HB
           have BK167 := n0_
           have HB := n1_
           clear n0_ n1_
           (try clear hb)
           (try clear hb2)
           (try clear hk)
           (try clear hi)
           refine hK.out _ _ ⟨(blk_cell BK167.out 0).trans rfl, (blk_cell BK167.out 1).trans rfl, (blk_cell BK167.out 2).trans rfl, ((HB.out.cell (World.block_lt_of_cell? w _ hw169_0)).trans hw169_0), ((HB.out.cell (World.block_lt_of_cell? w _ hw169_1)).trans hw169_1), ((HB.out.cell (World.block_lt_of_cell? w _ hw169_2)).trans hw169_2)⟩ (fun hHeld => ?_)
           clear hK K
           refine norm_ (a' := ?_) ?_ ?_
           rotate_left
           ·show Act.put _ (some 20) _ = _
            simp only [nm_]
            rfl
           refine pl_ [(3, some 21, 0xf), (4, some 22, 0x1f), (5, some 23, 0x3f), (6, some 24, 0x7f), (7, some 25, 0xff), (8, some 26, 0x1ff), (9, some 27, 0x3ff), (10, some 28, 0x7ff), (11, some 29, 0xfff), (12, some 30, 0x1fff), (14, some 32, 0x5fff), (13, some 31, 0x7fff), (15, some 33, 0xffff)] ?_; iterate 13 (first | (refine pq_ (v := ?_) (a' := ?_) HT_.out rfl rfl (by kernel_rfl) (fun _ _ _ h => h) (Or.inl ⟨by rfl, ?_⟩) ?_ ?_; rotate_left; (intro w'; go_simp; with_reducible rfl); rotate_left; (simp only [nm_]; rfl)) | (refine tq_ (v := ?_) (a' := ?_) HT_.out HW_.out rfl rfl (by kernel_rfl) (fun _ _ _ h => h) (Or.inl ⟨by rfl, ?_⟩) hHeld ?_ ?_; rotate_left; (rintro w' ⟨s0, s1, s2, s3, s4, s5⟩; go_simp; with_reducible rfl); rotate_left; (simp only [nm_]; rfl)))
           refine ql_ ?_
           refine one_ (i := 16) (N := some 34) (bs_ 36 0x1ffff) rfl rfl (one_of HT_.out (by kernel_rfl)) (by decide) (fun K hK => ?_)
           refine goes_ Tryz.func85 (by kernel_rfl) rfl #[.string ((rd_T45 l0 (ji10)).f0), .string ((rd_T45 l0 x3_1).f0)] (by rfl) rfl rfl (by (try simp only [List.map_toArray, List.map_cons, List.map_nil]); first | done | (simp only [hji10]; rfl) | rfl | (simp only [List.length_drop, List.length_take]; rfl)) ?_
           with_reducible refine (tallymanref7_Cmp.calls ((rd_T45 l0 (ji10)).f0) ((rd_T45 l0 x3_1).f0) t170 _ A13.out).mono ?_
           rintro e w18 ⟨rfl, hb⟩
           refine ⟨_, rfl, ?_⟩
           have n0_ := xa_ (blk_below (xb_ BK167.out) hb)
           have n1_ := xa_ (below_step (xw_ HB.out) hb)
           clear BK167
           clear HB
           have BK167 := n0_
           have HB := n1_
           clear n0_ n1_
           (try clear hb)
           (try clear hb2)
           (try clear hk)
           (try clear hi)
           refine hK.out _ _ ⟨(blk_cell BK167.out 0).trans rfl, (blk_cell BK167.out 1).trans rfl, (blk_cell BK167.out 2).trans rfl, ((HB.out.cell (World.block_lt_of_cell? w _ hw169_0)).trans hw169_0), ((HB.out.cell (World.block_lt_of_cell? w _ hw169_1)).trans hw169_1), ((HB.out.cell (World.block_lt_of_cell? w _ hw169_2)).trans hw169_2)⟩ (fun hHeld => ?_)
           clear hK K
           refine norm_ (a' := ?_) ?_ ?_
           rotate_left
           ·show Act.put _ (some 34) _ = _
            simp only [nm_]
            rfl
           refine pl_ [(17, some 35, 0x3ffff), (18, some 36, 0x7ffff), (19, some 37, 0xfffff), (20, some 38, 0x1fffff), (21, some 39, 0x3fffff), (22, some 40, 0x7fffff), (23, some 41, 0xffffff), (24, some 42, 0x1ffffff), (25, some 43, 0x3ffffff), (26, some 44, 0x7ffffff), (27, some 45, 0xfffffff), (28, some 46, 0x1fffffff), (29, some 47, 0x3fffffff), (30, some 48, 0x7fffffff), (31, some 49, 0xffffffff), (32, some 50, 0x1ffffffff), (33, some 51, 0x3ffffffff), (34, some 52, 0x7ffffffff), (35, some 53, 0xfffffffff)] ?_; iterate 19 (first | (refine pq_ (v := undef) (a' := ?_) HT_.out rfl rfl (by kernel_rfl) (fun _ _ _ h => h) (Or.inr ⟨by rfl, rfl⟩) ?_ ?_; rotate_left; (simp only [nm_]; rfl)) | (refine pq_ (v := ?_) (a' := ?_) HT_.out rfl rfl (by kernel_rfl) (fun _ _ _ h => h) (Or.inl ⟨by rfl, ?_⟩) ?_ ?_; rotate_left; (intro w'; go_simp; with_reducible rfl); rotate_left; (simp only [nm_]; rfl)))
           refine ql_ ?_
           refine done_ (done_of HT_.out (by kernel_rfl)) ?_
           try go_wp2
           go_meet
           case rel => exact ⟨_, (true), (by first | rfl | (simp; done) | (simp [*]; done)), H', ⟨by have := HK1.out; first | omega | exact Nat.le_refl _⟩, ⟨by (with_reducible repeat (first | refine blk_drewN ?_ _ | refine blk_drew ?_ | refine blk_alloc ?_ _)); exact BK167.out⟩, ⟨by repeat (first | (with_reducible first | exact HB.out | apply below_alloc | apply pw_below_drewN | apply below_drew1 | refine below_set ?_ GE167.out) | exact HB.out)⟩⟩
          ·rw [if_neg c14] at H
           have c14b0 : decide (0 ≤ t170) = false := decide_eq_false c14
           clear c14
           obtain ⟨bq19, hbq19⟩ : ∃ b_ : Bool, b_ = ((rd_T45 l0 x3_1).f1) := ⟨_, rfl⟩
           replace H : (if bq19 = true then (if (((rd_T45 l0 x3_1).f2).length : Int) > 0 then (tallymanref7_GoodTree.j1 k1 l0 x3_1 true ((rd_T45 l0 x3_1).f0) bq19 ((rd_T45 l0 x3_1).f2)) else (tallymanref7_GoodTree.j1 k1 l0 x3_1 (decide ((((rd_T45 l0 x3_1).f2).length : Int) > 2048)) ((rd_T45 l0 x3_1).f0) bq19 ((rd_T45 l0 x3_1).f2))) else (tallymanref7_GoodTree.j1 k1 l0 x3_1 (decide ((((rd_T45 l0 x3_1).f2).length : Int) > 2048)) ((rd_T45 l0 x3_1).f0) bq19 ((rd_T45 l0 x3_1).f2))) = some r := by rw [← hbq19] at H; exact H
           (try rw [← hbq19])
           have Nbq19 := Aside0.mk hbq19
           clear hbq19
           by_cases c20 : bq19 = true
           ·subst c20
            have H1 : (if (((rd_T45 l0 x3_1).f2).length : Int) > 0 then (tallymanref7_GoodTree.j1 k1 l0 x3_1 true ((rd_T45 l0 x3_1).f0) true ((rd_T45 l0 x3_1).f2)) else (tallymanref7_GoodTree.j1 k1 l0 x3_1 (decide ((((rd_T45 l0 x3_1).f2).length : Int) > 2048)) ((rd_T45 l0 x3_1).f0) true ((rd_T45 l0 x3_1).f2))) = some r := by rw [if_pos rfl] at H; exact H
            clear H
            have H := H1
            clear H1
            by_cases c21 : (((rd_T45 l0 x3_1).f2).length : Int) > 0
            ·rw [if_pos c21] at H
             have c21b0 : decide (0 < (((rd_T45 l0 x3_1).f2).length : Int)) = true := decide_eq_true c21
             have c21b1 : decide (0 < ((rd_T45 l0 x3_1).f2).length) = true := decide_eq_true (by omega)
             clear c21
             have H' := Aside0.mk H
             clear H
             try go_wp2
             have n0_ : Aside0 ((((w5.setCell ⟨gb167, 0, none⟩ (.string ((rd_T45 l0 x3_1).f0))).setCell ⟨gb167, 1, none⟩ (.bool (true))).setCell ⟨gb167, 2, none⟩ (.slice A166_2 ((rd_T45 l0 x3_1).f2).length c166_2)).heap[gb167]? = some (.cells #[.string ((rd_T45 l0 x3_1).f0), .bool true, .slice A166_2 ((rd_T45 l0 x3_1).f2).length c166_2] 45 (0, 0))) := ⟨by (with_reducible repeat (first | refine blk_drewN ?_ _ | refine blk_drew ?_ | refine blk_alloc ?_ _)); refine blk_put (cs := #[.string ((rd_T45 l0 x3_1).f0), .bool (true), .slice none 0 0]) ?_ 2 _ rfl; (with_reducible repeat (first | refine blk_drewN ?_ _ | refine blk_drew ?_ | refine blk_alloc ?_ _)); refine blk_put (cs := #[.string ((rd_T45 l0 x3_1).f0), .bool false, .slice none 0 0]) ?_ 1 _ rfl; (with_reducible repeat (first | refine blk_drewN ?_ _ | refine blk_drew ?_ | refine blk_alloc ?_ _)); refine blk_put (cs := #[.string (⟨#[]⟩ : ByteArray), .bool false, .slice none 0 0]) ?_ 0 _ rfl; (with_reducible repeat (first | refine blk_drewN ?_ _ | refine blk_drew ?_ | refine blk_alloc ?_ _)); exact BK167.out⟩
             have n1_ : Aside0 (Below w.heap.size w (((w5.setCell ⟨gb167, 0, none⟩ (.string ((rd_T45 l0 x3_1).f0))).setCell ⟨gb167, 1, none⟩ (.bool (true))).setCell ⟨gb167, 2, none⟩ (.slice A166_2 ((rd_T45 l0 x3_1).f2).length c166_2))) := ⟨by repeat (first | (with_reducible first | exact HB.out | apply below_alloc | apply pw_below_drewN | apply below_drew1 | refine below_set ?_ GE167.out) | exact HB.out)⟩
             (try clear BK167)
             (try clear HB)
             generalize (((w5.setCell ⟨gb167, 0, none⟩ (.string ((rd_T45 l0 x3_1).f0))).setCell ⟨gb167, 1, none⟩ (.bool (true))).setCell ⟨gb167, 2, none⟩ (.slice A166_2 ((rd_T45 l0 x3_1).f2).length c166_2)) = w22 at n0_ n1_ ⊢
             have BK167 := n0_
             have HB := n1_
             clear n0_ n1_
             have n0_ := xa_ (blk_drew BK167.out)
             have n1_ := xa_ (below_drew1 HB.out)
             clear BK167
             clear HB
             have BK167 := n0_
             have HB := n1_
             clear n0_ n1_
             have p169 : 0 ≤ ((ji10) : Int) := of_decide_eq_true (by first | (with_reducible assumption) | assumption)
             have q169 : (ji10) < (l0.length : Int) := of_decide_eq_true (by first | (with_reducible assumption) | assumption)
             obtain ⟨ad169, A169_2, c169_2, e169, hx169_0, hx169_1, hx169_2, hl169_2, hi169_2⟩ := at_T45 HR0.out (ji10) p169 q169
             have hw169_2 := hx169_2
             have hw169_1 := hx169_1
             have hw169_0 := hx169_0
             (try rw [← Nbq19.out] at hx169_1)
             (try rw [← Nbq19.out] at hw169_1)
             obtain rfl : ad166 = ad169 := (by injection e169)
             replace hx169_0 := (HB.out.cell (World.block_lt_of_cell? w _ hx169_0)).trans hx169_0
             replace hx169_1 := (HB.out.cell (World.block_lt_of_cell? w _ hx169_1)).trans hx169_1
             replace hx169_2 := (HB.out.cell (World.block_lt_of_cell? w _ hx169_2)).trans hx169_2
             have HR169_2 := Aside0.mk hi169_2
             have HC169_2 := Aside0.mk hl169_2
             clear hi169_2 hl169_2
             replace p169 := eq_true p169
             replace q169 := eq_true q169
             refine start_ (n := 36) (S := fun w' => w'.cell? ⟨gb167, 0, none⟩ = some (.string ((rd_T45 l0 x3_1).f0)) ∧ w'.cell? ⟨gb167, 1, none⟩ = some (.bool true) ∧ w'.cell? ⟨gb167, 2, none⟩ = some (.slice A166_2 ((rd_T45 l0 x3_1).f2).length c166_2) ∧ w'.cell? (ad166.add (((ji10)).toNat * 3)) = some (.string ((rd_T45 l0 (ji10)).f0)) ∧ w'.cell? ⟨(ad166.add (((ji10)).toNat * 3)).block, (ad166.add (((ji10)).toNat * 3)).off + 1, none⟩ = some (.bool ((rd_T45 l0 (ji10)).f1)) ∧ w'.cell? ⟨(ad166.add (((ji10)).toNat * 3)).block, (ad166.add (((ji10)).toNat * 3)).off + 2, none⟩ = some (.slice A169_2 ((rd_T45 l0 (ji10)).f2).length c169_2)) (ds := []) (bs_ 36 0x0) (by kernel_rfl) rfl rfl ⟨(blk_cell BK167.out 0).trans rfl, (blk_cell BK167.out 1).trans rfl, (blk_cell BK167.out 2).trans rfl, ((HB.out.cell (World.block_lt_of_cell? w _ hw169_0)).trans hw169_0), ((HB.out.cell (World.block_lt_of_cell? w _ hw169_1)).trans hw169_1), ((HB.out.cell (World.block_lt_of_cell? w _ hw169_2)).trans hw169_2)⟩ (fun hHeld => ?_); refine with_tabW tallymanref7_GoodTree.tab5 tallymanref7_GoodTree.bits5 (fun HT_ HW_ => ?_)
             generalize w22.drew = w23 at BK167 HB HR169_2 hx169_0 hx169_1 hx169_2 hHeld ⊢
             refine pl_ [(0, some 18, 0x1), (1, some 19, 0x3)] ?_; iterate 2 (first | (refine pq_ (v := ?_) (a' := ?_) HT_.out rfl rfl (by kernel_rfl) (fun _ _ _ h => h) (Or.inl ⟨by rfl, ?_⟩) ?_ ?_; rotate_left; (intro w'; go_simp; with_reducible rfl); rotate_left; (simp only [nm_]; rfl)) | (refine tq_ (v := ?_) (a' := ?_) HT_.out HW_.out rfl rfl (by kernel_rfl) (fun _ _ _ h => h) (Or.inl ⟨by rfl, ?_⟩) hHeld ?_ ?_; rotate_left; (rintro w' ⟨s0, s1, s2, s3, s4, s5⟩; go_simp; with_reducible rfl); rotate_left; (simp only [nm_]; rfl)))
             refine ql_ ?_
             refine one_ (i := 2) (N := some 20) (bs_ 36 0x7) rfl rfl (one_of HT_.out (by kernel_rfl)) (by decide) (fun K hK => ?_)
             refine goes_ Tryz.func49 (by kernel_rfl) rfl #[.string ((rd_T45 l0 x3_1).f0)] (by rfl) rfl rfl (by (try simp only [ca_]); first | done | rfl) ?_
             with_reducible refine (tallymanref7_Good.calls ((rd_T45 l0 x3_1).f0) true _ A7.out).mono ?_
             rintro e w24 ⟨rfl, hb⟩
             refine ⟨_, rfl, ?_⟩
             have n0_ := xa_ (blk_below (xb_ BK167.out) hb)
             have n1_ := xa_ (below_step (xw_ HB.out) hb)
             clear BK167
             clear HB
             have BK167 := n0_
             have HB := n1_
             clear n0_ n1_
             (try clear hb)
             (try clear hb2)
             (try clear hk)
             (try clear hi)
             refine hK.out _ _ ⟨(blk_cell BK167.out 0).trans rfl, (blk_cell BK167.out 1).trans rfl, (blk_cell BK167.out 2).trans rfl, ((HB.out.cell (World.block_lt_of_cell? w _ hw169_0)).trans hw169_0), ((HB.out.cell (World.block_lt_of_cell? w _ hw169_1)).trans hw169_1), ((HB.out.cell (World.block_lt_of_cell? w _ hw169_2)).trans hw169_2)⟩ (fun hHeld => ?_)
             clear hK K
             refine norm_ (a' := ?_) ?_ ?_
             rotate_left
             ·show Act.put _ (some 20) _ = _
              simp only [nm_]
              rfl
             refine pl_ [(3, some 21, 0xf), (4, some 22, 0x1f), (5, some 23, 0x3f), (6, some 24, 0x7f), (7, some 25, 0xff), (8, some 26, 0x1ff), (9, some 27, 0x3ff), (10, some 28, 0x7ff), (11, some 29, 0xfff), (12, some 30, 0x1fff), (14, some 32, 0x5fff), (13, some 31, 0x7fff), (15, some 33, 0xffff)] ?_; iterate 13 (first | (refine pq_ (v := ?_) (a' := ?_) HT_.out rfl rfl (by kernel_rfl) (fun _ _ _ h => h) (Or.inl ⟨by rfl, ?_⟩) ?_ ?_; rotate_left; (intro w'; go_simp; with_reducible rfl); rotate_left; (simp only [nm_]; rfl)) | (refine tq_ (v := ?_) (a' := ?_) HT_.out HW_.out rfl rfl (by kernel_rfl) (fun _ _ _ h => h) (Or.inl ⟨by rfl, ?_⟩) hHeld ?_ ?_; rotate_left; (rintro w' ⟨s0, s1, s2, s3, s4, s5⟩; go_simp; with_reducible rfl); rotate_left; (simp only [nm_]; rfl)))
             refine ql_ ?_
             refine one_ (i := 16) (N := some 34) (bs_ 36 0x1ffff) rfl rfl (one_of HT_.out (by kernel_rfl)) (by decide) (fun K hK => ?_)
             refine goes_ Tryz.func85 (by kernel_rfl) rfl #[.string ((rd_T45 l0 (ji10)).f0), .string ((rd_T45 l0 x3_1).f0)] (by rfl) rfl rfl (by (try simp only [List.map_toArray, List.map_cons, List.map_nil]); first | done | (simp only [hji10]; rfl) | rfl | (simp only [List.length_drop, List.length_take]; rfl)) ?_
             with_reducible refine (tallymanref7_Cmp.calls ((rd_T45 l0 (ji10)).f0) ((rd_T45 l0 x3_1).f0) t170 _ A13.out).mono ?_
             rintro e w25 ⟨rfl, hb⟩
             refine ⟨_, rfl, ?_⟩
             have n0_ := xa_ (blk_below (xb_ BK167.out) hb)
             have n1_ := xa_ (below_step (xw_ HB.out) hb)
             clear BK167
             clear HB
             have BK167 := n0_
             have HB := n1_
             clear n0_ n1_
             (try clear hb)
             (try clear hb2)
             (try clear hk)
             (try clear hi)
             refine hK.out _ _ ⟨(blk_cell BK167.out 0).trans rfl, (blk_cell BK167.out 1).trans rfl, (blk_cell BK167.out 2).trans rfl, ((HB.out.cell (World.block_lt_of_cell? w _ hw169_0)).trans hw169_0), ((HB.out.cell (World.block_lt_of_cell? w _ hw169_1)).trans hw169_1), ((HB.out.cell (World.block_lt_of_cell? w _ hw169_2)).trans hw169_2)⟩ (fun hHeld => ?_)
             clear hK K
             refine norm_ (a' := ?_) ?_ ?_
             rotate_left
             ·show Act.put _ (some 34) _ = _
              simp only [nm_]
              rfl
             refine pl_ [(17, some 35, 0x3ffff), (18, some 36, 0x7ffff), (19, some 37, 0xfffff), (20, some 38, 0x1fffff), (21, some 39, 0x3fffff), (22, some 40, 0x7fffff), (23, some 41, 0xffffff), (24, some 42, 0x1ffffff), (25, some 43, 0x3ffffff), (26, some 44, 0x7ffffff), (27, some 45, 0xfffffff), (28, some 46, 0x1fffffff), (29, some 47, 0x3fffffff), (30, some 48, 0x7fffffff), (31, some 49, 0xffffffff), (32, some 50, 0x1ffffffff), (33, some 51, 0x3ffffffff), (34, some 52, 0x7ffffffff), (35, some 53, 0xfffffffff)] ?_; iterate 19 (first | (refine pq_ (v := undef) (a' := ?_) HT_.out rfl rfl (by kernel_rfl) (fun _ _ _ h => h) (Or.inr ⟨by rfl, rfl⟩) ?_ ?_; rotate_left; (simp only [nm_]; rfl)) | (refine pq_ (v := ?_) (a' := ?_) HT_.out rfl rfl (by kernel_rfl) (fun _ _ _ h => h) (Or.inl ⟨by rfl, ?_⟩) ?_ ?_; rotate_left; (intro w'; go_simp; with_reducible rfl); rotate_left; (simp only [nm_]; rfl)) | (refine tq_ (v := ?_) (a' := ?_) HT_.out HW_.out rfl rfl (by kernel_rfl) (fun _ _ _ h => h) (Or.inl ⟨by rfl, ?_⟩) hHeld ?_ ?_; rotate_left; (rintro w' ⟨s0, s1, s2, s3, s4, s5⟩; go_simp; with_reducible rfl); rotate_left; (simp only [nm_]; rfl)))
             refine ql_ ?_
             refine done_ (done_of HT_.out (by kernel_rfl)) ?_
             try go_wp2
             go_meet
             case rel => (try rw [← Nbq19.out]); exact ⟨_, (true), (by first | rfl | (simp; done) | (simp [*]; done)), H', ⟨by have := HK1.out; first | omega | exact Nat.le_refl _⟩, ⟨by (with_reducible repeat (first | refine blk_drewN ?_ _ | refine blk_drew ?_ | refine blk_alloc ?_ _)); exact BK167.out⟩, ⟨by repeat (first | (with_reducible first | exact HB.out | apply below_alloc | apply pw_below_drewN | apply below_drew1 | refine below_set ?_ GE167.out) | exact HB.out)⟩⟩
            ·rw [if_neg c21] at H
             have c21b0 : decide (0 < (((rd_T45 l0 x3_1).f2).length : Int)) = false := decide_eq_false c21
             have c21b1 : decide (0 < ((rd_T45 l0 x3_1).f2).length) = false := decide_eq_false (by omega)
             clear c21
             have H' := Aside0.mk H
             clear H
             try go_wp2
             have n0_ : Aside0 ((((w5.setCell ⟨gb167, 0, none⟩ (.string ((rd_T45 l0 x3_1).f0))).setCell ⟨gb167, 1, none⟩ (.bool (true))).setCell ⟨gb167, 2, none⟩ (.slice A166_2 ((rd_T45 l0 x3_1).f2).length c166_2)).heap[gb167]? = some (.cells #[.string ((rd_T45 l0 x3_1).f0), .bool true, .slice A166_2 ((rd_T45 l0 x3_1).f2).length c166_2] 45 (0, 0))) := ⟨by (with_reducible repeat (first | refine blk_drewN ?_ _ | refine blk_drew ?_ | refine blk_alloc ?_ _)); refine blk_put (cs := #[.string ((rd_T45 l0 x3_1).f0), .bool (true), .slice none 0 0]) ?_ 2 _ rfl; (with_reducible repeat (first | refine blk_drewN ?_ _ | refine blk_drew ?_ | refine blk_alloc ?_ _)); refine blk_put (cs := #[.string ((rd_T45 l0 x3_1).f0), .bool false, .slice none 0 0]) ?_ 1 _ rfl; (with_reducible repeat (first | refine blk_drewN ?_ _ | refine blk_drew ?_ | refine blk_alloc ?_ _)); refine blk_put (cs := #[.string (⟨#[]⟩ : ByteArray), .bool false, .slice none 0 0]) ?_ 0 _ rfl; (with_reducible repeat (first | refine blk_drewN ?_ _ | refine blk_drew ?_ | refine blk_alloc ?_ _)); exact BK167.out⟩
             have n1_ : Aside0 (Below w.heap.size w (((w5.setCell ⟨gb167, 0, none⟩ (.string ((rd_T45 l0 x3_1).f0))).setCell ⟨gb167, 1, none⟩ (.bool (true))).setCell ⟨gb167, 2, none⟩ (.slice A166_2 ((rd_T45 l0 x3_1).f2).length c166_2))) := ⟨by repeat (first | (with_reducible first | exact HB.out | apply below_alloc | apply pw_below_drewN | apply below_drew1 | refine below_set ?_ GE167.out) | exact HB.out)⟩
             (try clear BK167)
             (try clear HB)
             generalize (((w5.setCell ⟨gb167, 0, none⟩ (.string ((rd_T45 l0 x3_1).f0))).setCell ⟨gb167, 1, none⟩ (.bool (true))).setCell ⟨gb167, 2, none⟩ (.slice A166_2 ((rd_T45 l0 x3_1).f2).length c166_2)) = w26 at n0_ n1_ ⊢
             have BK167 := n0_
             have HB := n1_
             clear n0_ n1_
             have n0_ := xa_ (blk_drew BK167.out)
             have n1_ := xa_ (below_drew1 HB.out)
             clear BK167
             clear HB
             have BK167 := n0_
             have HB := n1_
             clear n0_ n1_
             have p169 : 0 ≤ ((ji10) : Int) := of_decide_eq_true (by first | (with_reducible assumption) | assumption)
             have q169 : (ji10) < (l0.length : Int) := of_decide_eq_true (by first | (with_reducible assumption) | assumption)
             obtain ⟨ad169, A169_2, c169_2, e169, hx169_0, hx169_1, hx169_2, hl169_2, hi169_2⟩ := at_T45 HR0.out (ji10) p169 q169
             have hw169_2 := hx169_2
             have hw169_1 := hx169_1
             have hw169_0 := hx169_0
             (try rw [← Nbq19.out] at hx169_1)
             (try rw [← Nbq19.out] at hw169_1)
             obtain rfl : ad166 = ad169 := (by injection e169)
             replace hx169_0 := (HB.out.cell (World.block_lt_of_cell? w _ hx169_0)).trans hx169_0
             replace hx169_1 := (HB.out.cell (World.block_lt_of_cell? w _ hx169_1)).trans hx169_1
             replace hx169_2 := (HB.out.cell (World.block_lt_of_cell? w _ hx169_2)).trans hx169_2
             have HR169_2 := Aside0.mk hi169_2
             have HC169_2 := Aside0.mk hl169_2
             clear hi169_2 hl169_2
             replace p169 := eq_true p169
             replace q169 := eq_true q169
             refine start_ (n := 36) (S := fun w' => w'.cell? ⟨gb167, 0, none⟩ = some (.string ((rd_T45 l0 x3_1).f0)) ∧ w'.cell? ⟨gb167, 1, none⟩ = some (.bool true) ∧ w'.cell? ⟨gb167, 2, none⟩ = some (.slice A166_2 ((rd_T45 l0 x3_1).f2).length c166_2) ∧ w'.cell? (ad166.add (((ji10)).toNat * 3)) = some (.string ((rd_T45 l0 (ji10)).f0)) ∧ w'.cell? ⟨(ad166.add (((ji10)).toNat * 3)).block, (ad166.add (((ji10)).toNat * 3)).off + 1, none⟩ = some (.bool ((rd_T45 l0 (ji10)).f1)) ∧ w'.cell? ⟨(ad166.add (((ji10)).toNat * 3)).block, (ad166.add (((ji10)).toNat * 3)).off + 2, none⟩ = some (.slice A169_2 ((rd_T45 l0 (ji10)).f2).length c169_2)) (ds := []) (bs_ 36 0x0) (by kernel_rfl) rfl rfl ⟨(blk_cell BK167.out 0).trans rfl, (blk_cell BK167.out 1).trans rfl, (blk_cell BK167.out 2).trans rfl, ((HB.out.cell (World.block_lt_of_cell? w _ hw169_0)).trans hw169_0), ((HB.out.cell (World.block_lt_of_cell? w _ hw169_1)).trans hw169_1), ((HB.out.cell (World.block_lt_of_cell? w _ hw169_2)).trans hw169_2)⟩ (fun hHeld => ?_); refine with_tabW tallymanref7_GoodTree.tab5 tallymanref7_GoodTree.bits5 (fun HT_ HW_ => ?_)
             generalize w26.drew = w27 at BK167 HB HR169_2 hx169_0 hx169_1 hx169_2 hHeld ⊢
             refine pl_ [(0, some 18, 0x1), (1, some 19, 0x3)] ?_; iterate 2 (first | (refine pq_ (v := ?_) (a' := ?_) HT_.out rfl rfl (by kernel_rfl) (fun _ _ _ h => h) (Or.inl ⟨by rfl, ?_⟩) ?_ ?_; rotate_left; (intro w'; go_simp; with_reducible rfl); rotate_left; (simp only [nm_]; rfl)) | (refine tq_ (v := ?_) (a' := ?_) HT_.out HW_.out rfl rfl (by kernel_rfl) (fun _ _ _ h => h) (Or.inl ⟨by rfl, ?_⟩) hHeld ?_ ?_; rotate_left; (rintro w' ⟨s0, s1, s2, s3, s4, s5⟩; go_simp; with_reducible rfl); rotate_left; (simp only [nm_]; rfl)))
             refine ql_ ?_
             refine one_ (i := 2) (N := some 20) (bs_ 36 0x7) rfl rfl (one_of HT_.out (by kernel_rfl)) (by decide) (fun K hK => ?_)
             refine goes_ Tryz.func49 (by kernel_rfl) rfl #[.string ((rd_T45 l0 x3_1).f0)] (by rfl) rfl rfl (by (try simp only [ca_]); first | done | rfl) ?_
             with_reducible refine (tallymanref7_Good.calls ((rd_T45 l0 x3_1).f0) true _ A7.out).mono ?_
             rintro e w28 ⟨rfl, hb⟩
             refine ⟨_, rfl, ?_⟩
             have n0_ := xa_ (blk_below (xb_ BK167.out) hb)
             have n1_ := xa_ (below_step (xw_ HB.out) hb)
             clear BK167
             clear HB
             have BK167 := n0_
             have HB := n1_
             clear n0_ n1_
             (try clear hb)
             (try clear hb2)
             (try clear hk)
             (try clear hi)
             refine hK.out _ _ ⟨(blk_cell BK167.out 0).trans rfl, (blk_cell BK167.out 1).trans rfl, (blk_cell BK167.out 2).trans rfl, ((HB.out.cell (World.block_lt_of_cell? w _ hw169_0)).trans hw169_0), ((HB.out.cell (World.block_lt_of_cell? w _ hw169_1)).trans hw169_1), ((HB.out.cell (World.block_lt_of_cell? w _ hw169_2)).trans hw169_2)⟩ (fun hHeld => ?_)
             clear hK K
             refine norm_ (a' := ?_) ?_ ?_
             rotate_left
             ·show Act.put _ (some 20) _ = _
              simp only [nm_]
              rfl
             refine pl_ [(3, some 21, 0xf), (4, some 22, 0x1f), (5, some 23, 0x3f), (6, some 24, 0x7f), (7, some 25, 0xff), (8, some 26, 0x1ff), (9, some 27, 0x3ff), (10, some 28, 0x7ff), (11, some 29, 0xfff), (12, some 30, 0x1fff), (14, some 32, 0x5fff), (13, some 31, 0x7fff), (15, some 33, 0xffff)] ?_; iterate 13 (first | (refine pq_ (v := ?_) (a' := ?_) HT_.out rfl rfl (by kernel_rfl) (fun _ _ _ h => h) (Or.inl ⟨by rfl, ?_⟩) ?_ ?_; rotate_left; (intro w'; go_simp; with_reducible rfl); rotate_left; (simp only [nm_]; rfl)) | (refine tq_ (v := ?_) (a' := ?_) HT_.out HW_.out rfl rfl (by kernel_rfl) (fun _ _ _ h => h) (Or.inl ⟨by rfl, ?_⟩) hHeld ?_ ?_; rotate_left; (rintro w' ⟨s0, s1, s2, s3, s4, s5⟩; go_simp; with_reducible rfl); rotate_left; (simp only [nm_]; rfl)))
             refine ql_ ?_
             refine one_ (i := 16) (N := some 34) (bs_ 36 0x1ffff) rfl rfl (one_of HT_.out (by kernel_rfl)) (by decide) (fun K hK => ?_)
             refine goes_ Tryz.func85 (by kernel_rfl) rfl #[.string ((rd_T45 l0 (ji10)).f0), .string ((rd_T45 l0 x3_1).f0)] (by rfl) rfl rfl (by (try simp only [List.map_toArray, List.map_cons, List.map_nil]); first | done | (simp only [hji10]; rfl) | rfl | (simp only [List.length_drop, List.length_take]; rfl)) ?_
             with_reducible refine (tallymanref7_Cmp.calls ((rd_T45 l0 (ji10)).f0) ((rd_T45 l0 x3_1).f0) t170 _ A13.out).mono ?_
             rintro e w29 ⟨rfl, hb⟩
             refine ⟨_, rfl, ?_⟩
             have n0_ := xa_ (blk_below (xb_ BK167.out) hb)
             have n1_ := xa_ (below_step (xw_ HB.out) hb)
             clear BK167
             clear HB
             have BK167 := n0_
             have HB := n1_
             clear n0_ n1_
             (try clear hb)
             (try clear hb2)
             (try clear hk)
             (try clear hi)
             refine hK.out _ _ ⟨(blk_cell BK167.out 0).trans rfl, (blk_cell BK167.out 1).trans rfl, (blk_cell BK167.out 2).trans rfl, ((HB.out.cell (World.block_lt_of_cell? w _ hw169_0)).trans hw169_0), ((HB.out.cell (World.block_lt_of_cell? w _ hw169_1)).trans hw169_1), ((HB.out.cell (World.block_lt_of_cell? w _ hw169_2)).trans hw169_2)⟩ (fun hHeld => ?_)
             clear hK K
             refine norm_ (a' := ?_) ?_ ?_
             rotate_left
             ·show Act.put _ (some 34) _ = _
              simp only [nm_]
              rfl
             refine pl_ [(17, some 35, 0x3ffff), (18, some 36, 0x7ffff), (19, some 37, 0xfffff), (20, some 38, 0x1fffff), (21, some 39, 0x3fffff), (22, some 40, 0x7fffff), (23, some 41, 0xffffff), (24, some 42, 0x1ffffff), (25, some 43, 0x3ffffff), (26, some 44, 0x7ffffff), (27, some 45, 0xfffffff), (28, some 46, 0x1fffffff), (29, some 47, 0x3fffffff), (30, some 48, 0x7fffffff), (31, some 49, 0xffffffff), (32, some 50, 0x1ffffffff), (33, some 51, 0x3ffffffff), (34, some 52, 0x7ffffffff), (35, some 53, 0xfffffffff)] ?_; iterate 19 (first | (refine pq_ (v := ?_) (a' := ?_) HT_.out rfl rfl (by kernel_rfl) (fun _ _ _ h => h) (Or.inl ⟨by rfl, ?_⟩) ?_ ?_; rotate_left; (intro w'; go_simp; with_reducible rfl); rotate_left; (simp only [nm_]; rfl)) | (refine tq_ (v := ?_) (a' := ?_) HT_.out HW_.out rfl rfl (by kernel_rfl) (fun _ _ _ h => h) (Or.inl ⟨by rfl, ?_⟩) hHeld ?_ ?_; rotate_left; (rintro w' ⟨s0, s1, s2, s3, s4, s5⟩; go_simp; with_reducible rfl); rotate_left; (simp only [nm_]; rfl)))
             refine ql_ ?_
             refine done_ (done_of HT_.out (by kernel_rfl)) ?_
             try go_wp2
             go_meet
             case rel => (try rw [← Nbq19.out]); exact ⟨_, (decide ((((rd_T45 l0 x3_1).f2).length : Int) > 2048)), (by first | rfl | (simp; done) | (simp [*]; done)), H', ⟨by have := HK1.out; first | omega | exact Nat.le_refl _⟩, ⟨by (with_reducible repeat (first | refine blk_drewN ?_ _ | refine blk_drew ?_ | refine blk_alloc ?_ _)); exact BK167.out⟩, ⟨by repeat (first | (with_reducible first | exact HB.out | apply below_alloc | apply pw_below_drewN | apply below_drew1 | refine below_set ?_ GE167.out) | exact HB.out)⟩⟩
           ·replace c20 := Bool.eq_false_iff.mpr c20
            subst c20
            have H1 : (tallymanref7_GoodTree.j1 k1 l0 x3_1 (decide ((((rd_T45 l0 x3_1).f2).length : Int) > 2048)) ((rd_T45 l0 x3_1).f0) false ((rd_T45 l0 x3_1).f2)) = some r := by rw [if_neg (show ¬ (false = true) by decide)] at H; exact H
            clear H
            have H := H1
            clear H1
            have H' := Aside0.mk H
            clear H
            try go_wp2
            have n0_ : Aside0 ((((w5.setCell ⟨gb167, 0, none⟩ (.string ((rd_T45 l0 x3_1).f0))).setCell ⟨gb167, 1, none⟩ (.bool (false))).setCell ⟨gb167, 2, none⟩ (.slice A166_2 ((rd_T45 l0 x3_1).f2).length c166_2)).heap[gb167]? = some (.cells #[.string ((rd_T45 l0 x3_1).f0), .bool false, .slice A166_2 ((rd_T45 l0 x3_1).f2).length c166_2] 45 (0, 0))) := ⟨by (with_reducible repeat (first | refine blk_drewN ?_ _ | refine blk_drew ?_ | refine blk_alloc ?_ _)); refine blk_put (cs := #[.string ((rd_T45 l0 x3_1).f0), .bool (false), .slice none 0 0]) ?_ 2 _ rfl; (with_reducible repeat (first | refine blk_drewN ?_ _ | refine blk_drew ?_ | refine blk_alloc ?_ _)); refine blk_put (cs := #[.string ((rd_T45 l0 x3_1).f0), .bool false, .slice none 0 0]) ?_ 1 _ rfl; (with_reducible repeat (first | refine blk_drewN ?_ _ | refine blk_drew ?_ | refine blk_alloc ?_ _)); refine blk_put (cs := #[.string (⟨#[]⟩ : ByteArray), .bool false, .slice none 0 0]) ?_ 0 _ rfl; (with_reducible repeat (first | refine blk_drewN ?_ _ | refine blk_drew ?_ | refine blk_alloc ?_ _)); exact BK167.out⟩
            have n1_ : Aside0 (Below w.heap.size w (((w5.setCell ⟨gb167, 0, none⟩ (.string ((rd_T45 l0 x3_1).f0))).setCell ⟨gb167, 1, none⟩ (.bool (false))).setCell ⟨gb167, 2, none⟩ (.slice A166_2 ((rd_T45 l0 x3_1).f2).length c166_2))) := ⟨by repeat (first | (with_reducible first | exact HB.out | apply below_alloc | apply pw_below_drewN | apply below_drew1 | refine below_set ?_ GE167.out) | exact HB.out)⟩
            (try clear BK167)
            (try clear HB)
            generalize (((w5.setCell ⟨gb167, 0, none⟩ (.string ((rd_T45 l0 x3_1).f0))).setCell ⟨gb167, 1, none⟩ (.bool (false))).setCell ⟨gb167, 2, none⟩ (.slice A166_2 ((rd_T45 l0 x3_1).f2).length c166_2)) = w30 at n0_ n1_ ⊢
            have BK167 := n0_
            have HB := n1_
            clear n0_ n1_
            have n0_ := xa_ (blk_drew BK167.out)
            have n1_ := xa_ (below_drew1 HB.out)
            clear BK167
            clear HB
            have BK167 := n0_
            have HB := n1_
            clear n0_ n1_
            have p169 : 0 ≤ ((ji10) : Int) := of_decide_eq_true (by first | (with_reducible assumption) | assumption)
            have q169 : (ji10) < (l0.length : Int) := of_decide_eq_true (by first | (with_reducible assumption) | assumption)
            obtain ⟨ad169, A169_2, c169_2, e169, hx169_0, hx169_1, hx169_2, hl169_2, hi169_2⟩ := at_T45 HR0.out (ji10) p169 q169
            have hw169_2 := hx169_2
            have hw169_1 := hx169_1
            have hw169_0 := hx169_0
            (try rw [← Nbq19.out] at hx169_1)
            (try rw [← Nbq19.out] at hw169_1)
            obtain rfl : ad166 = ad169 := (by injection e169)
            replace hx169_0 := (HB.out.cell (World.block_lt_of_cell? w _ hx169_0)).trans hx169_0
            replace hx169_1 := (HB.out.cell (World.block_lt_of_cell? w _ hx169_1)).trans hx169_1
            replace hx169_2 := (HB.out.cell (World.block_lt_of_cell? w _ hx169_2)).trans hx169_2
            have HR169_2 := Aside0.mk hi169_2
            have HC169_2 := Aside0.mk hl169_2
            clear hi169_2 hl169_2
            replace p169 := eq_true p169
            replace q169 := eq_true q169
            refine start_ (n := 36) (S := fun w' => w'.cell? ⟨gb167, 0, none⟩ = some (.string ((rd_T45 l0 x3_1).f0)) ∧ w'.cell? ⟨gb167, 1, none⟩ = some (.bool false) ∧ w'.cell? ⟨gb167, 2, none⟩ = some (.slice A166_2 ((rd_T45 l0 x3_1).f2).length c166_2) ∧ w'.cell? (ad166.add (((ji10)).toNat * 3)) = some (.string ((rd_T45 l0 (ji10)).f0)) ∧ w'.cell? ⟨(ad166.add (((ji10)).toNat * 3)).block, (ad166.add (((ji10)).toNat * 3)).off + 1, none⟩ = some (.bool ((rd_T45 l0 (ji10)).f1)) ∧ w'.cell? ⟨(ad166.add (((ji10)).toNat * 3)).block, (ad166.add (((ji10)).toNat * 3)).off + 2, none⟩ = some (.slice A169_2 ((rd_T45 l0 (ji10)).f2).length c169_2)) (ds := []) (bs_ 36 0x0) (by kernel_rfl) rfl rfl ⟨(blk_cell BK167.out 0).trans rfl, (blk_cell BK167.out 1).trans rfl, (blk_cell BK167.out 2).trans rfl, ((HB.out.cell (World.block_lt_of_cell? w _ hw169_0)).trans hw169_0), ((HB.out.cell (World.block_lt_of_cell? w _ hw169_1)).trans hw169_1), ((HB.out.cell (World.block_lt_of_cell? w _ hw169_2)).trans hw169_2)⟩ (fun hHeld => ?_); refine with_tabW tallymanref7_GoodTree.tab5 tallymanref7_GoodTree.bits5 (fun HT_ HW_ => ?_)
            generalize w30.drew = w31 at BK167 HB HR169_2 hx169_0 hx169_1 hx169_2 hHeld ⊢
            refine pl_ [(0, some 18, 0x1), (1, some 19, 0x3)] ?_; iterate 2 (first | (refine pq_ (v := ?_) (a' := ?_) HT_.out rfl rfl (by kernel_rfl) (fun _ _ _ h => h) (Or.inl ⟨by rfl, ?_⟩) ?_ ?_; rotate_left; (intro w'; go_simp; with_reducible rfl); rotate_left; (simp only [nm_]; rfl)) | (refine tq_ (v := ?_) (a' := ?_) HT_.out HW_.out rfl rfl (by kernel_rfl) (fun _ _ _ h => h) (Or.inl ⟨by rfl, ?_⟩) hHeld ?_ ?_; rotate_left; (rintro w' ⟨s0, s1, s2, s3, s4, s5⟩; go_simp; with_reducible rfl); rotate_left; (simp only [nm_]; rfl)))
            refine ql_ ?_
            refine one_ (i := 2) (N := some 20) (bs_ 36 0x7) rfl rfl (one_of HT_.out (by kernel_rfl)) (by decide) (fun K hK => ?_)
            refine goes_ Tryz.func49 (by kernel_rfl) rfl #[.string ((rd_T45 l0 x3_1).f0)] (by rfl) rfl rfl (by (try simp only [ca_]); first | done | rfl) ?_
            with_reducible refine (tallymanref7_Good.calls ((rd_T45 l0 x3_1).f0) true _ A7.out).mono ?_
            rintro e w32 ⟨rfl, hb⟩
            refine ⟨_, rfl, ?_⟩
            have n0_ := xa_ (blk_below (xb_ BK167.out) hb)
            have n1_ := xa_ (below_step (xw_ HB.out) hb)
            clear BK167
            clear HB
            have BK167 := n0_
            have HB := n1_
            clear n0_ n1_
            (try clear hb)
            (try clear hb2)
            (try clear hk)
            (try clear hi)
            refine hK.out _ _ ⟨(blk_cell BK167.out 0).trans rfl, (blk_cell BK167.out 1).trans rfl, (blk_cell BK167.out 2).trans rfl, ((HB.out.cell (World.block_lt_of_cell? w _ hw169_0)).trans hw169_0), ((HB.out.cell (World.block_lt_of_cell? w _ hw169_1)).trans hw169_1), ((HB.out.cell (World.block_lt_of_cell? w _ hw169_2)).trans hw169_2)⟩ (fun hHeld => ?_)
            clear hK K
            refine norm_ (a' := ?_) ?_ ?_
            rotate_left
            ·show Act.put _ (some 20) _ = _
             simp only [nm_]
             rfl
            refine pl_ [(3, some 21, 0xf), (4, some 22, 0x1f), (5, some 23, 0x3f), (6, some 24, 0x7f), (7, some 25, 0xff), (8, some 26, 0x1ff), (9, some 27, 0x3ff), (10, some 28, 0x7ff), (11, some 29, 0xfff), (12, some 30, 0x1fff), (14, some 32, 0x5fff), (13, some 31, 0x7fff), (15, some 33, 0xffff)] ?_; iterate 13 (first | (refine pq_ (v := ?_) (a' := ?_) HT_.out rfl rfl (by kernel_rfl) (fun _ _ _ h => h) (Or.inl ⟨by rfl, ?_⟩) ?_ ?_; rotate_left; (intro w'; go_simp; with_reducible rfl); rotate_left; (simp only [nm_]; rfl)) | (refine tq_ (v := ?_) (a' := ?_) HT_.out HW_.out rfl rfl (by kernel_rfl) (fun _ _ _ h => h) (Or.inl ⟨by rfl, ?_⟩) hHeld ?_ ?_; rotate_left; (rintro w' ⟨s0, s1, s2, s3, s4, s5⟩; go_simp; with_reducible rfl); rotate_left; (simp only [nm_]; rfl)))
            refine ql_ ?_
            refine one_ (i := 16) (N := some 34) (bs_ 36 0x1ffff) rfl rfl (one_of HT_.out (by kernel_rfl)) (by decide) (fun K hK => ?_)
            refine goes_ Tryz.func85 (by kernel_rfl) rfl #[.string ((rd_T45 l0 (ji10)).f0), .string ((rd_T45 l0 x3_1).f0)] (by rfl) rfl rfl (by (try simp only [List.map_toArray, List.map_cons, List.map_nil]); first | done | (simp only [hji10]; rfl) | rfl | (simp only [List.length_drop, List.length_take]; rfl)) ?_
            with_reducible refine (tallymanref7_Cmp.calls ((rd_T45 l0 (ji10)).f0) ((rd_T45 l0 x3_1).f0) t170 _ A13.out).mono ?_
            rintro e w33 ⟨rfl, hb⟩
            refine ⟨_, rfl, ?_⟩
            have n0_ := xa_ (blk_below (xb_ BK167.out) hb)
            have n1_ := xa_ (below_step (xw_ HB.out) hb)
            clear BK167
            clear HB
            have BK167 := n0_
            have HB := n1_
            clear n0_ n1_
            (try clear hb)
            (try clear hb2)
            (try clear hk)
            (try clear hi)
            refine hK.out _ _ ⟨(blk_cell BK167.out 0).trans rfl, (blk_cell BK167.out 1).trans rfl, (blk_cell BK167.out 2).trans rfl, ((HB.out.cell (World.block_lt_of_cell? w _ hw169_0)).trans hw169_0), ((HB.out.cell (World.block_lt_of_cell? w _ hw169_1)).trans hw169_1), ((HB.out.cell (World.block_lt_of_cell? w _ hw169_2)).trans hw169_2)⟩ (fun hHeld => ?_)
            clear hK K
            refine norm_ (a' := ?_) ?_ ?_
            rotate_left
            ·show Act.put _ (some 34) _ = _
             simp only [nm_]
             rfl
            refine pl_ [(17, some 35, 0x3ffff), (18, some 36, 0x7ffff), (19, some 37, 0xfffff), (20, some 38, 0x1fffff), (21, some 39, 0x3fffff), (22, some 40, 0x7fffff), (23, some 41, 0xffffff), (24, some 42, 0x1ffffff), (25, some 43, 0x3ffffff), (26, some 44, 0x7ffffff), (27, some 45, 0xfffffff), (28, some 46, 0x1fffffff), (29, some 47, 0x3fffffff), (30, some 48, 0x7fffffff), (31, some 49, 0xffffffff), (32, some 50, 0x1ffffffff), (33, some 51, 0x3ffffffff), (34, some 52, 0x7ffffffff), (35, some 53, 0xfffffffff)] ?_; iterate 19 (first | (refine pq_ (v := undef) (a' := ?_) HT_.out rfl rfl (by kernel_rfl) (fun _ _ _ h => h) (Or.inr ⟨by rfl, rfl⟩) ?_ ?_; rotate_left; (simp only [nm_]; rfl)) | (refine pq_ (v := ?_) (a' := ?_) HT_.out rfl rfl (by kernel_rfl) (fun _ _ _ h => h) (Or.inl ⟨by rfl, ?_⟩) ?_ ?_; rotate_left; (intro w'; go_simp; with_reducible rfl); rotate_left; (simp only [nm_]; rfl)) | (refine tq_ (v := ?_) (a' := ?_) HT_.out HW_.out rfl rfl (by kernel_rfl) (fun _ _ _ h => h) (Or.inl ⟨by rfl, ?_⟩) hHeld ?_ ?_; rotate_left; (rintro w' ⟨s0, s1, s2, s3, s4, s5⟩; go_simp; with_reducible rfl); rotate_left; (simp only [nm_]; rfl)))
            refine ql_ ?_
            refine done_ (done_of HT_.out (by kernel_rfl)) ?_
            try go_wp2
            go_meet
            case rel => (try rw [← Nbq19.out]); exact ⟨_, (decide ((((rd_T45 l0 x3_1).f2).length : Int) > 2048)), (by first | rfl | (simp; done) | (simp [*]; done)), H', ⟨by have := HK1.out; first | omega | exact Nat.le_refl _⟩, ⟨by (with_reducible repeat (first | refine blk_drewN ?_ _ | refine blk_drew ?_ | refine blk_alloc ?_ _)); exact BK167.out⟩, ⟨by repeat (first | (with_reducible first | exact HB.out | apply below_alloc | apply pw_below_drewN | apply below_drew1 | refine below_set ?_ GE167.out) | exact HB.out)⟩⟩
         ·rw [if_neg c12] at H
          exact absurd H (by simp)
        ·rw [if_neg c11] at H
         exact absurd H (by simp)
       ·rw [if_neg c9] at H
        have c9b0 : decide (0 < x3_1) = false := decide_eq_false c9
        clear c9
        (first | rw [c9b0] | (simp only [i64_w, i32_w]; rw [c9b0]) | skip)
        obtain ⟨bq34, hbq34⟩ : ∃ b_ : Bool, b_ = ((rd_T45 l0 x3_1).f1) := ⟨_, rfl⟩
        replace H : (if bq34 = true then (if (((rd_T45 l0 x3_1).f2).length : Int) > 0 then (tallymanref7_GoodTree.j1 k1 l0 x3_1 true ((rd_T45 l0 x3_1).f0) bq34 ((rd_T45 l0 x3_1).f2)) else (tallymanref7_GoodTree.j1 k1 l0 x3_1 (decide ((((rd_T45 l0 x3_1).f2).length : Int) > 2048)) ((rd_T45 l0 x3_1).f0) bq34 ((rd_T45 l0 x3_1).f2))) else (tallymanref7_GoodTree.j1 k1 l0 x3_1 (decide ((((rd_T45 l0 x3_1).f2).length : Int) > 2048)) ((rd_T45 l0 x3_1).f0) bq34 ((rd_T45 l0 x3_1).f2))) = some r := by rw [← hbq34] at H; exact H
        (try rw [← hbq34])
        have Nbq34 := Aside0.mk hbq34
        clear hbq34
        by_cases c35 : bq34 = true
        ·subst c35
         have H1 : (if (((rd_T45 l0 x3_1).f2).length : Int) > 0 then (tallymanref7_GoodTree.j1 k1 l0 x3_1 true ((rd_T45 l0 x3_1).f0) true ((rd_T45 l0 x3_1).f2)) else (tallymanref7_GoodTree.j1 k1 l0 x3_1 (decide ((((rd_T45 l0 x3_1).f2).length : Int) > 2048)) ((rd_T45 l0 x3_1).f0) true ((rd_T45 l0 x3_1).f2))) = some r := by rw [if_pos rfl] at H; exact H
         clear H
         have H := H1
         clear H1
         by_cases c36 : (((rd_T45 l0 x3_1).f2).length : Int) > 0
         ·rw [if_pos c36] at H
          have c36b0 : decide (0 < (((rd_T45 l0 x3_1).f2).length : Int)) = true := decide_eq_true c36
          have c36b1 : decide (0 < ((rd_T45 l0 x3_1).f2).length) = true := decide_eq_true (by omega)
          clear c36
          have H' := Aside0.mk H
          clear H
          try go_wp2
          have n0_ : Aside0 ((((w5.setCell ⟨gb167, 0, none⟩ (.string ((rd_T45 l0 x3_1).f0))).setCell ⟨gb167, 1, none⟩ (.bool (true))).setCell ⟨gb167, 2, none⟩ (.slice A166_2 ((rd_T45 l0 x3_1).f2).length c166_2)).heap[gb167]? = some (.cells #[.string ((rd_T45 l0 x3_1).f0), .bool true, .slice A166_2 ((rd_T45 l0 x3_1).f2).length c166_2] 45 (0, 0))) := ⟨by (with_reducible repeat (first | refine blk_drewN ?_ _ | refine blk_drew ?_ | refine blk_alloc ?_ _)); refine blk_put (cs := #[.string ((rd_T45 l0 x3_1).f0), .bool (true), .slice none 0 0]) ?_ 2 _ rfl; (with_reducible repeat (first | refine blk_drewN ?_ _ | refine blk_drew ?_ | refine blk_alloc ?_ _)); refine blk_put (cs := #[.string ((rd_T45 l0 x3_1).f0), .bool false, .slice none 0 0]) ?_ 1 _ rfl; (with_reducible repeat (first | refine blk_drewN ?_ _ | refine blk_drew ?_ | refine blk_alloc ?_ _)); refine blk_put (cs := #[.string (⟨#[]⟩ : ByteArray), .bool false, .slice none 0 0]) ?_ 0 _ rfl; (with_reducible repeat (first | refine blk_drewN ?_ _ | refine blk_drew ?_ | refine blk_alloc ?_ _)); exact BK167.out⟩
          have n1_ : Aside0 (Below w.heap.size w (((w5.setCell ⟨gb167, 0, none⟩ (.string ((rd_T45 l0 x3_1).f0))).setCell ⟨gb167, 1, none⟩ (.bool (true))).setCell ⟨gb167, 2, none⟩ (.slice A166_2 ((rd_T45 l0 x3_1).f2).length c166_2))) := ⟨by repeat (first | (with_reducible first | exact HB.out | apply below_alloc | apply pw_below_drewN | apply below_drew1 | refine below_set ?_ GE167.out) | exact HB.out)⟩
          (try clear BK167)
          (try clear HB)
          generalize (((w5.setCell ⟨gb167, 0, none⟩ (.string ((rd_T45 l0 x3_1).f0))).setCell ⟨gb167, 1, none⟩ (.bool (true))).setCell ⟨gb167, 2, none⟩ (.slice A166_2 ((rd_T45 l0 x3_1).f2).length c166_2)) = w37 at n0_ n1_ ⊢
          have BK167 := n0_
          have HB := n1_
          clear n0_ n1_
          have n0_ := xa_ (blk_drew BK167.out)
          have n1_ := xa_ (below_drew1 HB.out)
          clear BK167
          clear HB
          have BK167 := n0_
          have HB := n1_
          clear n0_ n1_
          refine start_ (n := 36) (S := fun w' => w'.cell? ⟨gb167, 0, none⟩ = some (.string ((rd_T45 l0 x3_1).f0)) ∧ w'.cell? ⟨gb167, 1, none⟩ = some (.bool true) ∧ w'.cell? ⟨gb167, 2, none⟩ = some (.slice A166_2 ((rd_T45 l0 x3_1).f2).length c166_2)) (ds := []) (bs_ 36 0x0) (by kernel_rfl) rfl rfl ⟨(blk_cell BK167.out 0).trans rfl, (blk_cell BK167.out 1).trans rfl, (blk_cell BK167.out 2).trans rfl⟩ (fun hHeld => ?_); refine with_tabW tallymanref7_GoodTree.tab5 tallymanref7_GoodTree.bits5 (fun HT_ HW_ => ?_)
          generalize w37.drew = w38 at BK167 HB hHeld ⊢
          refine pl_ [(0, some 18, 0x1), (1, some 19, 0x3)] ?_; iterate 2 (first | (refine pq_ (v := ?_) (a' := ?_) HT_.out rfl rfl (by kernel_rfl) (fun _ _ _ h => h) (Or.inl ⟨by rfl, ?_⟩) ?_ ?_; rotate_left; (intro w'; go_simp; with_reducible rfl); rotate_left; (simp only [nm_]; rfl)) | (refine tq_ (v := ?_) (a' := ?_) HT_.out HW_.out rfl rfl (by kernel_rfl) (fun _ _ _ h => h) (Or.inl ⟨by rfl, ?_⟩) hHeld ?_ ?_; rotate_left; (rintro w' ⟨s0, s1, s2⟩; go_simp; with_reducible rfl); rotate_left; (simp only [nm_]; rfl)))
          refine ql_ ?_
          refine one_ (i := 2) (N := some 20) (bs_ 36 0x7) rfl rfl (one_of HT_.out (by kernel_rfl)) (by decide) (fun K hK => ?_)
          refine goes_ Tryz.func49 (by kernel_rfl) rfl #[.string ((rd_T45 l0 x3_1).f0)] (by rfl) rfl rfl (by (try simp only [ca_]); first | done | rfl) ?_
          with_reducible refine (tallymanref7_Good.calls ((rd_T45 l0 x3_1).f0) true _ A7.out).mono ?_
          rintro e w39 ⟨rfl, hb⟩
          refine ⟨_, rfl, ?_⟩
          have n0_ := xa_ (blk_below (xb_ BK167.out) hb)
          have n1_ := xa_ (below_step (xw_ HB.out) hb)
          clear BK167
          clear HB
          have BK167 := n0_
          have HB := n1_
          clear n0_ n1_
          (try clear hb)
          (try clear hb2)
          (try clear hk)
          (try clear hi)
          refine hK.out _ _ ⟨(blk_cell BK167.out 0).trans rfl, (blk_cell BK167.out 1).trans rfl, (blk_cell BK167.out 2).trans rfl⟩ (fun hHeld => ?_)
          clear hK K
          refine norm_ (a' := ?_) ?_ ?_
          rotate_left
          ·show Act.put _ (some 20) _ = _
           simp only [nm_]
           rfl
          refine pl_ [(3, some 21, 0xf), (4, some 22, 0x1f), (5, some 23, 0x3f), (6, some 24, 0x7f), (7, some 25, 0xff), (8, some 26, 0x1ff), (9, some 27, 0x3ff), (10, some 28, 0x7ff), (11, some 29, 0xfff), (12, some 30, 0x1fff), (13, some 31, 0x3fff), (14, some 32, 0x7fff), (15, some 33, 0xffff), (16, some 34, 0x1ffff), (17, some 35, 0x3ffff), (18, some 36, 0x7ffff), (19, some 37, 0xfffff), (20, some 38, 0x1fffff), (21, some 39, 0x3fffff), (22, some 40, 0x7fffff), (23, some 41, 0xffffff), (24, some 42, 0x1ffffff), (25, some 43, 0x3ffffff), (26, some 44, 0x7ffffff), (27, some 45, 0xfffffff), (28, some 46, 0x1fffffff), (29, some 47, 0x3fffffff), (30, some 48, 0x7fffffff), (31, some 49, 0xffffffff), (32, some 50, 0x1ffffffff), (33, some 51, 0x3ffffffff), (34, some 52, 0x7ffffffff), (35, some 53, 0xfffffffff)] ?_; iterate 33 (first | (refine pq_ (v := undef) (a' := ?_) HT_.out rfl rfl (by kernel_rfl) (fun _ _ _ h => h) (Or.inr ⟨by rfl, rfl⟩) ?_ ?_; rotate_left; (simp only [nm_]; rfl)) | (refine pq_ (v := ?_) (a' := ?_) HT_.out rfl rfl (by kernel_rfl) (fun _ _ _ h => h) (Or.inl ⟨by rfl, ?_⟩) ?_ ?_; rotate_left; (intro w'; go_simp; with_reducible rfl); rotate_left; (simp only [nm_]; rfl)) | (refine tq_ (v := ?_) (a' := ?_) HT_.out HW_.out rfl rfl (by kernel_rfl) (fun _ _ _ h => h) (Or.inl ⟨by rfl, ?_⟩) hHeld ?_ ?_; rotate_left; (rintro w' ⟨s0, s1, s2⟩; go_simp; with_reducible rfl); rotate_left; (simp only [nm_]; rfl)))
          refine ql_ ?_
          refine done_ (done_of HT_.out (by kernel_rfl)) ?_
          try go_wp2
          go_meet
          case rel => (try rw [← Nbq34.out]); exact ⟨_, (true), (by first | rfl | (simp; done) | (simp [*]; done)), H', ⟨by have := HK1.out; first | omega | exact Nat.le_refl _⟩, ⟨by (with_reducible repeat (first | refine blk_drewN ?_ _ | refine blk_drew ?_ | refine blk_alloc ?_ _)); exact BK167.out⟩, ⟨by repeat (first | (with_reducible first | exact HB.out | apply below_alloc | apply pw_below_drewN | apply below_drew1 | refine below_set ?_ GE167.out) | exact HB.out)⟩⟩
         ·rw [if_neg c36] at H
          have c36b0 : decide (0 < (((rd_T45 l0 x3_1).f2).length : Int)) = false := decide_eq_false c36
          have c36b1 : decide (0 < ((rd_T45 l0 x3_1).f2).length) = false := decide_eq_false (by omega)
          clear c36
          have H' := Aside0.mk H
          clear H
          try go_wp2
          have n0_ : Aside0 ((((w5.setCell ⟨gb167, 0, none⟩ (.string ((rd_T45 l0 x3_1).f0))).setCell ⟨gb167, 1, none⟩ (.bool (true))).setCell ⟨gb167, 2, none⟩ (.slice A166_2 ((rd_T45 l0 x3_1).f2).length c166_2)).heap[gb167]? = some (.cells #[.string ((rd_T45 l0 x3_1).f0), .bool true, .slice A166_2 ((rd_T45 l0 x3_1).f2).length c166_2] 45 (0, 0))) := ⟨by (with_reducible repeat (first | refine blk_drewN ?_ _ | refine blk_drew ?_ | refine blk_alloc ?_ _)); refine blk_put (cs := #[.string ((rd_T45 l0 x3_1).f0), .bool (true), .slice none 0 0]) ?_ 2 _ rfl; (with_reducible repeat (first | refine blk_drewN ?_ _ | refine blk_drew ?_ | refine blk_alloc ?_ _)); refine blk_put (cs := #[.string ((rd_T45 l0 x3_1).f0), .bool false, .slice none 0 0]) ?_ 1 _ rfl; (with_reducible repeat (first | refine blk_drewN ?_ _ | refine blk_drew ?_ | refine blk_alloc ?_ _)); refine blk_put (cs := #[.string (⟨#[]⟩ : ByteArray), .bool false, .slice none 0 0]) ?_ 0 _ rfl; (with_reducible repeat (first | refine blk_drewN ?_ _ | refine blk_drew ?_ | refine blk_alloc ?_ _)); exact BK167.out⟩
          have n1_ : Aside0 (Below w.heap.size w (((w5.setCell ⟨gb167, 0, none⟩ (.string ((rd_T45 l0 x3_1).f0))).setCell ⟨gb167, 1, none⟩ (.bool (true))).setCell ⟨gb167, 2, none⟩ (.slice A166_2 ((rd_T45 l0 x3_1).f2).length c166_2))) := ⟨by repeat (first | (with_reducible first | exact HB.out | apply below_alloc | apply pw_below_drewN | apply below_drew1 | refine below_set ?_ GE167.out) | exact HB.out)⟩
          (try clear BK167)
          (try clear HB)
          generalize (((w5.setCell ⟨gb167, 0, none⟩ (.string ((rd_T45 l0 x3_1).f0))).setCell ⟨gb167, 1, none⟩ (.bool (true))).setCell ⟨gb167, 2, none⟩ (.slice A166_2 ((rd_T45 l0 x3_1).f2).length c166_2)) = w40 at n0_ n1_ ⊢
          have BK167 := n0_
          have HB := n1_
          clear n0_ n1_
          have n0_ := xa_ (blk_drew BK167.out)
          have n1_ := xa_ (below_drew1 HB.out)
          clear BK167
          clear HB
          have BK167 := n0_
          have HB := n1_
          clear n0_ n1_
          refine start_ (n := 36) (S := fun w' => w'.cell? ⟨gb167, 0, none⟩ = some (.string ((rd_T45 l0 x3_1).f0)) ∧ w'.cell? ⟨gb167, 1, none⟩ = some (.bool true) ∧ w'.cell? ⟨gb167, 2, none⟩ = some (.slice A166_2 ((rd_T45 l0 x3_1).f2).length c166_2)) (ds := []) (bs_ 36 0x0) (by kernel_rfl) rfl rfl ⟨(blk_cell BK167.out 0).trans rfl, (blk_cell BK167.out 1).trans rfl, (blk_cell BK167.out 2).trans rfl⟩ (fun hHeld => ?_); refine with_tabW tallymanref7_GoodTree.tab5 tallymanref7_GoodTree.bits5 (fun HT_ HW_ => ?_)
          generalize w40.drew = w41 at BK167 HB hHeld ⊢
          refine pl_ [(0, some 18, 0x1), (1, some 19, 0x3)] ?_; iterate 2 (first | (refine pq_ (v := ?_) (a' := ?_) HT_.out rfl rfl (by kernel_rfl) (fun _ _ _ h => h) (Or.inl ⟨by rfl, ?_⟩) ?_ ?_; rotate_left; (intro w'; go_simp; with_reducible rfl); rotate_left; (simp only [nm_]; rfl)) | (refine tq_ (v := ?_) (a' := ?_) HT_.out HW_.out rfl rfl (by kernel_rfl) (fun _ _ _ h => h) (Or.inl ⟨by rfl, ?_⟩) hHeld ?_ ?_; rotate_left; (rintro w' ⟨s0, s1, s2⟩; go_simp; with_reducible rfl); rotate_left; (simp only [nm_]; rfl)))
          refine ql_ ?_
          refine one_ (i := 2) (N := some 20) (bs_ 36 0x7) rfl rfl (one_of HT_.out (by kernel_rfl)) (by decide) (fun K hK => ?_)
          refine goes_ Tryz.func49 (by kernel_rfl) rfl #[.string ((rd_T45 l0 x3_1).f0)] (by rfl) rfl rfl (by (try simp only [ca_]); first | done | rfl) ?_
          with_reducible refine (tallymanref7_Good.calls ((rd_T45 l0 x3_1).f0) true _ A7.out).mono ?_
          rintro e w42 ⟨rfl, hb⟩
          refine ⟨_, rfl, ?_⟩
          have n0_ := xa_ (blk_below (xb_ BK167.out) hb)
          have n1_ := xa_ (below_step (xw_ HB.out) hb)
          clear BK167
          clear HB
          have BK167 := n0_
          have HB := n1_
          clear n0_ n1_
          (try clear hb)
          (try clear hb2)
          (try clear hk)
          (try clear hi)
          refine hK.out _ _ ⟨(blk_cell BK167.out 0).trans rfl, (blk_cell BK167.out 1).trans rfl, (blk_cell BK167.out 2).trans rfl⟩ (fun hHeld => ?_)
          clear hK K
          refine norm_ (a' := ?_) ?_ ?_
          rotate_left
          ·show Act.put _ (some 20) _ = _
           simp only [nm_]
           rfl
          refine pl_ [(3, some 21, 0xf), (4, some 22, 0x1f), (5, some 23, 0x3f), (6, some 24, 0x7f), (7, some 25, 0xff), (8, some 26, 0x1ff), (9, some 27, 0x3ff), (10, some 28, 0x7ff), (11, some 29, 0xfff), (12, some 30, 0x1fff), (13, some 31, 0x3fff), (14, some 32, 0x7fff), (15, some 33, 0xffff), (16, some 34, 0x1ffff), (17, some 35, 0x3ffff), (18, some 36, 0x7ffff), (19, some 37, 0xfffff), (20, some 38, 0x1fffff), (21, some 39, 0x3fffff), (22, some 40, 0x7fffff), (23, some 41, 0xffffff), (24, some 42, 0x1ffffff), (25, some 43, 0x3ffffff), (26, some 44, 0x7ffffff), (27, some 45, 0xfffffff), (28, some 46, 0x1fffffff), (29, some 47, 0x3fffffff), (30, some 48, 0x7fffffff), (31, some 49, 0xffffffff), (32, some 50, 0x1ffffffff), (33, some 51, 0x3ffffffff), (34, some 52, 0x7ffffffff), (35, some 53, 0xfffffffff)] ?_; iterate 33 (first | (refine pq_ (v := undef) (a' := ?_) HT_.out rfl rfl (by kernel_rfl) (fun _ _ _ h => h) (Or.inr ⟨by rfl, rfl⟩) ?_ ?_; rotate_left; (simp only [nm_]; rfl)) | (refine pq_ (v := ?_) (a' := ?_) HT_.out rfl rfl (by kernel_rfl) (fun _ _ _ h => h) (Or.inl ⟨by rfl, ?_⟩) ?_ ?_; rotate_left; (intro w'; go_simp; with_reducible rfl); rotate_left; (simp only [nm_]; rfl)) | (refine tq_ (v := ?_) (a' := ?_) HT_.out HW_.out rfl rfl (by kernel_rfl) (fun _ _ _ h => h) (Or.inl ⟨by rfl, ?_⟩) hHeld ?_ ?_; rotate_left; (rintro w' ⟨s0, s1, s2⟩; go_simp; with_reducible rfl); rotate_left; (simp only [nm_]; rfl)))
          refine ql_ ?_
          refine done_ (done_of HT_.out (by kernel_rfl)) ?_
          try go_wp2
          go_meet
          case rel => (try rw [← Nbq34.out]); exact ⟨_, (decide ((((rd_T45 l0 x3_1).f2).length : Int) > 2048)), (by first | rfl | (simp; done) | (simp [*]; done)), H', ⟨by have := HK1.out; first | omega | exact Nat.le_refl _⟩, ⟨by (with_reducible repeat (first | refine blk_drewN ?_ _ | refine blk_drew ?_ | refine blk_alloc ?_ _)); exact BK167.out⟩, ⟨by repeat (first | (with_reducible first | exact HB.out | apply below_alloc | apply pw_below_drewN | apply below_drew1 | refine below_set ?_ GE167.out) | exact HB.out)⟩⟩
        ·replace c35 := Bool.eq_false_iff.mpr c35
         subst c35
         have H1 : (tallymanref7_GoodTree.j1 k1 l0 x3_1 (decide ((((rd_T45 l0 x3_1).f2).length : Int) > 2048)) ((rd_T45 l0 x3_1).f0) false ((rd_T45 l0 x3_1).f2)) = some r := by rw [if_neg (show ¬ (false = true) by decide)] at H; exact H
         clear H
         have H := H1
         clear H1
         have H' := Aside0.mk H
         clear H
         try go_wp2
         have n0_ : Aside0 ((((w5.setCell ⟨gb167, 0, none⟩ (.string ((rd_T45 l0 x3_1).f0))).setCell ⟨gb167, 1, none⟩ (.bool (false))).setCell ⟨gb167, 2, none⟩ (.slice A166_2 ((rd_T45 l0 x3_1).f2).length c166_2)).heap[gb167]? = some (.cells #[.string ((rd_T45 l0 x3_1).f0), .bool false, .slice A166_2 ((rd_T45 l0 x3_1).f2).length c166_2] 45 (0, 0))) := ⟨by (with_reducible repeat (first | refine blk_drewN ?_ _ | refine blk_drew ?_ | refine blk_alloc ?_ _)); refine blk_put (cs := #[.string ((rd_T45 l0 x3_1).f0), .bool (false), .slice none 0 0]) ?_ 2 _ rfl; (with_reducible repeat (first | refine blk_drewN ?_ _ | refine blk_drew ?_ | refine blk_alloc ?_ _)); refine blk_put (cs := #[.string ((rd_T45 l0 x3_1).f0), .bool false, .slice none 0 0]) ?_ 1 _ rfl; (with_reducible repeat (first | refine blk_drewN ?_ _ | refine blk_drew ?_ | refine blk_alloc ?_ _)); refine blk_put (cs := #[.string (⟨#[]⟩ : ByteArray), .bool false, .slice none 0 0]) ?_ 0 _ rfl; (with_reducible repeat (first | refine blk_drewN ?_ _ | refine blk_drew ?_ | refine blk_alloc ?_ _)); exact BK167.out⟩
         have n1_ : Aside0 (Below w.heap.size w (((w5.setCell ⟨gb167, 0, none⟩ (.string ((rd_T45 l0 x3_1).f0))).setCell ⟨gb167, 1, none⟩ (.bool (false))).setCell ⟨gb167, 2, none⟩ (.slice A166_2 ((rd_T45 l0 x3_1).f2).length c166_2))) := ⟨by repeat (first | (with_reducible first | exact HB.out | apply below_alloc | apply pw_below_drewN | apply below_drew1 | refine below_set ?_ GE167.out) | exact HB.out)⟩
         (try clear BK167)
         (try clear HB)
         generalize (((w5.setCell ⟨gb167, 0, none⟩ (.string ((rd_T45 l0 x3_1).f0))).setCell ⟨gb167, 1, none⟩ (.bool (false))).setCell ⟨gb167, 2, none⟩ (.slice A166_2 ((rd_T45 l0 x3_1).f2).length c166_2)) = w43 at n0_ n1_ ⊢
         have BK167 := n0_
         have HB := n1_
         clear n0_ n1_
         have n0_ := xa_ (blk_drew BK167.out)
         have n1_ := xa_ (below_drew1 HB.out)
         clear BK167
         clear HB
         have BK167 := n0_
         have HB := n1_
         clear n0_ n1_
         refine start_ (n := 36) (S := fun w' => w'.cell? ⟨gb167, 0, none⟩ = some (.string ((rd_T45 l0 x3_1).f0)) ∧ w'.cell? ⟨gb167, 1, none⟩ = some (.bool false) ∧ w'.cell? ⟨gb167, 2, none⟩ = some (.slice A166_2 ((rd_T45 l0 x3_1).f2).length c166_2)) (ds := []) (bs_ 36 0x0) (by kernel_rfl) rfl rfl ⟨(blk_cell BK167.out 0).trans rfl, (blk_cell BK167.out 1).trans rfl, (blk_cell BK167.out 2).trans rfl⟩ (fun hHeld => ?_); refine with_tabW tallymanref7_GoodTree.tab5 tallymanref7_GoodTree.bits5 (fun HT_ HW_ => ?_)
         generalize w43.drew = w44 at BK167 HB hHeld ⊢
         refine pl_ [(0, some 18, 0x1), (1, some 19, 0x3)] ?_; iterate 2 (first | (refine pq_ (v := ?_) (a' := ?_) HT_.out rfl rfl (by kernel_rfl) (fun _ _ _ h => h) (Or.inl ⟨by rfl, ?_⟩) ?_ ?_; rotate_left; (intro w'; go_simp; with_reducible rfl); rotate_left; (simp only [nm_]; rfl)) | (refine tq_ (v := ?_) (a' := ?_) HT_.out HW_.out rfl rfl (by kernel_rfl) (fun _ _ _ h => h) (Or.inl ⟨by rfl, ?_⟩) hHeld ?_ ?_; rotate_left; (rintro w' ⟨s0, s1, s2⟩; go_simp; with_reducible rfl); rotate_left; (simp only [nm_]; rfl)))
         refine ql_ ?_
         refine one_ (i := 2) (N := some 20) (bs_ 36 0x7) rfl rfl (one_of HT_.out (by kernel_rfl)) (by decide) (fun K hK => ?_)
         refine goes_ Tryz.func49 (by kernel_rfl) rfl #[.string ((rd_T45 l0 x3_1).f0)] (by rfl) rfl rfl (by (try simp only [ca_]); first | done | rfl) ?_
         with_reducible refine (tallymanref7_Good.calls ((rd_T45 l0 x3_1).f0) true _ A7.out).mono ?_
         rintro e w45 ⟨rfl, hb⟩
         refine ⟨_, rfl, ?_⟩
         have n0_ := xa_ (blk_below (xb_ BK167.out) hb)
         have n1_ := xa_ (below_step (xw_ HB.out) hb)
         clear BK167
         clear HB
         have BK167 := n0_
         have HB := n1_
         clear n0_ n1_
         (try clear hb)
         (try clear hb2)
         (try clear hk)
         (try clear hi)
         refine hK.out _ _ ⟨(blk_cell BK167.out 0).trans rfl, (blk_cell BK167.out 1).trans rfl, (blk_cell BK167.out 2).trans rfl⟩ (fun hHeld => ?_)
         clear hK K
         refine norm_ (a' := ?_) ?_ ?_
         rotate_left
         ·show Act.put _ (some 20) _ = _
          simp only [nm_]
          rfl
         refine pl_ [(3, some 21, 0xf), (4, some 22, 0x1f), (5, some 23, 0x3f), (6, some 24, 0x7f), (7, some 25, 0xff), (8, some 26, 0x1ff), (9, some 27, 0x3ff), (10, some 28, 0x7ff), (11, some 29, 0xfff), (12, some 30, 0x1fff), (13, some 31, 0x3fff), (14, some 32, 0x7fff), (15, some 33, 0xffff), (16, some 34, 0x1ffff), (17, some 35, 0x3ffff), (18, some 36, 0x7ffff), (19, some 37, 0xfffff), (20, some 38, 0x1fffff), (21, some 39, 0x3fffff), (22, some 40, 0x7fffff), (23, some 41, 0xffffff), (24, some 42, 0x1ffffff), (25, some 43, 0x3ffffff), (26, some 44, 0x7ffffff), (27, some 45, 0xfffffff), (28, some 46, 0x1fffffff), (29, some 47, 0x3fffffff), (30, some 48, 0x7fffffff), (31, some 49, 0xffffffff), (32, some 50, 0x1ffffffff), (33, some 51, 0x3ffffffff), (34, some 52, 0x7ffffffff), (35, some 53, 0xfffffffff)] ?_; iterate 33 (first | (refine pq_ (v := undef) (a' := ?_) HT_.out rfl rfl (by kernel_rfl) (fun _ _ _ h => h) (Or.inr ⟨by rfl, rfl⟩) ?_ ?_; rotate_left; (simp only [nm_]; rfl)) | (refine pq_ (v := ?_) (a' := ?_) HT_.out rfl rfl (by kernel_rfl) (fun _ _ _ h => h) (Or.inl ⟨by rfl, ?_⟩) ?_ ?_; rotate_left; (intro w'; go_simp; with_reducible rfl); rotate_left; (simp only [nm_]; rfl)) | (refine tq_ (v := ?_) (a' := ?_) HT_.out HW_.out rfl rfl (by kernel_rfl) (fun _ _ _ h => h) (Or.inl ⟨by rfl, ?_⟩) hHeld ?_ ?_; rotate_left; (rintro w' ⟨s0, s1, s2⟩; go_simp; with_reducible rfl); rotate_left; (simp only [nm_]; rfl)))
         refine ql_ ?_
         refine done_ (done_of HT_.out (by kernel_rfl)) ?_
         try go_wp2
         go_meet
         case rel => (try rw [← Nbq34.out]); exact ⟨_, (decide ((((rd_T45 l0 x3_1).f2).length : Int) > 2048)), (by first | rfl | (simp; done) | (simp [*]; done)), H', ⟨by have := HK1.out; first | omega | exact Nat.le_refl _⟩, ⟨by (with_reducible repeat (first | refine blk_drewN ?_ _ | refine blk_drew ?_ | refine blk_alloc ?_ _)); exact BK167.out⟩, ⟨by repeat (first | (with_reducible first | exact HB.out | apply below_alloc | apply pw_below_drewN | apply below_drew1 | refine below_set ?_ GE167.out) | exact HB.out)⟩⟩
      ·replace c8 := Bool.eq_false_iff.mpr c8
       subst c8
       have H1 : (tallymanref7_GoodTree.j1 k1 l0 x3_1 true ((rd_T45 l0 x3_1).f0) ((rd_T45 l0 x3_1).f1) ((rd_T45 l0 x3_1).f2)) = some r := by rw [if_neg (show ¬ (false = true) by decide)] at H; exact H
       clear H
       have H := H1
       clear H1
       have H' := Aside0.mk H
       clear H
       try go_wp2
       have n0_ : Aside0 ((((w5.setCell ⟨gb167, 0, none⟩ (.string ((rd_T45 l0 x3_1).f0))).setCell ⟨gb167, 1, none⟩ (.bool ((rd_T45 l0 x3_1).f1))).setCell ⟨gb167, 2, none⟩ (.slice A166_2 ((rd_T45 l0 x3_1).f2).length c166_2)).heap[gb167]? = some (.cells #[.string ((rd_T45 l0 x3_1).f0), .bool ((rd_T45 l0 x3_1).f1), .slice A166_2 ((rd_T45 l0 x3_1).f2).length c166_2] 45 (0, 0))) := ⟨by (with_reducible repeat (first | refine blk_drewN ?_ _ | refine blk_drew ?_ | refine blk_alloc ?_ _)); refine blk_put (cs := #[.string ((rd_T45 l0 x3_1).f0), .bool ((rd_T45 l0 x3_1).f1), .slice none 0 0]) ?_ 2 _ rfl; (with_reducible repeat (first | refine blk_drewN ?_ _ | refine blk_drew ?_ | refine blk_alloc ?_ _)); refine blk_put (cs := #[.string ((rd_T45 l0 x3_1).f0), .bool false, .slice none 0 0]) ?_ 1 _ rfl; (with_reducible repeat (first | refine blk_drewN ?_ _ | refine blk_drew ?_ | refine blk_alloc ?_ _)); refine blk_put (cs := #[.string (⟨#[]⟩ : ByteArray), .bool false, .slice none 0 0]) ?_ 0 _ rfl; (with_reducible repeat (first | refine blk_drewN ?_ _ | refine blk_drew ?_ | refine blk_alloc ?_ _)); exact BK167.out⟩
       have n1_ : Aside0 (Below w.heap.size w (((w5.setCell ⟨gb167, 0, none⟩ (.string ((rd_T45 l0 x3_1).f0))).setCell ⟨gb167, 1, none⟩ (.bool ((rd_T45 l0 x3_1).f1))).setCell ⟨gb167, 2, none⟩ (.slice A166_2 ((rd_T45 l0 x3_1).f2).length c166_2))) := ⟨by repeat (first | (with_reducible first | exact HB.out | apply below_alloc | apply pw_below_drewN | apply below_drew1 | refine below_set ?_ GE167.out) | exact HB.out)⟩
       (try clear BK167)
       (try clear HB)
       generalize (((w5.setCell ⟨gb167, 0, none⟩ (.string ((rd_T45 l0 x3_1).f0))).setCell ⟨gb167, 1, none⟩ (.bool ((rd_T45 l0 x3_1).f1))).setCell ⟨gb167, 2, none⟩ (.slice A166_2 ((rd_T45 l0 x3_1).f2).length c166_2)) = w46 at n0_ n1_ ⊢
       have BK167 := n0_
       have HB := n1_
       clear n0_ n1_
       have n0_ := xa_ (blk_drew BK167.out)
       have n1_ := xa_ (below_drew1 HB.out)
       clear BK167
       clear HB
       have BK167 := n0_
       have HB := n1_
       clear n0_ n1_
       refine start_ (n := 36) (S := fun w' => w'.cell? ⟨gb167, 0, none⟩ = some (.string ((rd_T45 l0 x3_1).f0)) ∧ w'.cell? ⟨gb167, 1, none⟩ = some (.bool ((rd_T45 l0 x3_1).f1)) ∧ w'.cell? ⟨gb167, 2, none⟩ = some (.slice A166_2 ((rd_T45 l0 x3_1).f2).length c166_2)) (ds := []) (bs_ 36 0x0) (by kernel_rfl) rfl rfl ⟨(blk_cell BK167.out 0).trans rfl, (blk_cell BK167.out 1).trans rfl, (blk_cell BK167.out 2).trans rfl⟩ (fun hHeld => ?_); refine with_tabW tallymanref7_GoodTree.tab5 tallymanref7_GoodTree.bits5 (fun HT_ HW_ => ?_)
       generalize w46.drew = w47 at BK167 HB hHeld ⊢
       refine pl_ [(0, some 18, 0x1), (1, some 19, 0x3)] ?_; iterate 2 (first | (refine pq_ (v := ?_) (a' := ?_) HT_.out rfl rfl (by kernel_rfl) (fun _ _ _ h => h) (Or.inl ⟨by rfl, ?_⟩) ?_ ?_; rotate_left; (intro w'; go_simp; with_reducible rfl); rotate_left; (simp only [nm_]; rfl)) | (refine tq_ (v := ?_) (a' := ?_) HT_.out HW_.out rfl rfl (by kernel_rfl) (fun _ _ _ h => h) (Or.inl ⟨by rfl, ?_⟩) hHeld ?_ ?_; rotate_left; (rintro w' ⟨s0, s1, s2⟩; go_simp; with_reducible rfl); rotate_left; (simp only [nm_]; rfl)))
       refine ql_ ?_
       refine one_ (i := 2) (N := some 20) (bs_ 36 0x7) rfl rfl (one_of HT_.out (by kernel_rfl)) (by decide) (fun K hK => ?_)
       refine goes_ Tryz.func49 (by kernel_rfl) rfl #[.string ((rd_T45 l0 x3_1).f0)] (by rfl) rfl rfl (by (try simp only [ca_]); first | done | rfl) ?_
       with_reducible refine (tallymanref7_Good.calls ((rd_T45 l0 x3_1).f0) false _ A7.out).mono ?_
       rintro e w48 ⟨rfl, hb⟩
       refine ⟨_, rfl, ?_⟩
       have n0_ := xa_ (blk_below (xb_ BK167.out) hb)
       have n1_ := xa_ (below_step (xw_ HB.out) hb)
       clear BK167
       clear HB
       have BK167 := n0_
       have HB := n1_
       clear n0_ n1_
       (try clear hb)
       (try clear hb2)
       (try clear hk)
       (try clear hi)
       refine hK.out _ _ ⟨(blk_cell BK167.out 0).trans rfl, (blk_cell BK167.out 1).trans rfl, (blk_cell BK167.out 2).trans rfl⟩ (fun hHeld => ?_)
       clear hK K
       refine norm_ (a' := ?_) ?_ ?_
       rotate_left
       ·show Act.put _ (some 20) _ = _
        simp only [nm_]
        rfl
       refine pl_ [(3, some 21, 0xf), (4, some 22, 0x1f), (5, some 23, 0x3f), (6, some 24, 0x7f), (7, some 25, 0xff), (8, some 26, 0x1ff), (9, some 27, 0x3ff), (10, some 28, 0x7ff), (11, some 29, 0xfff), (12, some 30, 0x1fff), (13, some 31, 0x3fff), (14, some 32, 0x7fff), (15, some 33, 0xffff), (16, some 34, 0x1ffff), (17, some 35, 0x3ffff), (18, some 36, 0x7ffff), (19, some 37, 0xfffff), (20, some 38, 0x1fffff), (21, some 39, 0x3fffff), (22, some 40, 0x7fffff), (23, some 41, 0xffffff), (24, some 42, 0x1ffffff), (25, some 43, 0x3ffffff), (26, some 44, 0x7ffffff), (27, some 45, 0xfffffff), (28, some 46, 0x1fffffff), (29, some 47, 0x3fffffff), (30, some 48, 0x7fffffff), (31, some 49, 0xffffffff), (32, some 50, 0x1ffffffff), (33, some 51, 0x3ffffffff), (34, some 52, 0x7ffffffff), (35, some 53, 0xfffffffff)] ?_; iterate 33 (first | (refine pq_ (v := undef) (a' := ?_) HT_.out rfl rfl (by kernel_rfl) (fun _ _ _ h => h) (Or.inr ⟨by rfl, rfl⟩) ?_ ?_; rotate_left; (simp only [nm_]; rfl)) | (refine pq_ (v := ?_) (a' := ?_) HT_.out rfl rfl (by kernel_rfl) (fun _ _ _ h => h) (Or.inl ⟨by rfl, ?_⟩) ?_ ?_; rotate_left; (intro w'; go_simp; with_reducible rfl); rotate_left; (simp only [nm_]; rfl)))
       refine ql_ ?_
       refine done_ (done_of HT_.out (by kernel_rfl)) ?_
       try go_wp2
       go_meet
       case rel => exact ⟨_, (true), (by first | rfl | (simp; done) | (simp [*]; done)), H', ⟨by have := HK1.out; first | omega | exact Nat.le_refl _⟩, ⟨by (with_reducible repeat (first | refine blk_drewN ?_ _ | refine blk_drew ?_ | refine blk_alloc ?_ _)); exact BK167.out⟩, ⟨by repeat (first | (with_reducible first | exact HB.out | apply below_alloc | apply pw_below_drewN | apply below_drew1 | refine below_set ?_ GE167.out) | exact HB.out)⟩⟩
     case rest =>
      clear HC4
      try clear c1
      try clear p2
      try clear c3
      try clear c4
      try clear c8
      try clear c16
      try clear c35
      obtain ⟨kq, x53_3, rfl, HA, HJ3, BK167, HB⟩ := hcut
      cases kq with
      | zero => exact absurd HA.out (by simp [tallymanref7_GoodTree.j1])
      | succ kj3 =>
       have H := HA.out
       clear HA
       simp only [tallymanref7_GoodTree.j1] at H
       by_cases c49 : x53_3 = true
       ·subst c49
        have H1 : (some false) = some r := by rw [if_pos rfl] at H; exact H
        clear H
        have H := H1
        clear H1
        obtain rfl := Option.some.inj H
        go_wp2
        go_ret
        exact ⟨by first | rfl | (simp [*, errW_none, errW_some] <;> rfl), by repeat (first | (with_reducible first | exact HB.out | apply below_alloc | apply pw_below_drewN | apply below_drew1 | refine below_set ?_ GE167.out) | exact HB.out)⟩
       ·replace c49 := Bool.eq_false_iff.mpr c49
        subst c49
        have H1 : ((tallymanref7_Up.f kj3 ((rd_T45 l0 x3_1).f0)).bind fun bt171 => ((tallymanref7_At.f kj3 l0 bt171.1).bind fun t173 => (if bt171.1.toList = ([] : List UInt8) then (tallymanref7_GoodTree.l0 kj3 l0 (wrap64 (x3_1 + 1))) else (if t173 < 0 then (some false) else (if 0 ≤ t173 then (if t173 < (l0.length : Int) then (if ((rd_T45 l0 t173).f1 = true) then (tallymanref7_GoodTree.l0 kj3 l0 (wrap64 (x3_1 + 1))) else (some false)) else (none)) else (none)))))) = some r := by rw [if_neg (show ¬ (false = true) by decide)] at H; exact H
        clear H
        have H := H1
        clear H1
        replace H := Option.bind_eq_some_iff.mp H
        obtain ⟨⟨t171, t172⟩, A500, H⟩ := H
        replace H : ((tallymanref7_At.f kj3 l0 t171).bind fun t173 => (if t171.toList = ([] : List UInt8) then (tallymanref7_GoodTree.l0 kj3 l0 (wrap64 (x3_1 + 1))) else (if t173 < 0 then (some false) else (if 0 ≤ t173 then (if t173 < (l0.length : Int) then (if ((rd_T45 l0 t173).f1 = true) then (tallymanref7_GoodTree.l0 kj3 l0 (wrap64 (x3_1 + 1))) else (some false)) else (none)) else (none))))) = some r := H
        have A50 := Aside0.mk A500
        clear A500
        replace H := Option.bind_eq_some_iff.mp H
        obtain ⟨t173, A510, H⟩ := H
        replace H : (if t171.toList = ([] : List UInt8) then (tallymanref7_GoodTree.l0 kj3 l0 (wrap64 (x3_1 + 1))) else (if t173 < 0 then (some false) else (if 0 ≤ t173 then (if t173 < (l0.length : Int) then (if ((rd_T45 l0 t173).f1 = true) then (tallymanref7_GoodTree.l0 kj3 l0 (wrap64 (x3_1 + 1))) else (some false)) else (none)) else (none)))) = some r := H
        have A51 := Aside0.mk A510
        clear A510
        by_cases c52 : t171.toList = ([] : List UInt8)
        ·rw [if_pos c52] at H
         have c52b0 : (t171.toList == ([] : List UInt8)) = true := beq_iff_eq.mpr c52
         have c52b1 : (t171.toList != ([] : List UInt8)) = false := bne_eq_false_iff_eq.mpr c52
         have c52b2 : t171.toList.isEmpty = true := by simpa using c52
         clear c52
         have H' := Aside0.mk H
         clear H
         have hcz53_0 : wc.cell? ⟨gb167, 0, none⟩ = some (.string ((rd_T45 l0 x3_1).f0)) := (blk_cell BK167.out 0).trans rfl
         have hcz53_1 : wc.cell? ⟨gb167, 1, none⟩ = some (.bool ((rd_T45 l0 x3_1).f1)) := (blk_cell BK167.out 1).trans rfl
         have hcz53_2 : wc.cell? ⟨gb167, 2, none⟩ = some (.slice A166_2 ((rd_T45 l0 x3_1).f2).length c166_2) := (blk_cell BK167.out 2).trans rfl
         have hfz53_0 := blk_frozen BK167.out 0
         have hfz53_1 := blk_frozen BK167.out 1
         have hfz53_2 := blk_frozen BK167.out 2
         go_wp2_with (first | ((with_reducible refine gate_callee (f := 62) rfl ?_); refine goesL_ (some 57) rfl rfl Tryz.func62 (by kernel_rfl) rfl #[.string ((rd_T45 l0 x3_1).f0)] rfl (by (try simp only [ca_]); first | done | rfl) ?_; (with_reducible refine (tallymanref7_Up.calls kj3 ((rd_T45 l0 x3_1).f0) t171 t172 _ A50.out).mono ?_); rintro e w54 ⟨rfl, hb⟩; refine ⟨_, rfl, ?_⟩; replace BK167 := xa_ (blk_below (xb_ BK167.out) hb); replace HB := xa_ (below_step (xw_ HB.out) hb); (try clear hb); (try clear hb2); (try clear hk); (try clear hi)) | ((with_reducible refine gate_callee (f := 51) rfl ?_); refine goesL_ (some 62) rfl rfl Tryz.func51 (by kernel_rfl) rfl #[.slice (some ad166) l0.length c0, .string t171] rfl (by (try simp only [ca_]); first | done | rfl) ?_; (with_reducible refine (tallymanref7_At.calls kj3 _ _ l0 t171 t173 _ ?side1 ?side2 A51.out).mono ?_); (case side1 => exact xC_ (Kd.C_below HR0.out HB.out)); (case side2 => exact HC0.out); rintro e w' ⟨rfl, ⟨nd, rfl⟩⟩; refine ⟨_, rfl, ?_⟩))
         go_roundg kj3
         case measure => have := HK1.out; have := HJ3.out; omega
         case rel => exact ⟨(wrap64 (x3_1 + 1)), (by first | rfl | (simp; done) | (simp [*]; done)), H', ⟨by have := HK1.out; have := HJ3.out; omega⟩, ⟨by repeat (first | (with_reducible first | exact HB.out | apply below_alloc | apply pw_below_drewN | apply below_drew1 | refine below_set ?_ GE167.out) | exact HB.out)⟩⟩
        ·rw [if_neg c52] at H
         have c52b0 : (t171.toList == ([] : List UInt8)) = false := beq_eq_false_iff_ne.mpr c52
         have c52b1 : (t171.toList != ([] : List UInt8)) = true := bne_iff_ne.mpr c52
         have c52b2 : t171.toList.isEmpty = false := by simpa using c52
         by_cases c55 : t173 < 0
         ·rw [if_pos c55] at H
          have c55b0 : decide (t173 < 0) = true := decide_eq_true c55
          clear c55
          obtain rfl := Option.some.inj H
          have hcz56_0 : wc.cell? ⟨gb167, 0, none⟩ = some (.string ((rd_T45 l0 x3_1).f0)) := (blk_cell BK167.out 0).trans rfl
          have hcz56_1 : wc.cell? ⟨gb167, 1, none⟩ = some (.bool ((rd_T45 l0 x3_1).f1)) := (blk_cell BK167.out 1).trans rfl
          have hcz56_2 : wc.cell? ⟨gb167, 2, none⟩ = some (.slice A166_2 ((rd_T45 l0 x3_1).f2).length c166_2) := (blk_cell BK167.out 2).trans rfl
          have hfz56_0 := blk_frozen BK167.out 0
          have hfz56_1 := blk_frozen BK167.out 1
          have hfz56_2 := blk_frozen BK167.out 2
          go_wp2_with (first | ((with_reducible refine gate_callee (f := 62) rfl ?_); refine goesL_ (some 57) rfl rfl Tryz.func62 (by kernel_rfl) rfl #[.string ((rd_T45 l0 x3_1).f0)] rfl (by (try simp only [ca_]); first | done | rfl) ?_; (with_reducible refine (tallymanref7_Up.calls kj3 ((rd_T45 l0 x3_1).f0) t171 t172 _ A50.out).mono ?_); rintro e w57 ⟨rfl, hb⟩; refine ⟨_, rfl, ?_⟩; replace BK167 := xa_ (blk_below (xb_ BK167.out) hb); replace HB := xa_ (below_step (xw_ HB.out) hb); (try clear hb); (try clear hb2); (try clear hk); (try clear hi)) | ((with_reducible refine gate_callee (f := 51) rfl ?_); refine goesL_ (some 62) rfl rfl Tryz.func51 (by kernel_rfl) rfl #[.slice (some ad166) l0.length c0, .string t171] rfl (by (try simp only [ca_]); first | done | rfl) ?_; (with_reducible refine (tallymanref7_At.calls kj3 _ _ l0 t171 t173 _ ?side1 ?side2 A51.out).mono ?_); (case side1 => exact xC_ (Kd.C_below HR0.out HB.out)); (case side2 => exact HC0.out); rintro e w' ⟨rfl, ⟨nd, rfl⟩⟩; refine ⟨_, rfl, ?_⟩))
          go_ret
          exact ⟨by first | rfl | (simp [*, errW_none, errW_some] <;> rfl), by repeat (first | (with_reducible first | exact HB.out | apply below_alloc | apply pw_below_drewN | apply below_drew1 | refine below_set ?_ GE167.out) | exact HB.out)⟩
         ·rw [if_neg c55] at H
          have c55b0 : decide (t173 < 0) = false := decide_eq_false c55
          clear c55
          by_cases c58 : 0 ≤ t173
          ·rw [if_pos c58] at H
           have c58b0 : decide (0 ≤ t173) = true := decide_eq_true c58
           clear c58
           by_cases c59 : t173 < (l0.length : Int)
           ·rw [if_pos c59] at H
            have c59b0 : decide (t173 < (l0.length : Int)) = true := decide_eq_true c59
            clear c59
            obtain ⟨bq60, hbq60⟩ : ∃ b_ : Bool, b_ = ((rd_T45 l0 t173).f1) := ⟨_, rfl⟩
            replace H : (if (bq60 = true) then (tallymanref7_GoodTree.l0 kj3 l0 (wrap64 (x3_1 + 1))) else (some false)) = some r := by rw [← hbq60] at H; exact H
            (try rw [← hbq60])
            have Nbq60 := Aside0.mk hbq60
            clear hbq60
            by_cases c61 : (bq60 = true)
            ·subst c61
             have H1 : (tallymanref7_GoodTree.l0 kj3 l0 (wrap64 (x3_1 + 1))) = some r := by rw [if_pos rfl] at H; exact H
             clear H
             have H := H1
             clear H1
             have H' := Aside0.mk H
             clear H
             have hcz62_0 : wc.cell? ⟨gb167, 0, none⟩ = some (.string ((rd_T45 l0 x3_1).f0)) := (blk_cell BK167.out 0).trans rfl
             have hcz62_1 : wc.cell? ⟨gb167, 1, none⟩ = some (.bool ((rd_T45 l0 x3_1).f1)) := (blk_cell BK167.out 1).trans rfl
             have hcz62_2 : wc.cell? ⟨gb167, 2, none⟩ = some (.slice A166_2 ((rd_T45 l0 x3_1).f2).length c166_2) := (blk_cell BK167.out 2).trans rfl
             have hfz62_0 := blk_frozen BK167.out 0
             have hfz62_1 := blk_frozen BK167.out 1
             have hfz62_2 := blk_frozen BK167.out 2
             go_wp2_with (first | ((with_reducible refine gate_callee (f := 62) rfl ?_); refine goesL_ (some 57) rfl rfl Tryz.func62 (by kernel_rfl) rfl #[.string ((rd_T45 l0 x3_1).f0)] rfl (by (try simp only [ca_]); first | done | rfl) ?_; (with_reducible refine (tallymanref7_Up.calls kj3 ((rd_T45 l0 x3_1).f0) t171 t172 _ A50.out).mono ?_); rintro e w63 ⟨rfl, hb⟩; refine ⟨_, rfl, ?_⟩; replace BK167 := xa_ (blk_below (xb_ BK167.out) hb); replace HB := xa_ (below_step (xw_ HB.out) hb); (try clear hb); (try clear hb2); (try clear hk); (try clear hi)) | ((with_reducible refine gate_callee (f := 51) rfl ?_); refine goesL_ (some 62) rfl rfl Tryz.func51 (by kernel_rfl) rfl #[.slice (some ad166) l0.length c0, .string t171] rfl (by (try simp only [ca_]); first | done | rfl) ?_; (with_reducible refine (tallymanref7_At.calls kj3 _ _ l0 t171 t173 _ ?side1 ?side2 A51.out).mono ?_); (case side1 => exact xC_ (Kd.C_below HR0.out HB.out)); (case side2 => exact HC0.out); rintro e w' ⟨rfl, ⟨nd, rfl⟩⟩; refine ⟨_, rfl, ?_⟩; have p174 : 0 ≤ (t173 : Int) := of_decide_eq_true (by first | (with_reducible assumption) | assumption); have q174 : t173 < (l0.length : Int) := of_decide_eq_true (by first | (with_reducible assumption) | assumption); obtain ⟨ad174, A174_2, c174_2, e174, hx174_0, hx174_1, hx174_2, hl174_2, hi174_2⟩ := at_T45 HR0.out t173 p174 q174; (try rw [← Nbq60.out] at hx174_1); obtain rfl : ad166 = ad174 := (by injection e174); replace hx174_0 := (HB.out.cell (World.block_lt_of_cell? w _ hx174_0)).trans hx174_0; replace hx174_1 := (HB.out.cell (World.block_lt_of_cell? w _ hx174_1)).trans hx174_1; replace hx174_2 := (HB.out.cell (World.block_lt_of_cell? w _ hx174_2)).trans hx174_2; have HR174_2 := Aside0.mk hi174_2; have HC174_2 := Aside0.mk hl174_2; clear hi174_2 hl174_2; replace p174 := eq_true p174; replace q174 := eq_true q174))
             go_roundg kj3
             case measure => have := HK1.out; have := HJ3.out; omega
             case rel => (try rw [← Nbq60.out]); exact ⟨(wrap64 (x3_1 + 1)), (by first | rfl | (simp; done) | (simp [*]; done)), H', ⟨by have := HK1.out; have := HJ3.out; omega⟩, ⟨by repeat (first | (with_reducible first | exact HB.out | apply below_alloc | apply pw_below_drewN | apply below_drew1 | refine below_set ?_ GE167.out) | exact HB.out)⟩⟩
            ·replace c61 := Bool.eq_false_iff.mpr c61
             subst c61
             have H1 : (some false) = some r := by rw [if_neg (show ¬ (false = true) by decide)] at H; exact H
             clear H
             have H := H1
             clear H1
             obtain rfl := Option.some.inj H
             have hcz64_0 : wc.cell? ⟨gb167, 0, none⟩ = some (.string ((rd_T45 l0 x3_1).f0)) := (blk_cell BK167.out 0).trans rfl
             have hcz64_1 : wc.cell? ⟨gb167, 1, none⟩ = some (.bool ((rd_T45 l0 x3_1).f1)) := (blk_cell BK167.out 1).trans rfl
             have hcz64_2 : wc.cell? ⟨gb167, 2, none⟩ = some (.slice A166_2 ((rd_T45 l0 x3_1).f2).length c166_2) := (blk_cell BK167.out 2).trans rfl
             have hfz64_0 := blk_frozen BK167.out 0
             have hfz64_1 := blk_frozen BK167.out 1
             have hfz64_2 := blk_frozen BK167.out 2
             go_wp2_with (first | ((with_reducible refine gate_callee (f := 62) rfl ?_); refine goesL_ (some 57) rfl rfl Tryz.func62 (by kernel_rfl) rfl #[.string ((rd_T45 l0 x3_1).f0)] rfl (by (try simp only [ca_]); first | done | rfl) ?_; (with_reducible refine (tallymanref7_Up.calls kj3 ((rd_T45 l0 x3_1).f0) t171 t172 _ A50.out).mono ?_); rintro e w65 ⟨rfl, hb⟩; refine ⟨_, rfl, ?_⟩; replace BK167 := xa_ (blk_below (xb_ BK167.out) hb); replace HB := xa_ (below_step (xw_ HB.out) hb); (try clear hb); (try clear hb2); (try clear hk); (try clear hi)) | ((with_reducible refine gate_callee (f := 51) rfl ?_); refine goesL_ (some 62) rfl rfl Tryz.func51 (by kernel_rfl) rfl #[.slice (some ad166) l0.length c0, .string t171] rfl (by (try simp only [ca_]); first | done | rfl) ?_; (with_reducible refine (tallymanref7_At.calls kj3 _ _ l0 t171 t173 _ ?side1 ?side2 A51.out).mono ?_); (case side1 => exact xC_ (Kd.C_below HR0.out HB.out)); (case side2 => exact HC0.out); rintro e w' ⟨rfl, ⟨nd, rfl⟩⟩; refine ⟨_, rfl, ?_⟩; have p174 : 0 ≤ (t173 : Int) := of_decide_eq_true (by first | (with_reducible assumption) | assumption); have q174 : t173 < (l0.length : Int) := of_decide_eq_true (by first | (with_reducible assumption) | assumption); obtain ⟨ad174, A174_2, c174_2, e174, hx174_0, hx174_1, hx174_2, hl174_2, hi174_2⟩ := at_T45 HR0.out t173 p174 q174; (try rw [← Nbq60.out] at hx174_1); obtain rfl : ad166 = ad174 := (by injection e174); replace hx174_0 := (HB.out.cell (World.block_lt_of_cell? w _ hx174_0)).trans hx174_0; replace hx174_1 := (HB.out.cell (World.block_lt_of_cell? w _ hx174_1)).trans hx174_1; replace hx174_2 := (HB.out.cell (World.block_lt_of_cell? w _ hx174_2)).trans hx174_2; have HR174_2 := Aside0.mk hi174_2; have HC174_2 := Aside0.mk hl174_2; clear hi174_2 hl174_2; replace p174 := eq_true p174; replace q174 := eq_true q174))
             go_ret
             exact ⟨by first | rfl | (simp [*, errW_none, errW_some] <;> rfl), by repeat (first | (with_reducible first | exact HB.out | apply below_alloc | apply pw_below_drewN | apply below_drew1 | refine below_set ?_ GE167.out) | exact HB.out)⟩
           ·rw [if_neg c59] at H
            exact absurd H (by simp)
          ·rw [if_neg c58] at H
           exact absurd H (by simp)
    ·rw [if_neg c3] at H
     exact absurd H (by simp)
   ·rw [if_neg c2] at H
    have c2b0 : decide (x3_1 < (l0.length : Int)) = false := decide_eq_false c2
    clear c2
    by_cases c66 : (l0.length : Int) ≤ 40
    ·rw [if_pos c66] at H
     have c66b0 : decide ((l0.length : Int) ≤ 40) = true := decide_eq_true c66
     have c66b1 : decide (l0.length ≤ 40) = true := decide_eq_true (by omega)
     clear c66
     replace H := Option.bind_eq_some_iff.mp H
     obtain ⟨t165, A670, H⟩ := H
     replace H : (some (decide (t165 ≤ 16384))) = some r := H
     have A67 := Aside0.mk A670
     clear A670
     obtain rfl := Option.some.inj H
     go_wp2_with (first | (go_at_call 23; (with_reducible refine (tallymanref7_Bytes.calls k1 _ _ l0 t165 _ ?side1 ?side2 A67.out).mono ?_); (case side1 => exact xC_ (Kd.C_below HR0.out HB.out)); (case side2 => exact HC0.out); rintro e w' ⟨rfl, ⟨nd, rfl⟩⟩))
     go_ret
     exact ⟨by first | rfl | (simp [*, errW_none, errW_some] <;> rfl), by repeat (first | (with_reducible first | exact HB.out | apply below_alloc | apply pw_below_drewN | apply below_drew1) | exact HB.out)⟩
    ·rw [if_neg c66] at H
     have c66b0 : decide ((l0.length : Int) ≤ 40) = false := decide_eq_false c66
     have c66b1 : decide (l0.length ≤ 40) = false := decide_eq_false (by omega)
     clear c66
     obtain rfl := Option.some.inj H
     go_wp2
     go_ret
     exact ⟨by first | rfl | (simp [*, errW_none, errW_some] <;> rfl), by repeat (first | (with_reducible first | exact HB.out | apply below_alloc | apply pw_below_drewN | apply below_drew1) | exact HB.out)⟩
end Go.Proofs.YtidlldfghkaeeaaGreatDoor.P
