/- Put together by pack2.py: PfTallymanlaw8TreeSays -/
import Derived.Test.YtidlldfghkaeeaaDoorZsRefNamesEtc
import Derived.Test.YtidlldfghkaeeaaDoorZsPfTallymanlaw8OwnEtc
import Derived.Test.YtidlldfghkaeeaaDoorZsPfTallymanref7InsideEtc
import Derived.Test.YtidlldfghkaeeaaDoorZsPfTallymanref7GoodTree
import Derived.Test.YtidlldfghkaeeaaDoorZsPfTallymanref7MakeEtc
import Derived.Test.YtidlldfghkaeeaaDoorZsPfTreeBytesEtc
import Derived.Test.YtidlldfghkaeeaaDoorZsPfTreeMakeEtc
import Derived.Test.YtidlldfghkaeeaaDoorZsDelEEtc
import Derived.Test.YtidlldfghkaeeaaDoorZsTreeCln
import Derived.Test.YtidlldfghkaeeaaDoorZsTreeOk
import Derived.Test.YtidlldfghkaeeaaDoorZsW0
namespace Go.Proofs.YtidlldfghkaeeaaDoor.P
open Go.RowKit Go.Proofs.YtidlldfghkaeeaaDoorW.PrintWords Go.Proofs.YtidlldfghkaeeaaDoorW.PrintLast Go.Proofs.YtidlldfghkaeeaaDoorW.PrintMore
attribute [local go_sem] max2_int min2_int max_two min_two max_three min_three max_four min_four   -- for this text's walks alone
set_option linter.unusedVariables false
set_option linter.unusedSimpArgs false
section
variable {W0 W W1 : World} [h0 : Ex W0 W]
theorem yb_ {g : Nat} {o : Obj} (h : Aside0 (W0.heap[g]? = some o)) (hb : Below W.heap.size W W1) : Aside0 (W1.heap[g]? = some o) := ⟨blk_below (xb_ h.out) hb⟩
theorem yN_ {α : Type} {d : Kd α} {e : TypeId} {B : Nat} {ok : Nat → Prop} {v : Value} {xs : List α} (h : Aside0 (Kd.N d e W0 B ok v xs)) (hb : Below W.heap.size W W1) : Aside0 (Kd.N d e W1 B ok v xs) := ⟨Kd.N_below (xN_ h.out) hb⟩
theorem yV_ {α : Type} {d : Kd α} {e : TypeId} {B : Nat} {ok : Nat → Prop} {v : Value} {xs : List α} (h : Aside0 (Kd.V d e W0 B ok v xs)) (hb : Below W.heap.size W W1) : Aside0 (Kd.V d e W1 B ok v xs) := ⟨Kd.V_below (xV_ h.out) hb⟩
end
/-! ### tallymanlaw8_TreeSays: function 5 -/
mutual
def tallymanlaw8_TreeSays.j0 : Nat → List (S30) → List (S30) → ByteArray → Bool → Option (Bool)
 | 0, _, _, _, _ => none
 | k + 1, x0, x1, x2, x33 => if x33 = true then (some true) else (tallymanlaw8_TreeSays.l0 k x0 x1 x2 0 x0 x1)
def tallymanlaw8_TreeSays.l0 : Nat → List (S30) → List (S30) → ByteArray → Int → List (S30) → List (S30) → Option (Bool)
 | 0, _, _, _, _, _, _ => none
 | k + 1, x0, x1, x2, x9, x_p, x_q => if x9 < (x0.length : Int) then (if 0 ≤ x9 then (if (((rd_T30 x0 x9).f0).size : Int) > 100 then (some true) else (if (((rd_T30 x0 x9).f2).length : Int) > 3000 then (some true) else (tallymanlaw8_TreeSays.l0 k x0 x1 x2 (wrap64 (x9 + 1)) x_p x_q))) else (none)) else (tallymanlaw8_TreeSays.l1 k x1 x2 0 x_p x_q)
def tallymanlaw8_TreeSays.l1 : Nat → List (S30) → ByteArray → Int → List (S30) → List (S30) → Option (Bool)
 | 0, _, _, _, _, _ => none
 | k + 1, x1, x2, x10, x_p, x_q => if x10 < (x1.length : Int) then (if 0 ≤ x10 then (if (((rd_T30 x1 x10).f0).size : Int) > 100 then (some true) else (if (((rd_T30 x1 x10).f2).length : Int) > 3000 then (some true) else (tallymanlaw8_TreeSays.l1 k x1 x2 (wrap64 (x10 + 1)) x_p x_q))) else (none)) else ((tallymanlaw8_own.f k x_p).bind fun t255 => ((tallymanlaw8_own.f k x_q).bind fun t258 => ((tallymanref7_GoodTree.f k t255).bind fun t261 => ((tree_Make.f x_p x2).bind fun bt262 => ((tallymanref7_Make.f k t255 x2).bind fun bt267 => (if t261 = true then ((tallymanref7_Bytes.f k t255).bind fun t271 => (tallymanlaw8_TreeSays.j3 k t255 t258 t261 bt262.2 bt267.1 bt267.2 t271 x_p x_q bt262.1)) else (tallymanlaw8_TreeSays.j3 k t255 t258 t261 bt262.2 bt267.1 bt267.2 0 x_p x_q bt262.1)))))))
def tallymanlaw8_TreeSays.j3 : Nat → List (S94) → List (S94) → Bool → Int → List (S94) → Int → Int → List (S30) → List (S30) → List (S30) → Option (Bool)
 | 0, _, _, _, _, _, _, _, _, _, _ => none
 | k + 1, x11, x12, x13, x15, x16, x17, x18, x_p, x_q, x_r => (tree_Good.f x_p).bind fun t272 => (if (t272 == x13) = true then ((tree_Same.f x_p x_q).bind fun t273 => (if x13 = true then ((tallymanref7_GoodTree.f k x12).bind fun t274 => (if t274 = true then ((tallymanref7_Alike.f k x11 x12).bind fun t275 => (if (t273 == t275) = true then (if x15 = x17 then ((tallymanlaw8_own.f k x_r).bind fun t276 => ((tallymanref7_Alike.f k t276 x16).bind fun t279 => (if t279 = true then ((tree_Bytes.f k x_p).bind fun t280 => (if t280 = x18 then ((tree_Clean.f x_p).bind fun t281 => ((tallymanlaw8_own.f k t281).bind fun t284 => ((tallymanref7_Clean.f k x11).bind fun t287 => ((tallymanref7_Alike.f k t284 t287).bind fun t290 => (some t290))))) else (some false))) else (some false)))) else (some false)) else (some false))) else (if (t273 == false) = true then (if x15 = x17 then ((tallymanlaw8_own.f k x_r).bind fun t291 => ((tallymanref7_Alike.f k t291 x16).bind fun t294 => (if t294 = true then ((tree_Bytes.f k x_p).bind fun t295 => (if t295 = x18 then ((tree_Clean.f x_p).bind fun t296 => ((tallymanlaw8_own.f k t296).bind fun t299 => ((tallymanref7_Clean.f k x11).bind fun t302 => ((tallymanref7_Alike.f k t299 t302).bind fun t305 => (some t305))))) else (some false))) else (some false)))) else (some false)) else (some false)))) else (if (t273 == false) = true then (if x15 = x17 then ((tallymanlaw8_own.f k x_r).bind fun t306 => ((tallymanref7_Alike.f k t306 x16).bind fun t309 => (if t309 = true then ((tree_Bytes.f k x_p).bind fun t310 => (if t310 = x18 then ((tree_Clean.f x_p).bind fun t311 => ((tallymanlaw8_own.f k t311).bind fun t314 => ((tallymanref7_Clean.f k x11).bind fun t317 => ((tallymanref7_Alike.f k t314 t317).bind fun t320 => (some t320))))) else (some false))) else (some false)))) else (some false)) else (some false)))) else (some false))
end
def tallymanlaw8_TreeSays.f (k : Nat) (l0 : List (S30)) (l1 : List (S30)) (a2 : ByteArray) : Option (Bool) := (tallymanlaw8_awake.f).bind fun t248 => (if t248 = true then (if (l0.length : Int) > 60 then (tallymanlaw8_TreeSays.j0 k l0 l1 a2 true) else (if (l1.length : Int) > 60 then (tallymanlaw8_TreeSays.j0 k l0 l1 a2 true) else (tallymanlaw8_TreeSays.j0 k l0 l1 a2 (decide ((a2.size : Int) > 100))))) else (some false))
set_option maxHeartbeats 8000000 in
set_option maxRecDepth 100000 in
theorem tallymanlaw8_TreeSays.calls (k : Nat) (A0 : Option Addr) (c0 : Nat) (l0 : List (S30)) (A1 : Option Addr) (c1 : Nat) (l1 : List (S30)) (a2 : ByteArray) (r : Bool) (w : World) (hr0 : Kd.C k30 w A0 l0.length l0) (hc0 : l0.length ≤ c0) (hr1 : Kd.C k30 w A1 l1.length l1) (hc1 : l1.length ≤ c1) (h : tallymanlaw8_TreeSays.f k l0 l1 a2 = some r) (hr_ : r = true) :
  Calls Tryd.prog 5 #[.slice A0 l0.length c0, .slice A1 l1.length c1, .string a2] w fun e w' => e = .returned (.bool r) ∧ Below w.heap.size w w' := by
 have HT_ := xa_ hr_
 clear hr_
 have hu26 := Tryd.underlying26
 have HR0 := xa_ hr0
 have HC0 := xa_ hc0
 clear hr0 hc0
 have HR1 := xa_ hr1
 have HC1 := xa_ hc1
 clear hr1 hc1
 have HB := xa_ (Below.refl w.heap.size w)
 have H : ((tallymanlaw8_awake.f).bind fun t248 => (if t248 = true then (if (l0.length : Int) > 60 then (tallymanlaw8_TreeSays.j0 k l0 l1 a2 true) else (if (l1.length : Int) > 60 then (tallymanlaw8_TreeSays.j0 k l0 l1 a2 true) else (tallymanlaw8_TreeSays.j0 k l0 l1 a2 (decide ((a2.size : Int) > 100))))) else (some false))) = some r := h
 clear h
 replace H := Option.bind_eq_some_iff.mp H
 obtain ⟨t248, A40, H⟩ := H
 replace H : (if t248 = true then (if (l0.length : Int) > 60 then (tallymanlaw8_TreeSays.j0 k l0 l1 a2 true) else (if (l1.length : Int) > 60 then (tallymanlaw8_TreeSays.j0 k l0 l1 a2 true) else (tallymanlaw8_TreeSays.j0 k l0 l1 a2 (decide ((a2.size : Int) > 100))))) else (some false)) = some r := H
 have A4 := xa_ A40
 clear A40
 by_cases c5 : t248 = true
 ·subst c5
  have H1 : (if (l0.length : Int) > 60 then (tallymanlaw8_TreeSays.j0 k l0 l1 a2 true) else (if (l1.length : Int) > 60 then (tallymanlaw8_TreeSays.j0 k l0 l1 a2 true) else (tallymanlaw8_TreeSays.j0 k l0 l1 a2 (decide ((a2.size : Int) > 100))))) = some r := by rw [if_pos rfl] at H; exact H
  clear H
  have H := H1
  clear H1
  have HC6 := xa_ H
  clear H
  go_enter Tryd.func5, Tryd.ntmps5
  go_upto_region 3 with (first | ((with_reducible refine gate_callee (f := 13) rfl ?_); refine goesL_ (some 19) rfl rfl Tryd.func13 (by kernel_rfl) rfl #[] rfl (by (try simp only [List.map_toArray, List.map_cons, List.map_nil]); first | done | rfl | (simp only [List.length_drop, List.length_take]; rfl)) ?_; (with_reducible refine (tallymanlaw8_awake.calls  true _ A4.out).mono ?_); rintro e w7 ⟨rfl, hb⟩; refine ⟨_, rfl, ?_⟩; replace HB := xa_ (below_step (by repeat (first | (with_reducible first | exact HB.out | apply below_alloc | apply pw_below_drewN | apply below_drew1) | exact HB.out)) hb); (try clear hb)))
  (try simp only [Act.put, List.setIfInBounds_toArray, List.set_cons_zero, List.set_cons_succ])
  go_cut [33] (fun v33 wc => ∃ (kq : Nat) (x33_5 : Bool), v33 = .bool x33_5 ∧ Aside0 (tallymanlaw8_TreeSays.j0 kq l0 l1 a2 x33_5 = some r) ∧ Aside0 (kq ≤ k) ∧ Aside0 (Below w.heap.size w wc))
  case first =>
   have H := HC6.out
   clear HC6
   by_cases c8 : (l0.length : Int) > 60
   ·rw [if_pos c8] at H
    have c8b0 : decide (60 < (l0.length : Int)) = true := decide_eq_true c8
    have c8b1 : decide (60 < l0.length) = true := decide_eq_true (by omega)
    clear c8
    (first | rw [c8b0] | (simp only [i64_w, i32_w]; rw [c8b0]) | skip)
    have H' := xa_ H
    clear H
    go_wp2
    go_meet
    case rel => exact ⟨_, (true), (by first | rfl | (simp; done) | (simp [*]; done)), H', ⟨by first | omega | exact Nat.le_refl _⟩, ⟨by repeat (with_reducible first | exact HB.out | apply below_alloc | apply pw_below_drewN | apply below_drew1)⟩⟩
   ·rw [if_neg c8] at H
    have c8b0 : decide (60 < (l0.length : Int)) = false := decide_eq_false c8
    have c8b1 : decide (60 < l0.length) = false := decide_eq_false (by omega)
    clear c8
    (first | rw [c8b0] | (simp only [i64_w, i32_w]; rw [c8b0]) | skip)
    by_cases c9 : (l1.length : Int) > 60
    ·rw [if_pos c9] at H
     have c9b0 : decide (60 < (l1.length : Int)) = true := decide_eq_true c9
     have c9b1 : decide (60 < l1.length) = true := decide_eq_true (by omega)
     clear c9
     have H' := xa_ H
     clear H
     go_wp2
     go_meet
     case rel => exact ⟨_, (true), (by first | rfl | (simp; done) | (simp [*]; done)), H', ⟨by first | omega | exact Nat.le_refl _⟩, ⟨by repeat (with_reducible first | exact HB.out | apply below_alloc | apply pw_below_drewN | apply below_drew1)⟩⟩
    ·rw [if_neg c9] at H
     have c9b0 : decide (60 < (l1.length : Int)) = false := decide_eq_false c9
     have c9b1 : decide (60 < l1.length) = false := decide_eq_false (by omega)
     clear c9
     have H' := xa_ H
     clear H
     go_wp2
     go_meet
     case rel => exact ⟨_, (decide ((a2.size : Int) > 100)), (by first | rfl | (simp; done) | (simp [*]; done)), H', ⟨by first | omega | exact Nat.le_refl _⟩, ⟨by repeat (with_reducible first | exact HB.out | apply below_alloc | apply pw_below_drewN | apply below_drew1)⟩⟩
  case rest =>
   clear HC6
   try clear c1
   try clear p2
   try clear c5
   try clear c8
   try clear c8b0
   try clear c8b1
   try clear c9
   try clear c9b0
   try clear c9b1
   obtain ⟨kq, x33_5, rfl, HA, HJ5, HB⟩ := hcut
   cases kq with
   | zero => exact absurd HA.out (by simp [tallymanlaw8_TreeSays.j0])
   | succ kj5 =>
    have H := HA.out
    clear HA
    simp only [tallymanlaw8_TreeSays.j0] at H
    by_cases c10 : x33_5 = true
    ·subst c10
     have H1 : (some true) = some r := by rw [if_pos rfl] at H; exact H
     clear H
     have H := H1
     clear H1
     obtain rfl := Option.some.inj H
     go_wp2
     go_ret
     exact ⟨by first | rfl | (simp [errW_none, errW_some] <;> rfl) | (simp [*, errW_none, errW_some] <;> rfl), by repeat (with_reducible first | exact HB.out | apply below_alloc | apply pw_below_drewN | apply below_drew1)⟩
    ·replace c10 := Bool.eq_false_iff.mpr c10
     subst c10
     have H1 : (tallymanlaw8_TreeSays.l0 kj5 l0 l1 a2 0 l0 l1) = some r := by rw [if_neg (show ¬ (false = true) by decide)] at H; exact H
     clear H
     have H := H1
     clear H1
     have H' := xa_ H
     clear H
     go_wp2_with (first | ((with_reducible refine gate_dst (N := 7) rfl ?_); (try (refine gate_guard (by rfl) ?_; dsimp only)); refine box_event ?hg (N := 7) ?hd (cs := #[.slice none 0 0]) (t := 26) ?hr ?_; (case hd => rfl); (case hg => rfl); (case hr => first | (go_simp; done) | (go_simp; rfl)); intro gb249 hg w11 hbox hb; have n0_ := xa_ (below_step (by repeat (with_reducible first | exact HB.out | apply below_alloc | apply pw_below_drewN | apply below_drew1)) hb); have n1_ := xa_ (hbox); have n2_ := xa_ ((by rw [hg]; exact (below_size (by repeat (with_reducible first | exact HB.out | apply below_alloc | apply pw_below_drewN | apply below_drew1))) : w.heap.size ≤ gb249)); have n3_ := xa_ ((by rw [hg]; exact (below_size (by repeat (with_reducible first | exact HB.out | apply below_alloc | apply pw_below_drewN | apply below_drew1))) : w.heap.size ≤ gb249)); clear HB; have HB := n0_; have BK249 := n1_; have GW249 := n2_; have GE249 := n3_; clear n0_ n1_ n2_ n3_; clear hb hbox hg) | ((with_reducible refine gate_dst (N := 8) rfl ?_); (try (refine gate_guard (by rfl) ?_; dsimp only)); refine box_event ?hg (N := 8) ?hd (cs := #[.slice none 0 0]) (t := 26) ?hr ?_; (case hd => rfl); (case hg => rfl); (case hr => first | (go_simp; done) | (go_simp; rfl)); intro gb250 hg w12 hbox hb; have n0_ := yb_ BK249 hb; have n1_ := xa_ (below_step (by repeat (with_reducible first | exact HB.out | apply below_alloc | apply pw_below_drewN | apply below_drew1 | refine below_set ?_ GE249.out)) hb); have n2_ := xa_ (hbox); have n3_ := xa_ ((by rw [hg]; exact (below_size (by repeat (with_reducible first | exact HB.out | apply below_alloc | apply pw_below_drewN | apply below_drew1 | refine below_set ?_ GE249.out))) : w.heap.size ≤ gb250)); have n4_ := xa_ ((by rw [hg]; exact (below_size (by repeat (with_reducible first | exact HB.out | apply below_alloc | apply pw_below_drewN | apply below_drew1 | refine below_set ?_ GE249.out))) : w.heap.size ≤ gb250)); have n5_ := xa_ ((by rw [hg]; exact Nat.ne_of_lt (blk_lt (xb_ BK249.out)) : gb249 ≠ gb250)); have n6_ := xa_ ((by rw [hg]; exact Nat.ne_of_gt (blk_lt (xb_ BK249.out)) : gb250 ≠ gb249)); clear BK249; clear HB; have BK249 := n0_; have HB := n1_; have BK250 := n2_; have GW250 := n3_; have GE250 := n4_; have NB249_250 := n5_; have NB250_249 := n6_; clear n0_ n1_ n2_ n3_ n4_ n5_ n6_; clear hb hbox hg; have hnb13 := NB249_250.out; have hnc13 := NB250_249.out; have hcz14_0 : w12.cell? ⟨gb249, 0, none⟩ = some (.slice none 0 0) := (blk_cell BK249.out 0).trans rfl; have hfz14_0 := blk_frozen BK249.out 0; have hcz15_0 : w12.cell? ⟨gb250, 0, none⟩ = some (.slice none 0 0) := (blk_cell BK250.out 0).trans rfl; have hfz15_0 := blk_frozen BK250.out 0))
     go_loopg [9] kj5 (fun kq v9 w' => ∃ (x9_2 : Int), v9 = .int .i64 x9_2 ∧ Aside0 (tallymanlaw8_TreeSays.l0 kq l0 l1 a2 x9_2 l0 l1 = some r) ∧ Aside0 (kq ≤ kj5) ∧ Aside0 (w'.heap[gb249]? = some (.cells #[(.slice A0 l0.length c0)] 26 (0, 0))) ∧ Aside0 (w'.heap[gb250]? = some (.cells #[(.slice A1 l1.length c1)] 26 (0, 0))) ∧ Aside0 (Below w.heap.size w w'))
     case atStart => exact ⟨(0), (by first | rfl | (simp; done) | (simp [*]; done)), H', ⟨Nat.le_refl _⟩, ⟨by (with_reducible repeat (first | refine blk_drewN ?_ _ | refine blk_drew ?_ | refine blk_alloc ?_ _)); refine blk_far ?_ NB249_250.out _; (with_reducible repeat (first | refine blk_drewN ?_ _ | refine blk_drew ?_ | refine blk_alloc ?_ _)); refine blk_put (cs := #[.slice none 0 0]) ?_ 0 _ rfl; (with_reducible repeat (first | refine blk_drewN ?_ _ | refine blk_drew ?_ | refine blk_alloc ?_ _)); exact BK249.out⟩, ⟨by (with_reducible repeat (first | refine blk_drewN ?_ _ | refine blk_drew ?_ | refine blk_alloc ?_ _)); refine blk_put (cs := #[.slice none 0 0]) ?_ 0 _ rfl; (with_reducible repeat (first | refine blk_drewN ?_ _ | refine blk_drew ?_ | refine blk_alloc ?_ _)); refine blk_far ?_ NB250_249.out _; (with_reducible repeat (first | refine blk_drewN ?_ _ | refine blk_drew ?_ | refine blk_alloc ?_ _)); exact BK250.out⟩, ⟨by repeat (with_reducible first | exact HB.out | apply below_alloc | apply pw_below_drewN | apply below_drew1 | refine below_set ?_ GE249.out | refine below_set ?_ GE250.out)⟩⟩
     case round =>
      clear H'
      try clear c1
      try clear p2
      try clear c5
      try clear c8
      try clear c8b0
      try clear c8b1
      try clear c9
      try clear c9b0
      try clear c9b1
      try clear c10
      try clear c13
      try clear hcz14_0
      try clear hcz15_0
      try clear hfz14_0
      try clear hfz15_0
      try clear p2
      obtain ⟨x9_2, rfl, HA, HK2, BK249, BK250, HB⟩ := hrel
      cases gk with
      | zero => exact absurd HA.out (by simp [tallymanlaw8_TreeSays.l0])
      | succ k2 =>
       have H := HA.out
       clear HA
       simp only [tallymanlaw8_TreeSays.l0] at H
       by_cases c16 : x9_2 < (l0.length : Int)
       ·rw [if_pos c16] at H
        have c16b0 : decide (x9_2 < (l0.length : Int)) = true := decide_eq_true c16
        clear c16
        by_cases c17 : 0 ≤ x9_2
        ·rw [if_pos c17] at H
         have c17b0 : decide (0 ≤ x9_2) = true := decide_eq_true c17
         clear c17
         by_cases c18 : (((rd_T30 l0 x9_2).f0).size : Int) > 100
         ·rw [if_pos c18] at H
          have c18b0 : decide (100 < (((rd_T30 l0 x9_2).f0).size : Int)) = true := decide_eq_true c18
          have c18b1 : decide (100 < ((rd_T30 l0 x9_2).f0).size) = true := decide_eq_true (by omega)
          clear c18
          obtain rfl := Option.some.inj H
          have p251 : 0 ≤ (x9_2 : Int) := of_decide_eq_true (by first | (with_reducible assumption) | assumption)
          have q251 : x9_2 < (l0.length : Int) := of_decide_eq_true (by first | (with_reducible assumption) | assumption)
          obtain ⟨ad251, A251_2, c251_2, e251, hx251_0, hx251_1, hx251_2, hl251_2, hi251_2⟩ := at_T30 HR0.out x9_2 p251 q251
          cases e251
          replace hx251_0 := (HB.out.cell (World.block_lt_of_cell? w _ hx251_0)).trans hx251_0
          replace hx251_1 := (HB.out.cell (World.block_lt_of_cell? w _ hx251_1)).trans hx251_1
          replace hx251_2 := (HB.out.cell (World.block_lt_of_cell? w _ hx251_2)).trans hx251_2
          have HR251_2 := xa_ hi251_2
          have HC251_2 := xa_ hl251_2
          clear hi251_2 hl251_2
          replace p251 := eq_true p251
          replace q251 := eq_true q251
          go_wp2
          go_ret
          exact ⟨by first | rfl | (simp [errW_none, errW_some] <;> rfl) | (simp [*, errW_none, errW_some] <;> rfl), by repeat (with_reducible first | exact HB.out | apply below_alloc | apply pw_below_drewN | apply below_drew1 | refine below_set ?_ GE249.out | refine below_set ?_ GE250.out)⟩
         ·rw [if_neg c18] at H
          have c18b0 : decide (100 < (((rd_T30 l0 x9_2).f0).size : Int)) = false := decide_eq_false c18
          have c18b1 : decide (100 < ((rd_T30 l0 x9_2).f0).size) = false := decide_eq_false (by omega)
          clear c18
          by_cases c19 : (((rd_T30 l0 x9_2).f2).length : Int) > 3000
          ·rw [if_pos c19] at H
           have c19b0 : decide (3000 < (((rd_T30 l0 x9_2).f2).length : Int)) = true := decide_eq_true c19
           have c19b1 : decide (3000 < ((rd_T30 l0 x9_2).f2).length) = true := decide_eq_true (by omega)
           clear c19
           obtain rfl := Option.some.inj H
           have p251 : 0 ≤ (x9_2 : Int) := of_decide_eq_true (by first | (with_reducible assumption) | assumption)
           have q251 : x9_2 < (l0.length : Int) := of_decide_eq_true (by first | (with_reducible assumption) | assumption)
           obtain ⟨ad251, A251_2, c251_2, e251, hx251_0, hx251_1, hx251_2, hl251_2, hi251_2⟩ := at_T30 HR0.out x9_2 p251 q251
           cases e251
           replace hx251_0 := (HB.out.cell (World.block_lt_of_cell? w _ hx251_0)).trans hx251_0
           replace hx251_1 := (HB.out.cell (World.block_lt_of_cell? w _ hx251_1)).trans hx251_1
           replace hx251_2 := (HB.out.cell (World.block_lt_of_cell? w _ hx251_2)).trans hx251_2
           have HR251_2 := xa_ hi251_2
           have HC251_2 := xa_ hl251_2
           clear hi251_2 hl251_2
           replace p251 := eq_true p251
           replace q251 := eq_true q251
           have p252 : 0 ≤ (x9_2 : Int) := of_decide_eq_true (by first | (with_reducible assumption) | assumption)
           have q252 : x9_2 < (l0.length : Int) := of_decide_eq_true (by first | (with_reducible assumption) | assumption)
           obtain ⟨ad252, A252_2, c252_2, e252, hx252_0, hx252_1, hx252_2, hl252_2, hi252_2⟩ := at_T30 HR0.out x9_2 p252 q252
           obtain rfl : ad251 = ad252 := (by injection e252)
           replace hx252_0 := (HB.out.cell (World.block_lt_of_cell? w _ hx252_0)).trans hx252_0
           replace hx252_1 := (HB.out.cell (World.block_lt_of_cell? w _ hx252_1)).trans hx252_1
           replace hx252_2 := (HB.out.cell (World.block_lt_of_cell? w _ hx252_2)).trans hx252_2
           have HR252_2 := xa_ hi252_2
           have HC252_2 := xa_ hl252_2
           clear hi252_2 hl252_2
           replace p252 := eq_true p252
           replace q252 := eq_true q252
           have ea_ := Option.some.inj (hx251_2.symm.trans hx252_2)
           injection ea_ with ea_ en_ ec_
           subst ea_
           subst ec_
           clear en_
           go_wp2
           go_ret
           exact ⟨by first | rfl | (simp [errW_none, errW_some] <;> rfl) | (simp [*, errW_none, errW_some] <;> rfl), by repeat (with_reducible first | exact HB.out | apply below_alloc | apply pw_below_drewN | apply below_drew1 | refine below_set ?_ GE249.out | refine below_set ?_ GE250.out)⟩
          ·rw [if_neg c19] at H
           have c19b0 : decide (3000 < (((rd_T30 l0 x9_2).f2).length : Int)) = false := decide_eq_false c19
           have c19b1 : decide (3000 < ((rd_T30 l0 x9_2).f2).length) = false := decide_eq_false (by omega)
           clear c19
           have H' := xa_ H
           clear H
           have p251 : 0 ≤ (x9_2 : Int) := of_decide_eq_true (by first | (with_reducible assumption) | assumption)
           have q251 : x9_2 < (l0.length : Int) := of_decide_eq_true (by first | (with_reducible assumption) | assumption)
           obtain ⟨ad251, A251_2, c251_2, e251, hx251_0, hx251_1, hx251_2, hl251_2, hi251_2⟩ := at_T30 HR0.out x9_2 p251 q251
           cases e251
           replace hx251_0 := (HB.out.cell (World.block_lt_of_cell? w _ hx251_0)).trans hx251_0
           replace hx251_1 := (HB.out.cell (World.block_lt_of_cell? w _ hx251_1)).trans hx251_1
           replace hx251_2 := (HB.out.cell (World.block_lt_of_cell? w _ hx251_2)).trans hx251_2
           have HR251_2 := xa_ hi251_2
           have HC251_2 := xa_ hl251_2
           clear hi251_2 hl251_2
           replace p251 := eq_true p251
           replace q251 := eq_true q251
           have p252 : 0 ≤ (x9_2 : Int) := of_decide_eq_true (by first | (with_reducible assumption) | assumption)
           have q252 : x9_2 < (l0.length : Int) := of_decide_eq_true (by first | (with_reducible assumption) | assumption)
           obtain ⟨ad252, A252_2, c252_2, e252, hx252_0, hx252_1, hx252_2, hl252_2, hi252_2⟩ := at_T30 HR0.out x9_2 p252 q252
           obtain rfl : ad251 = ad252 := (by injection e252)
           replace hx252_0 := (HB.out.cell (World.block_lt_of_cell? w _ hx252_0)).trans hx252_0
           replace hx252_1 := (HB.out.cell (World.block_lt_of_cell? w _ hx252_1)).trans hx252_1
           replace hx252_2 := (HB.out.cell (World.block_lt_of_cell? w _ hx252_2)).trans hx252_2
           have HR252_2 := xa_ hi252_2
           have HC252_2 := xa_ hl252_2
           clear hi252_2 hl252_2
           replace p252 := eq_true p252
           replace q252 := eq_true q252
           have ea_ := Option.some.inj (hx251_2.symm.trans hx252_2)
           injection ea_ with ea_ en_ ec_
           subst ea_
           subst ec_
           clear en_
           go_wp2
           go_roundg k2
           case measure => have := HJ5.out; have := HK2.out; omega
           case rel => exact ⟨(wrap64 (x9_2 + 1)), (by first | rfl | (simp; done) | (simp [*]; done)), H', ⟨by have := HJ5.out; have := HK2.out; omega⟩, ⟨by (with_reducible repeat (first | refine blk_drewN ?_ _ | refine blk_drew ?_ | refine blk_alloc ?_ _)); exact BK249.out⟩, ⟨by (with_reducible repeat (first | refine blk_drewN ?_ _ | refine blk_drew ?_ | refine blk_alloc ?_ _)); exact BK250.out⟩, ⟨by repeat (with_reducible first | exact HB.out | apply below_alloc | apply pw_below_drewN | apply below_drew1 | refine below_set ?_ GE249.out | refine below_set ?_ GE250.out)⟩⟩
        ·rw [if_neg c17] at H
         exact absurd H (by simp)
       ·rw [if_neg c16] at H
        have c16b0 : decide (x9_2 < (l0.length : Int)) = false := decide_eq_false c16
        clear c16
        have H' := xa_ H
        clear H
        go_wp2
        go_loopg [10] k2 (fun kq v10 w' => ∃ (x10_3 : Int), v10 = .int .i64 x10_3 ∧ Aside0 (tallymanlaw8_TreeSays.l1 kq l1 a2 x10_3 l0 l1 = some r) ∧ Aside0 (kq ≤ k2) ∧ Aside0 (w'.heap[gb249]? = some (.cells #[(.slice A0 l0.length c0)] 26 (0, 0))) ∧ Aside0 (w'.heap[gb250]? = some (.cells #[(.slice A1 l1.length c1)] 26 (0, 0))) ∧ Aside0 (Below w.heap.size w w'))
        case atStart => exact ⟨(0), (by first | rfl | (simp; done) | (simp [*]; done)), H', ⟨Nat.le_refl _⟩, ⟨by (with_reducible repeat (first | refine blk_drewN ?_ _ | refine blk_drew ?_ | refine blk_alloc ?_ _)); exact BK249.out⟩, ⟨by (with_reducible repeat (first | refine blk_drewN ?_ _ | refine blk_drew ?_ | refine blk_alloc ?_ _)); exact BK250.out⟩, ⟨by repeat (with_reducible first | exact HB.out | apply below_alloc | apply pw_below_drewN | apply below_drew1 | refine below_set ?_ GE249.out | refine below_set ?_ GE250.out)⟩⟩
        case round =>
         clear H'
         try clear c1
         try clear c2
         try clear p2
         try clear q2
         try clear hx2
         try clear c5
         try clear p6
         try clear c8
         try clear c8b0
         try clear c8b1
         try clear c9
         try clear c9b0
         try clear c9b1
         try clear c10
         try clear c13
         try clear c16
         try clear c16b0
         try clear c17
         try clear c17b0
         try clear c18
         try clear c18b0
         try clear c18b1
         try clear c19
         try clear c19b0
         try clear c19b1
         try clear hcz14_0
         try clear hcz15_0
         try clear hfz14_0
         try clear hfz15_0
         try clear hx251_0
         try clear hx251_1
         try clear hx251_2
         try clear hx252_0
         try clear hx252_1
         try clear hx252_2
         try clear p2
         try clear p251
         try clear p252
         try clear q251
         try clear q252
         obtain ⟨x10_3, rfl, HA, HK3, BK249, BK250, HB⟩ := hrel
         cases gk with
         | zero => exact absurd HA.out (by simp [tallymanlaw8_TreeSays.l1])
         | succ k3 =>
          have H := HA.out
          clear HA
          simp only [tallymanlaw8_TreeSays.l1] at H
          by_cases c20 : x10_3 < (l1.length : Int)
          ·rw [if_pos c20] at H
           have c20b0 : decide (x10_3 < (l1.length : Int)) = true := decide_eq_true c20
           clear c20
           by_cases c21 : 0 ≤ x10_3
           ·rw [if_pos c21] at H
            have c21b0 : decide (0 ≤ x10_3) = true := decide_eq_true c21
            clear c21
            by_cases c22 : (((rd_T30 l1 x10_3).f0).size : Int) > 100
            ·rw [if_pos c22] at H
             have c22b0 : decide (100 < (((rd_T30 l1 x10_3).f0).size : Int)) = true := decide_eq_true c22
             have c22b1 : decide (100 < ((rd_T30 l1 x10_3).f0).size) = true := decide_eq_true (by omega)
             clear c22
             obtain rfl := Option.some.inj H
             have p253 : 0 ≤ (x10_3 : Int) := of_decide_eq_true (by first | (with_reducible assumption) | assumption)
             have q253 : x10_3 < (l1.length : Int) := of_decide_eq_true (by first | (with_reducible assumption) | assumption)
             obtain ⟨ad253, A253_2, c253_2, e253, hx253_0, hx253_1, hx253_2, hl253_2, hi253_2⟩ := at_T30 HR1.out x10_3 p253 q253
             cases e253
             replace hx253_0 := (HB.out.cell (World.block_lt_of_cell? w _ hx253_0)).trans hx253_0
             replace hx253_1 := (HB.out.cell (World.block_lt_of_cell? w _ hx253_1)).trans hx253_1
             replace hx253_2 := (HB.out.cell (World.block_lt_of_cell? w _ hx253_2)).trans hx253_2
             have HR253_2 := xa_ hi253_2
             have HC253_2 := xa_ hl253_2
             clear hi253_2 hl253_2
             replace p253 := eq_true p253
             replace q253 := eq_true q253
             go_wp2
             go_ret
             exact ⟨by first | rfl | (simp [errW_none, errW_some] <;> rfl) | (simp [*, errW_none, errW_some] <;> rfl), by repeat (with_reducible first | exact HB.out | apply below_alloc | apply pw_below_drewN | apply below_drew1 | refine below_set ?_ GE249.out | refine below_set ?_ GE250.out)⟩
            ·rw [if_neg c22] at H
             have c22b0 : decide (100 < (((rd_T30 l1 x10_3).f0).size : Int)) = false := decide_eq_false c22
             have c22b1 : decide (100 < ((rd_T30 l1 x10_3).f0).size) = false := decide_eq_false (by omega)
             clear c22
             by_cases c23 : (((rd_T30 l1 x10_3).f2).length : Int) > 3000
             ·rw [if_pos c23] at H
              have c23b0 : decide (3000 < (((rd_T30 l1 x10_3).f2).length : Int)) = true := decide_eq_true c23
              have c23b1 : decide (3000 < ((rd_T30 l1 x10_3).f2).length) = true := decide_eq_true (by omega)
              clear c23
              obtain rfl := Option.some.inj H
              have p253 : 0 ≤ (x10_3 : Int) := of_decide_eq_true (by first | (with_reducible assumption) | assumption)
              have q253 : x10_3 < (l1.length : Int) := of_decide_eq_true (by first | (with_reducible assumption) | assumption)
              obtain ⟨ad253, A253_2, c253_2, e253, hx253_0, hx253_1, hx253_2, hl253_2, hi253_2⟩ := at_T30 HR1.out x10_3 p253 q253
              cases e253
              replace hx253_0 := (HB.out.cell (World.block_lt_of_cell? w _ hx253_0)).trans hx253_0
              replace hx253_1 := (HB.out.cell (World.block_lt_of_cell? w _ hx253_1)).trans hx253_1
              replace hx253_2 := (HB.out.cell (World.block_lt_of_cell? w _ hx253_2)).trans hx253_2
              have HR253_2 := xa_ hi253_2
              have HC253_2 := xa_ hl253_2
              clear hi253_2 hl253_2
              replace p253 := eq_true p253
              replace q253 := eq_true q253
              have p254 : 0 ≤ (x10_3 : Int) := of_decide_eq_true (by first | (with_reducible assumption) | assumption)
              have q254 : x10_3 < (l1.length : Int) := of_decide_eq_true (by first | (with_reducible assumption) | assumption)
              obtain ⟨ad254, A254_2, c254_2, e254, hx254_0, hx254_1, hx254_2, hl254_2, hi254_2⟩ := at_T30 HR1.out x10_3 p254 q254
              obtain rfl : ad253 = ad254 := (by injection e254)
              replace hx254_0 := (HB.out.cell (World.block_lt_of_cell? w _ hx254_0)).trans hx254_0
              replace hx254_1 := (HB.out.cell (World.block_lt_of_cell? w _ hx254_1)).trans hx254_1
              replace hx254_2 := (HB.out.cell (World.block_lt_of_cell? w _ hx254_2)).trans hx254_2
              have HR254_2 := xa_ hi254_2
              have HC254_2 := xa_ hl254_2
              clear hi254_2 hl254_2
              replace p254 := eq_true p254
              replace q254 := eq_true q254
              have ea_ := Option.some.inj (hx253_2.symm.trans hx254_2)
              injection ea_ with ea_ en_ ec_
              subst ea_
              subst ec_
              clear en_
              go_wp2
              go_ret
              exact ⟨by first | rfl | (simp [errW_none, errW_some] <;> rfl) | (simp [*, errW_none, errW_some] <;> rfl), by repeat (with_reducible first | exact HB.out | apply below_alloc | apply pw_below_drewN | apply below_drew1 | refine below_set ?_ GE249.out | refine below_set ?_ GE250.out)⟩
             ·rw [if_neg c23] at H
              have c23b0 : decide (3000 < (((rd_T30 l1 x10_3).f2).length : Int)) = false := decide_eq_false c23
              have c23b1 : decide (3000 < ((rd_T30 l1 x10_3).f2).length) = false := decide_eq_false (by omega)
              clear c23
              have H' := xa_ H
              clear H
              have p253 : 0 ≤ (x10_3 : Int) := of_decide_eq_true (by first | (with_reducible assumption) | assumption)
              have q253 : x10_3 < (l1.length : Int) := of_decide_eq_true (by first | (with_reducible assumption) | assumption)
              obtain ⟨ad253, A253_2, c253_2, e253, hx253_0, hx253_1, hx253_2, hl253_2, hi253_2⟩ := at_T30 HR1.out x10_3 p253 q253
              cases e253
              replace hx253_0 := (HB.out.cell (World.block_lt_of_cell? w _ hx253_0)).trans hx253_0
              replace hx253_1 := (HB.out.cell (World.block_lt_of_cell? w _ hx253_1)).trans hx253_1
              replace hx253_2 := (HB.out.cell (World.block_lt_of_cell? w _ hx253_2)).trans hx253_2
              have HR253_2 := xa_ hi253_2
              have HC253_2 := xa_ hl253_2
              clear hi253_2 hl253_2
              replace p253 := eq_true p253
              replace q253 := eq_true q253
              have p254 : 0 ≤ (x10_3 : Int) := of_decide_eq_true (by first | (with_reducible assumption) | assumption)
              have q254 : x10_3 < (l1.length : Int) := of_decide_eq_true (by first | (with_reducible assumption) | assumption)
              obtain ⟨ad254, A254_2, c254_2, e254, hx254_0, hx254_1, hx254_2, hl254_2, hi254_2⟩ := at_T30 HR1.out x10_3 p254 q254
              obtain rfl : ad253 = ad254 := (by injection e254)
              replace hx254_0 := (HB.out.cell (World.block_lt_of_cell? w _ hx254_0)).trans hx254_0
              replace hx254_1 := (HB.out.cell (World.block_lt_of_cell? w _ hx254_1)).trans hx254_1
              replace hx254_2 := (HB.out.cell (World.block_lt_of_cell? w _ hx254_2)).trans hx254_2
              have HR254_2 := xa_ hi254_2
              have HC254_2 := xa_ hl254_2
              clear hi254_2 hl254_2
              replace p254 := eq_true p254
              replace q254 := eq_true q254
              have ea_ := Option.some.inj (hx253_2.symm.trans hx254_2)
              injection ea_ with ea_ en_ ec_
              subst ea_
              subst ec_
              clear en_
              go_wp2
              go_roundg k3
              case measure => have := HJ5.out; have := HK2.out; have := HK3.out; omega
              case rel => exact ⟨(wrap64 (x10_3 + 1)), (by first | rfl | (simp; done) | (simp [*]; done)), H', ⟨by have := HJ5.out; have := HK2.out; have := HK3.out; omega⟩, ⟨by (with_reducible repeat (first | refine blk_drewN ?_ _ | refine blk_drew ?_ | refine blk_alloc ?_ _)); exact BK249.out⟩, ⟨by (with_reducible repeat (first | refine blk_drewN ?_ _ | refine blk_drew ?_ | refine blk_alloc ?_ _)); exact BK250.out⟩, ⟨by repeat (with_reducible first | exact HB.out | apply below_alloc | apply pw_below_drewN | apply below_drew1 | refine below_set ?_ GE249.out | refine below_set ?_ GE250.out)⟩⟩
           ·rw [if_neg c21] at H
            exact absurd H (by simp)
          ·rw [if_neg c20] at H
           have c20b0 : decide (x10_3 < (l1.length : Int)) = false := decide_eq_false c20
           clear c20
           replace H := Option.bind_eq_some_iff.mp H
           obtain ⟨t255, A240, H⟩ := H
           replace H : ((tallymanlaw8_own.f k3 l1).bind fun t258 => ((tallymanref7_GoodTree.f k3 t255).bind fun t261 => ((tree_Make.f l0 a2).bind fun bt262 => ((tallymanref7_Make.f k3 t255 a2).bind fun bt267 => (if t261 = true then ((tallymanref7_Bytes.f k3 t255).bind fun t271 => (tallymanlaw8_TreeSays.j3 k3 t255 t258 t261 bt262.2 bt267.1 bt267.2 t271 l0 l1 bt262.1)) else (tallymanlaw8_TreeSays.j3 k3 t255 t258 t261 bt262.2 bt267.1 bt267.2 0 l0 l1 bt262.1)))))) = some r := H
           have A24 := xa_ A240
           clear A240
           replace H := Option.bind_eq_some_iff.mp H
           obtain ⟨t258, A250, H⟩ := H
           replace H : ((tallymanref7_GoodTree.f k3 t255).bind fun t261 => ((tree_Make.f l0 a2).bind fun bt262 => ((tallymanref7_Make.f k3 t255 a2).bind fun bt267 => (if t261 = true then ((tallymanref7_Bytes.f k3 t255).bind fun t271 => (tallymanlaw8_TreeSays.j3 k3 t255 t258 t261 bt262.2 bt267.1 bt267.2 t271 l0 l1 bt262.1)) else (tallymanlaw8_TreeSays.j3 k3 t255 t258 t261 bt262.2 bt267.1 bt267.2 0 l0 l1 bt262.1))))) = some r := H
           have A25 := xa_ A250
           clear A250
           replace H := Option.bind_eq_some_iff.mp H
           obtain ⟨t261, A260, H⟩ := H
           replace H : ((tree_Make.f l0 a2).bind fun bt262 => ((tallymanref7_Make.f k3 t255 a2).bind fun bt267 => (if t261 = true then ((tallymanref7_Bytes.f k3 t255).bind fun t271 => (tallymanlaw8_TreeSays.j3 k3 t255 t258 t261 bt262.2 bt267.1 bt267.2 t271 l0 l1 bt262.1)) else (tallymanlaw8_TreeSays.j3 k3 t255 t258 t261 bt262.2 bt267.1 bt267.2 0 l0 l1 bt262.1)))) = some r := H
           have A26 := xa_ A260
           clear A260
           replace H := Option.bind_eq_some_iff.mp H
           obtain ⟨⟨t262, t265⟩, A270, H⟩ := H
           replace H : ((tallymanref7_Make.f k3 t255 a2).bind fun bt267 => (if t261 = true then ((tallymanref7_Bytes.f k3 t255).bind fun t271 => (tallymanlaw8_TreeSays.j3 k3 t255 t258 t261 t265 bt267.1 bt267.2 t271 l0 l1 t262)) else (tallymanlaw8_TreeSays.j3 k3 t255 t258 t261 t265 bt267.1 bt267.2 0 l0 l1 t262))) = some r := H
           have A27 := xa_ A270
           clear A270
           replace H := Option.bind_eq_some_iff.mp H
           obtain ⟨⟨t267, t270⟩, A280, H⟩ := H
           replace H : (if t261 = true then ((tallymanref7_Bytes.f k3 t255).bind fun t271 => (tallymanlaw8_TreeSays.j3 k3 t255 t258 t261 t265 t267 t270 t271 l0 l1 t262)) else (tallymanlaw8_TreeSays.j3 k3 t255 t258 t261 t265 t267 t270 0 l0 l1 t262)) = some r := H
           have A28 := xa_ A280
           clear A280
           have HC29 := xa_ H
           clear H
           try go_wp2
           have n0_ := xa_ (blk_drew BK249.out)
           have n1_ := xa_ (blk_drew BK250.out)
           have n2_ := xa_ (below_drew1 HB.out)
           clear BK249
           clear BK250
           clear HB
           have BK249 := n0_
           have BK250 := n1_
           have HB := n2_
           clear n0_ n1_ n2_
           refine start_ (n := 6) (S := fun w' => w'.cell? ⟨gb249, 0, none⟩ = some (.slice A0 l0.length c0) ∧ w'.cell? ⟨gb250, 0, none⟩ = some (.slice A1 l1.length c1)) (ds := []) (bs_ 6 0x0) (by kernel_rfl) rfl rfl ⟨(blk_cell BK249.out 0).trans rfl, (blk_cell BK250.out 0).trans rfl⟩ (fun hHeld => ?_)
           generalize wr.drew = w30 at BK249 BK250 HB hHeld ⊢
           refine take_ (i := 0) (N := some 82) (v := ?_) (a' := ?_) (bs_ 6 0x1) rfl rfl (by kernel_rfl) (fun _ _ _ h => h) (Or.inl ⟨by rfl, ?_⟩) hHeld ?_ ?_; rotate_left; (rintro w' ⟨s0, s1⟩; go_simp; with_reducible rfl); rotate_left; (simp only [nm_]; rfl)
           refine take_ (i := 2) (N := some 84) (v := ?_) (a' := ?_) (bs_ 6 0x5) rfl rfl (by kernel_rfl) (fun _ _ _ h => h) (Or.inl ⟨by rfl, ?_⟩) hHeld ?_ ?_; rotate_left; (rintro w' ⟨s0, s1⟩; go_simp; with_reducible rfl); rotate_left; (simp only [nm_]; rfl)
           refine one_ (i := 1) (N := some 83) (bs_ 6 0x7) rfl rfl (by kernel_rfl) (by decide) (fun K hK => ?_)
           refine goes_ Tryd.func22 (by kernel_rfl) rfl #[.agg #[.slice A0 l0.length c0]] (by rfl) rfl rfl (by (try simp only [List.map_toArray, List.map_cons, List.map_nil]); first | done | rfl | (simp only [List.length_drop, List.length_take]; rfl)) ?_
           with_reducible refine (tallymanlaw8_own.calls k3 (fun k_ => k_ < w.heap.size) _ _ l0 t255 _ ?side1 A24.out).mono ?_
           (case side1 => exact Kd.V_mk HC0.out (Kd.F_below (Kd.C_F k30_heap HR0.out) (by repeat (with_reducible first | exact HB.out | apply below_alloc | apply pw_below_drewN | apply below_drew1 | refine below_set ?_ GE249.out | refine below_set ?_ GE250.out))))
           rintro e w31 ⟨v256, rfl, ho0, hb⟩
           refine ⟨_, rfl, ?_⟩
           have n0_ := xa_ (Kd.N_lower (Kd.N_mono (ok' := fun k_ => k_ ≠ gb249 ∧ k_ ≠ gb250) ho0 (fun k_ hk_ => ⟨Or.elim hk_ (fun hs_ => fun e_ => Nat.not_le.2 hs_ (by rw [e_]; exact GW249.out)) (fun hn_ => (Kd.freshB (xb_ BK249.out) k_ hn_)), Or.elim hk_ (fun hs_ => fun e_ => Nat.not_le.2 hs_ (by rw [e_]; exact GW250.out)) (fun hn_ => (Kd.freshB (xb_ BK250.out) k_ hn_))⟩)) (below_size (by repeat (with_reducible first | exact HB.out | apply below_alloc | apply pw_below_drewN | apply below_drew1 | refine below_set ?_ GE249.out | refine below_set ?_ GE250.out))))
           have n1_ := yb_ BK249 hb
           have n2_ := yb_ BK250 hb
           have n3_ := xa_ (below_step (by repeat (with_reducible first | exact HB.out | apply below_alloc | apply pw_below_drewN | apply below_drew1 | refine below_set ?_ GE249.out | refine below_set ?_ GE250.out)) hb)
           clear BK249
           clear BK250
           clear HB
           have HO257 := n0_
           have BK249 := n1_
           have BK250 := n2_
           have HB := n3_
           clear n0_ n1_ n2_ n3_
           (try clear hb)
           (try clear hb2)
           (try clear hk)
           (try clear hi)
           (try clear ho0)
           refine hK.out _ _ ⟨(blk_cell BK249.out 0).trans rfl, (blk_cell BK250.out 0).trans rfl⟩ (fun hHeld => ?_)
           clear hK K
           refine norm_ (a' := ?_) ?_ ?_
           rotate_left
           ·show Act.put _ (some 83) _ = _
            simp only [nm_]
            rfl
           refine one_ (i := 3) (N := some 85) (bs_ 6 0xf) rfl rfl (by kernel_rfl) (by decide) (fun K hK => ?_)
           refine goes_ Tryd.func22 (by kernel_rfl) rfl #[.agg #[.slice A1 l1.length c1]] (by rfl) rfl rfl (by (try simp only [List.map_toArray, List.map_cons, List.map_nil]); first | done | rfl | (simp only [List.length_drop, List.length_take]; rfl)) ?_
           with_reducible refine (tallymanlaw8_own.calls k3 (fun k_ => k_ < w.heap.size) _ _ l1 t258 _ ?side1 A25.out).mono ?_
           (case side1 => exact Kd.V_mk HC1.out (Kd.F_below (Kd.C_F k30_heap HR1.out) (by repeat (with_reducible first | exact HB.out | apply below_alloc | apply pw_below_drewN | apply below_drew1 | refine below_set ?_ GE249.out | refine below_set ?_ GE250.out))))
           rintro e w32 ⟨v259, rfl, ho0, hb⟩
           refine ⟨_, rfl, ?_⟩
           have n0_ := xa_ (Kd.N_elder' (xN_ HO257.out) (Kd.N_base ho0) hb)
           have n1_ := xa_ (Kd.N_lower (Kd.N_mono (ok' := fun k_ => some k_ ≠ (v256 : Value).ownBlock ∧ k_ ≠ gb249 ∧ k_ ≠ gb250) ho0 (fun k_ hk_ => ⟨Or.elim hk_ (fun hs_ => fun e_ => Nat.not_le.2 hs_ (Kd.N_base HO257.out k_ e_.symm)) (fun hn_ => (Kd.fresh' (Kd.N_lt (xN_ HO257.out)) k_ hn_)), Or.elim hk_ (fun hs_ => fun e_ => Nat.not_le.2 hs_ (by rw [e_]; exact GW249.out)) (fun hn_ => (Kd.freshB (xb_ BK249.out) k_ hn_)), Or.elim hk_ (fun hs_ => fun e_ => Nat.not_le.2 hs_ (by rw [e_]; exact GW250.out)) (fun hn_ => (Kd.freshB (xb_ BK250.out) k_ hn_))⟩)) (below_size (by repeat (with_reducible first | exact HB.out | apply below_alloc | apply pw_below_drewN | apply below_drew1 | refine below_set ?_ GE249.out | refine below_set ?_ GE250.out))))
           have n2_ := yb_ BK249 hb
           have n3_ := yb_ BK250 hb
           have n4_ := xa_ (below_step (by repeat (with_reducible first | exact HB.out | apply below_alloc | apply pw_below_drewN | apply below_drew1 | refine below_set ?_ GE249.out | refine below_set ?_ GE250.out)) hb)
           clear HO257
           clear BK249
           clear BK250
           clear HB
           have HO257 := n0_
           have HO260 := n1_
           have BK249 := n2_
           have BK250 := n3_
           have HB := n4_
           clear n0_ n1_ n2_ n3_ n4_
           (try clear hb)
           (try clear hb2)
           (try clear hk)
           (try clear hi)
           (try clear ho0)
           refine hK.out _ _ ⟨(blk_cell BK249.out 0).trans rfl, (blk_cell BK250.out 0).trans rfl⟩ (fun hHeld => ?_)
           clear hK K
           refine norm_ (a' := ?_) ?_ ?_
           rotate_left
           ·show Act.put _ (some 85) _ = _
            simp only [nm_]
            rfl
           refine pure_ (i := 4) (N := some 11) (v := ?_) (a' := ?_) (bs_ 6 0x1f) rfl rfl (by kernel_rfl) (fun _ _ _ h => h) (Or.inl ⟨by rfl, ?_⟩) ?_ ?_; rotate_left; (intro w'; go_simp; with_reducible rfl); rotate_left; (simp only [nm_]; rfl)
           refine pure_ (i := 5) (N := some 12) (v := ?_) (a' := ?_) (bs_ 6 0x3f) rfl rfl (by kernel_rfl) (fun _ _ _ h => h) (Or.inl ⟨by rfl, ?_⟩) ?_ ?_; rotate_left; (intro w'; go_simp; with_reducible rfl); rotate_left; (simp only [nm_]; rfl)
           refine done_ (by kernel_rfl) ?_
           obtain ⟨Ao33, co33, eo33⟩ := Kd.N_slice HO257.out
           subst eo33
           go_upto_if 100 with (first | ((with_reducible refine gate_callee (f := 23) rfl ?_); refine goesL_ (some 87) rfl rfl Tryd.func23 (by kernel_rfl) rfl #[.slice Ao33 t255.length co33] rfl (by (try simp only [List.map_toArray, List.map_cons, List.map_nil]); first | done | rfl | (simp only [List.length_drop, List.length_take]; rfl)) ?_; (with_reducible refine (tallymanref7_GoodTree.calls k3 _ _ t255 t261 _ ?side1 ?side2 A26.out).mono ?_); (case side1 => exact xC_ (Kd.N_reads' HO257.out).2.2); (case side2 => exact (Kd.N_reads' HO257.out).2.1); rintro e w34 ⟨rfl, hb⟩; refine ⟨_, rfl, ?_⟩; replace HO257 := yN_ HO257 hb; replace HO260 := yN_ HO260 hb; replace BK249 := yb_ BK249 hb; replace BK250 := yb_ BK250 hb; replace HB := xa_ (below_step (by repeat (with_reducible first | exact HB.out | apply below_alloc | apply pw_below_drewN | apply below_drew1 | refine below_set ?_ GE249.out | refine below_set ?_ GE250.out)) hb); (try clear hb); have hnb35 := NB249_250.out; have hnc35 := NB250_249.out; have hcz36_0 : w34.cell? ⟨gb249, 0, none⟩ = some (.slice A0 l0.length c0) := (blk_cell BK249.out 0).trans rfl; have hfz36_0 := blk_frozen BK249.out 0) | ((with_reducible refine gate_callee (f := 18) rfl ?_); refine goesL_ (some 91) rfl rfl Tryd.func18 (by kernel_rfl) rfl #[.agg #[.slice A0 l0.length c0], .string a2] rfl (by (try simp only [List.map_toArray, List.map_cons, List.map_nil]); first | done | rfl | (simp only [List.length_drop, List.length_take]; rfl)) ?_; (with_reducible refine (tree_Make.calls (fun k_ => k_ < w.heap.size) _ _ l0 a2 t262 t265 _ ?side1 A27.out).mono ?_); (case side1 => exact Kd.V_mk HC0.out (Kd.F_below (Kd.C_F k30_heap HR0.out) (by repeat (with_reducible first | exact HB.out | apply below_alloc | apply pw_below_drewN | apply below_drew1 | refine below_set ?_ GE249.out | refine below_set ?_ GE250.out)))); rintro e w37 ⟨v263, rfl, ho0, hb⟩; refine ⟨_, rfl, ?_⟩; have n0_ := yN_ HO257 hb; have n1_ := yN_ HO260 hb; have n2_ := xa_ (Kd.V_lower (Kd.V_mono (ok' := fun k_ => some k_ ≠ (.slice Ao33 t255.length co33 : Value).ownBlock ∧ some k_ ≠ (v259 : Value).ownBlock ∧ k_ ≠ gb249 ∧ k_ ≠ gb250) ho0 (fun k_ hk_ => ⟨Or.elim hk_ (fun hs_ => fun e_ => Nat.not_le.2 hs_ (Kd.N_base HO257.out k_ e_.symm)) (fun hn_ => (Kd.fresh' (Kd.N_lt (xN_ HO257.out)) k_ hn_)), Or.elim hk_ (fun hs_ => fun e_ => Nat.not_le.2 hs_ (Kd.N_base HO260.out k_ e_.symm)) (fun hn_ => (Kd.fresh' (Kd.N_lt (xN_ HO260.out)) k_ hn_)), Or.elim hk_ (fun hs_ => fun e_ => Nat.not_le.2 hs_ (by rw [e_]; exact GW249.out)) (fun hn_ => (Kd.freshB (xb_ BK249.out) k_ hn_)), Or.elim hk_ (fun hs_ => fun e_ => Nat.not_le.2 hs_ (by rw [e_]; exact GW250.out)) (fun hn_ => (Kd.freshB (xb_ BK250.out) k_ hn_))⟩)) (below_size (by repeat (with_reducible first | exact HB.out | apply below_alloc | apply pw_below_drewN | apply below_drew1 | refine below_set ?_ GE249.out | refine below_set ?_ GE250.out)))); have n3_ := yb_ BK249 hb; have n4_ := yb_ BK250 hb; have n5_ := xa_ (below_step (by repeat (with_reducible first | exact HB.out | apply below_alloc | apply pw_below_drewN | apply below_drew1 | refine below_set ?_ GE249.out | refine below_set ?_ GE250.out)) hb); clear HO257; clear HO260; clear BK249; clear BK250; clear HB; have HO257 := n0_; have HO260 := n1_; have HO264 := n2_; have BK249 := n3_; have BK250 := n4_; have HB := n5_; clear n0_ n1_ n2_ n3_ n4_ n5_; (try clear hb); (try clear ho0)) | ((with_reducible refine gate_dst (N := 14) rfl ?_); (try (refine gate_guard (by rfl) ?_; dsimp only)); refine box_event ?hg (N := 14) ?hd (cs := #[.slice none 0 0]) (t := 26) ?hr ?_; (case hd => rfl); (case hg => rfl); (case hr => first | (go_simp; done) | (go_simp; rfl)); intro gb266 hg w38 hbox hb; have n0_ := xa_ (Kd.N_below (Kd.N_elderB (xN_ HO257.out) gb266 (Nat.le_of_eq hg.symm)) hb); have n1_ := xa_ (Kd.N_below (Kd.N_elderB (xN_ HO260.out) gb266 (Nat.le_of_eq hg.symm)) hb); have n2_ := xa_ (Kd.V_below (Kd.V_elderB (xV_ HO264.out) gb266 (Nat.le_of_eq hg.symm)) hb); have n3_ := yb_ BK249 hb; have n4_ := yb_ BK250 hb; have n5_ := xa_ (below_step (by repeat (with_reducible first | exact HB.out | apply below_alloc | apply pw_below_drewN | apply below_drew1 | refine below_set ?_ GE249.out | refine below_set ?_ GE250.out)) hb); have n6_ := xa_ (hbox); have n7_ := xa_ ((by rw [hg]; exact (below_size (by repeat (with_reducible first | exact HB.out | apply below_alloc | apply pw_below_drewN | apply below_drew1 | refine below_set ?_ GE249.out | refine below_set ?_ GE250.out))) : w.heap.size ≤ gb266)); have n8_ := xa_ ((by rw [hg]; exact (below_size (by repeat (with_reducible first | exact HB.out | apply below_alloc | apply pw_below_drewN | apply below_drew1 | refine below_set ?_ GE249.out | refine below_set ?_ GE250.out))) : w.heap.size ≤ gb266)); have n9_ := xa_ ((by rw [hg]; exact Nat.ne_of_lt (blk_lt (xb_ BK249.out)) : gb249 ≠ gb266)); have n10_ := xa_ ((by rw [hg]; exact Nat.ne_of_gt (blk_lt (xb_ BK249.out)) : gb266 ≠ gb249)); have n11_ := xa_ ((by rw [hg]; exact Nat.ne_of_lt (blk_lt (xb_ BK250.out)) : gb250 ≠ gb266)); have n12_ := xa_ ((by rw [hg]; exact Nat.ne_of_gt (blk_lt (xb_ BK250.out)) : gb266 ≠ gb250)); clear HO257; clear HO260; clear HO264; clear BK249; clear BK250; clear HB; have HO257 := n0_; have HO260 := n1_; have HO264 := n2_; have BK249 := n3_; have BK250 := n4_; have HB := n5_; have BK266 := n6_; have GW266 := n7_; have GE266 := n8_; have NB249_266 := n9_; have NB266_249 := n10_; have NB250_266 := n11_; have NB266_250 := n12_; clear n0_ n1_ n2_ n3_ n4_ n5_ n6_ n7_ n8_ n9_ n10_ n11_ n12_; clear hb hbox hg; obtain ⟨Ao39, co39, eo39⟩ := Kd.V_slice HO264.out; subst eo39; have hnb40 := NB266_249.out; have hnc40 := NB249_266.out; have hnb41 := NB266_250.out; have hnc41 := NB250_266.out; have hcz42_0 : w38.cell? ⟨gb266, 0, none⟩ = some (.slice none 0 0) := (blk_cell BK266.out 0).trans rfl; have hfz42_0 := blk_frozen BK266.out 0) | ((with_reducible refine gate_store (t := 26) (p := 14) rfl ?_); refine store_event (t := 26) (p := 14) (v := ?vo_w43) (w1 := (w38.setCell ⟨gb266, 0, none⟩ (.slice Ao39 t262.length co39))) ?hg ?ho ?hn ?hr ?_; (case ho => rfl); (case hg => rfl); (case hn => rfl); (case hr => first | (go_simp; done) | (go_simp; rfl)); intro w43 hw; have n0_ : Aside0 (Kd.N k94 94 w43 w.heap.size (fun k_ => some k_ ≠ (v259 : Value).ownBlock ∧ k_ ≠ gb249 ∧ k_ ≠ gb250 ∧ k_ ≠ gb266) (.slice Ao33 t255.length co33) t255) := ⟨(by rw [hw]; exact (by (with_reducible repeat (first | apply Kd.N_alloc | apply Kd.N_drewN | apply Kd.N_drew)); exact Kd.N_mono (Kd.N_far (p := ⟨gb266, 0, none⟩) (Kd.N_mono HO257.out (fun k_ hk => (⟨hk, hk.2⟩ : _ ∧ k_ ≠ gb266))) (fun _ hk => hk.2) (.slice Ao39 t262.length co39)) (fun _ hk => ⟨hk.1.1.2, ⟨hk.1.1.1.1, ⟨hk.1.1.1.2, hk.1.2⟩⟩⟩)))⟩; have n1_ : Aside0 (Kd.N k94 94 w43 w.heap.size (fun k_ => some k_ ≠ (.slice Ao33 t255.length co33 : Value).ownBlock ∧ k_ ≠ gb249 ∧ k_ ≠ gb250 ∧ k_ ≠ gb266) v259 t258) := ⟨(by rw [hw]; exact (by (with_reducible repeat (first | apply Kd.N_alloc | apply Kd.N_drewN | apply Kd.N_drew)); exact Kd.N_mono (Kd.N_far (p := ⟨gb266, 0, none⟩) (Kd.N_mono HO260.out (fun k_ hk => (⟨hk, hk.2⟩ : _ ∧ k_ ≠ gb266))) (fun _ hk => hk.2) (.slice Ao39 t262.length co39)) (fun _ hk => ⟨hk.1.1.1, ⟨hk.1.1.2.1, ⟨hk.1.1.2.2, hk.1.2⟩⟩⟩)))⟩; have n2_ : Aside0 (Kd.V k30 30 w43 w.heap.size (fun k_ => some k_ ≠ (.slice Ao33 t255.length co33 : Value).ownBlock ∧ some k_ ≠ (v259 : Value).ownBlock ∧ k_ ≠ gb249 ∧ k_ ≠ gb250 ∧ k_ ≠ gb266) (.slice Ao39 t262.length co39) t262) := ⟨(by rw [hw]; exact (by (with_reducible repeat (first | apply Kd.V_alloc | apply Kd.V_drewN | apply Kd.V_drew)); exact Kd.V_mono (Kd.V_far (p := ⟨gb266, 0, none⟩) (Kd.V_mono HO264.out (fun k_ hk => (⟨hk, hk.2⟩ : _ ∧ k_ ≠ gb266))) (fun _ hk => hk.2) (.slice Ao39 t262.length co39)) (fun _ hk => ⟨hk.1.1.1, ⟨hk.1.1.2.1, ⟨hk.1.1.2.2.1, ⟨hk.1.1.2.2.2, hk.1.2⟩⟩⟩⟩)))⟩; have n3_ : Aside0 (w43.heap[gb249]? = some (.cells #[.slice A0 l0.length c0] 26 (0, 0))) := ⟨(by rw [hw]; exact (by (with_reducible repeat (first | refine blk_drewN ?_ _ | refine blk_drew ?_ | refine blk_alloc ?_ _)); refine blk_far ?_ NB249_266.out _; (with_reducible repeat (first | refine blk_drewN ?_ _ | refine blk_drew ?_ | refine blk_alloc ?_ _)); exact BK249.out))⟩; have n4_ : Aside0 (w43.heap[gb250]? = some (.cells #[.slice A1 l1.length c1] 26 (0, 0))) := ⟨(by rw [hw]; exact (by (with_reducible repeat (first | refine blk_drewN ?_ _ | refine blk_drew ?_ | refine blk_alloc ?_ _)); refine blk_far ?_ NB250_266.out _; (with_reducible repeat (first | refine blk_drewN ?_ _ | refine blk_drew ?_ | refine blk_alloc ?_ _)); exact BK250.out))⟩; have n5_ : Aside0 (w43.heap[gb266]? = some (.cells #[.slice Ao39 t262.length co39] 26 (0, 0))) := ⟨(by rw [hw]; exact (by (with_reducible repeat (first | refine blk_drewN ?_ _ | refine blk_drew ?_ | refine blk_alloc ?_ _)); refine blk_put (cs := #[.slice none 0 0]) ?_ 0 _ rfl; (with_reducible repeat (first | refine blk_drewN ?_ _ | refine blk_drew ?_ | refine blk_alloc ?_ _)); exact BK266.out))⟩; have n6_ : Aside0 (Below w.heap.size w w43) := ⟨(by rw [hw]; exact (by repeat (with_reducible first | exact HB.out | apply below_alloc | apply pw_below_drewN | apply below_drew1 | refine below_set ?_ GE249.out | refine below_set ?_ GE250.out | refine below_set ?_ GE266.out)))⟩; clear hw; clear HO257; clear HO260; clear HO264; clear BK249; clear BK250; clear BK266; clear HB; have HO257 := n0_; have HO260 := n1_; have HO264 := n2_; have BK249 := n3_; have BK250 := n4_; have BK266 := n5_; have HB := n6_; clear n0_ n1_ n2_ n3_ n4_ n5_ n6_) | ((with_reducible refine gate_callee (f := 24) rfl ?_); refine goesL_ (some 97) rfl rfl Tryd.func24 (by kernel_rfl) rfl #[.slice Ao33 t255.length co33, .string a2] rfl (by (try simp only [List.map_toArray, List.map_cons, List.map_nil]); first | done | rfl | (simp only [List.length_drop, List.length_take]; rfl)) ?_; (with_reducible refine (tallymanref7_Make.calls k3 (fun k_ => (some k_ ≠ (v259 : Value).ownBlock ∧ (k_ ≠ gb249 ∧ (k_ ≠ gb250 ∧ k_ ≠ gb266)))) _ _ t255 a2 t267 t270 _ ?side1 A28.out).mono ?_); (case side1 => exact Kd.N_V (HO257.out)); rintro e w44 ⟨v268, rfl, ho0, hb⟩; refine ⟨_, rfl, ?_⟩; have n0_ := yN_ HO257 hb; have n1_ := yN_ HO260 hb; have n2_ := yV_ HO264 hb; have n3_ := xa_ (Kd.V_lower (Kd.V_mono (ok' := fun k_ => some k_ ≠ (v259 : Value).ownBlock ∧ k_ ≠ gb249 ∧ k_ ≠ gb250 ∧ k_ ≠ gb266) ho0 (fun k_ hk_ => ⟨Or.elim hk_ (fun hs_ => hs_.1) (fun hn_ => (Kd.fresh' (Kd.N_lt (xN_ HO260.out)) k_ hn_)), Or.elim hk_ (fun hs_ => hs_.2.1) (fun hn_ => (Kd.freshB (xb_ BK249.out) k_ hn_)), Or.elim hk_ (fun hs_ => hs_.2.2.1) (fun hn_ => (Kd.freshB (xb_ BK250.out) k_ hn_)), Or.elim hk_ (fun hs_ => hs_.2.2.2) (fun hn_ => (Kd.freshB (xb_ BK266.out) k_ hn_))⟩)) (below_size (by repeat (with_reducible first | exact HB.out | apply below_alloc | apply pw_below_drewN | apply below_drew1 | refine below_set ?_ GE249.out | refine below_set ?_ GE250.out | refine below_set ?_ GE266.out)))); have n4_ := yb_ BK249 hb; have n5_ := yb_ BK250 hb; have n6_ := yb_ BK266 hb; have n7_ := xa_ (below_step (by repeat (with_reducible first | exact HB.out | apply below_alloc | apply pw_below_drewN | apply below_drew1 | refine below_set ?_ GE249.out | refine below_set ?_ GE250.out | refine below_set ?_ GE266.out)) hb); clear HO257; clear HO260; clear HO264; clear BK249; clear BK250; clear BK266; clear HB; have HO257 := n0_; have HO260 := n1_; have HO264 := n2_; have HO269 := n3_; have BK249 := n4_; have BK250 := n5_; have BK266 := n6_; have HB := n7_; clear n0_ n1_ n2_ n3_ n4_ n5_ n6_ n7_; (try clear hb); (try clear ho0)))
           (try simp only [Act.put, List.setIfInBounds_toArray, List.set_cons_zero, List.set_cons_succ])
           go_cut [18] (fun v18 wc => ∃ (kq : Nat) (x18_28 : Int), v18 = .int .i64 x18_28 ∧ Aside0 (tallymanlaw8_TreeSays.j3 kq t255 t258 t261 t265 t267 t270 x18_28 l0 l1 t262 = some r) ∧ Aside0 (kq ≤ k3) ∧ Aside0 (Kd.N k94 94 wc w.heap.size (fun k_ => some k_ ≠ (v259 : Value).ownBlock ∧ k_ ≠ gb249 ∧ k_ ≠ gb250 ∧ k_ ≠ gb266) (.slice Ao33 t255.length co33) t255) ∧ Aside0 (Kd.N k94 94 wc w.heap.size (fun k_ => some k_ ≠ ((.slice Ao33 t255.length co33) : Value).ownBlock ∧ k_ ≠ gb249 ∧ k_ ≠ gb250 ∧ k_ ≠ gb266) v259 t258) ∧ Aside0 (Kd.V k94 94 wc w.heap.size (fun k_ => some k_ ≠ (v259 : Value).ownBlock ∧ k_ ≠ gb249 ∧ k_ ≠ gb250 ∧ k_ ≠ gb266) v268 t267) ∧ Aside0 (Kd.V k30 30 wc w.heap.size (fun k_ => some k_ ≠ ((.slice Ao33 t255.length co33) : Value).ownBlock ∧ some k_ ≠ (v259 : Value).ownBlock ∧ k_ ≠ gb249 ∧ k_ ≠ gb250 ∧ k_ ≠ gb266) (.slice Ao39 t262.length co39) t262) ∧ Aside0 (wc.heap[gb249]? = some (.cells #[(.slice A0 l0.length c0)] 26 (0, 0))) ∧ Aside0 (wc.heap[gb250]? = some (.cells #[(.slice A1 l1.length c1)] 26 (0, 0))) ∧ Aside0 (wc.heap[gb266]? = some (.cells #[(.slice Ao39 t262.length co39)] 26 (0, 0))) ∧ Aside0 (Below w.heap.size w wc))
           case first =>
            have H := HC29.out
            clear HC29
            by_cases c45 : t261 = true
            ·subst c45
             have H1 : ((tallymanref7_Bytes.f k3 t255).bind fun t271 => (tallymanlaw8_TreeSays.j3 k3 t255 t258 true t265 t267 t270 t271 l0 l1 t262)) = some r := by rw [if_pos rfl] at H; exact H
             clear H
             have H := H1
             clear H1
             replace H := Option.bind_eq_some_iff.mp H
             obtain ⟨t271, A460, H⟩ := H
             replace H : (tallymanlaw8_TreeSays.j3 k3 t255 t258 true t265 t267 t270 t271 l0 l1 t262) = some r := H
             have A46 := xa_ A460
             clear A460
             have H' := xa_ H
             clear H
             go_wp2_with (first | ((with_reducible refine gate_callee (f := 25) rfl ?_); refine goesL_ (some 102) rfl rfl Tryd.func25 (by kernel_rfl) rfl #[.slice Ao33 t255.length co33] rfl (by (try simp only [List.map_toArray, List.map_cons, List.map_nil]); first | done | rfl | (simp only [List.length_drop, List.length_take]; rfl)) ?_; (with_reducible refine (tallymanref7_Bytes.calls k3 _ _ t255 t271 _ ?side1 ?side2 A46.out).mono ?_); (case side1 => exact xC_ (Kd.N_reads' HO257.out).2.2); (case side2 => exact (Kd.N_reads' HO257.out).2.1); rintro e w' ⟨rfl, ⟨nd, rfl⟩⟩; refine ⟨_, rfl, ?_⟩))
             go_meet
             case rel => exact ⟨_, (t271), (by first | rfl | (simp; done) | (simp [*]; done)), H', ⟨by have := HJ5.out; have := HK2.out; have := HK3.out; first | omega | exact Nat.le_refl _⟩, ⟨by (with_reducible repeat (first | apply Kd.N_alloc | apply Kd.N_drewN | apply Kd.N_drew)); exact HO257.out⟩, ⟨by (with_reducible repeat (first | apply Kd.N_alloc | apply Kd.N_drewN | apply Kd.N_drew)); exact HO260.out⟩, ⟨by (with_reducible repeat (first | apply Kd.V_alloc | apply Kd.V_drewN | apply Kd.V_drew)); exact HO269.out⟩, ⟨by (with_reducible repeat (first | apply Kd.V_alloc | apply Kd.V_drewN | apply Kd.V_drew)); exact HO264.out⟩, ⟨by (with_reducible repeat (first | refine blk_drewN ?_ _ | refine blk_drew ?_ | refine blk_alloc ?_ _)); exact BK249.out⟩, ⟨by (with_reducible repeat (first | refine blk_drewN ?_ _ | refine blk_drew ?_ | refine blk_alloc ?_ _)); exact BK250.out⟩, ⟨by (with_reducible repeat (first | refine blk_drewN ?_ _ | refine blk_drew ?_ | refine blk_alloc ?_ _)); exact BK266.out⟩, ⟨by repeat (with_reducible first | exact HB.out | apply below_alloc | apply pw_below_drewN | apply below_drew1 | refine below_set ?_ GE249.out | refine below_set ?_ GE250.out | refine below_set ?_ GE266.out)⟩⟩
            ·replace c45 := Bool.eq_false_iff.mpr c45
             subst c45
             have H1 : (tallymanlaw8_TreeSays.j3 k3 t255 t258 false t265 t267 t270 0 l0 l1 t262) = some r := by rw [if_neg (show ¬ (false = true) by decide)] at H; exact H
             clear H
             have H := H1
             clear H1
             have H' := xa_ H
             clear H
             go_wp2
             go_meet
             case rel => exact ⟨_, (0), (by first | rfl | (simp; done) | (simp [*]; done)), H', ⟨by have := HJ5.out; have := HK2.out; have := HK3.out; first | omega | exact Nat.le_refl _⟩, ⟨by (with_reducible repeat (first | apply Kd.N_alloc | apply Kd.N_drewN | apply Kd.N_drew)); exact HO257.out⟩, ⟨by (with_reducible repeat (first | apply Kd.N_alloc | apply Kd.N_drewN | apply Kd.N_drew)); exact HO260.out⟩, ⟨by (with_reducible repeat (first | apply Kd.V_alloc | apply Kd.V_drewN | apply Kd.V_drew)); exact HO269.out⟩, ⟨by (with_reducible repeat (first | apply Kd.V_alloc | apply Kd.V_drewN | apply Kd.V_drew)); exact HO264.out⟩, ⟨by (with_reducible repeat (first | refine blk_drewN ?_ _ | refine blk_drew ?_ | refine blk_alloc ?_ _)); exact BK249.out⟩, ⟨by (with_reducible repeat (first | refine blk_drewN ?_ _ | refine blk_drew ?_ | refine blk_alloc ?_ _)); exact BK250.out⟩, ⟨by (with_reducible repeat (first | refine blk_drewN ?_ _ | refine blk_drew ?_ | refine blk_alloc ?_ _)); exact BK266.out⟩, ⟨by repeat (with_reducible first | exact HB.out | apply below_alloc | apply pw_below_drewN | apply below_drew1 | refine below_set ?_ GE249.out | refine below_set ?_ GE250.out | refine below_set ?_ GE266.out)⟩⟩
           case rest =>
            clear HC29
            try clear c1
            try clear c2
            try clear p2
            try clear q2
            try clear hx2
            try clear c3
            try clear c4
            try clear c5
            try clear p6
            try clear c8
            try clear c8b0
            try clear c8b1
            try clear c9
            try clear c9b0
            try clear c9b1
            try clear c10
            try clear c13
            try clear c16
            try clear c16b0
            try clear c17
            try clear c17b0
            try clear c18
            try clear c18b0
            try clear c18b1
            try clear c19
            try clear c19b0
            try clear c19b1
            try clear c20
            try clear c20b0
            try clear c21
            try clear c21b0
            try clear c22
            try clear c22b0
            try clear c22b1
            try clear c23
            try clear c23b0
            try clear c23b1
            try clear c24
            try clear c25
            try clear p25
            try clear q25
            try clear hx25
            try clear c35
            try clear c40
            try clear c41
            try clear c45
            try clear hcz14_0
            try clear hcz15_0
            try clear hcz36_0
            try clear hcz42_0
            try clear hfz14_0
            try clear hfz15_0
            try clear hfz36_0
            try clear hfz42_0
            try clear hx251_0
            try clear hx251_1
            try clear hx251_2
            try clear hx252_0
            try clear hx252_1
            try clear hx252_2
            try clear hx253_0
            try clear hx253_1
            try clear hx253_2
            try clear hx254_0
            try clear hx254_1
            try clear hx254_2
            try clear p2
            try clear p251
            try clear p252
            try clear p253
            try clear p254
            try clear p6
            try clear q2
            try clear q251
            try clear q252
            try clear q253
            try clear q254
            obtain ⟨kq, x18_28, rfl, HA, HJ28, HO_11, HO_12, HO_16, HO__r, BK249, BK250, BK266, HB⟩ := hcut
            cases kq with
            | zero => exact absurd HA.out (by simp [tallymanlaw8_TreeSays.j3])
            | succ kj28 =>
             have H := HA.out
             clear HA
             simp only [tallymanlaw8_TreeSays.j3] at H
             replace H := Option.bind_eq_some_iff.mp H
             obtain ⟨t272, A470, H⟩ := H
             replace H : (if (t272 == t261) = true then ((tree_Same.f l0 l1).bind fun t273 => (if t261 = true then ((tallymanref7_GoodTree.f kj28 t258).bind fun t274 => (if t274 = true then ((tallymanref7_Alike.f kj28 t255 t258).bind fun t275 => (if (t273 == t275) = true then (if t265 = t270 then ((tallymanlaw8_own.f kj28 t262).bind fun t276 => ((tallymanref7_Alike.f kj28 t276 t267).bind fun t279 => (if t279 = true then ((tree_Bytes.f kj28 l0).bind fun t280 => (if t280 = x18_28 then ((tree_Clean.f l0).bind fun t281 => ((tallymanlaw8_own.f kj28 t281).bind fun t284 => ((tallymanref7_Clean.f kj28 t255).bind fun t287 => ((tallymanref7_Alike.f kj28 t284 t287).bind fun t290 => (some t290))))) else (some false))) else (some false)))) else (some false)) else (some false))) else (if (t273 == false) = true then (if t265 = t270 then ((tallymanlaw8_own.f kj28 t262).bind fun t291 => ((tallymanref7_Alike.f kj28 t291 t267).bind fun t294 => (if t294 = true then ((tree_Bytes.f kj28 l0).bind fun t295 => (if t295 = x18_28 then ((tree_Clean.f l0).bind fun t296 => ((tallymanlaw8_own.f kj28 t296).bind fun t299 => ((tallymanref7_Clean.f kj28 t255).bind fun t302 => ((tallymanref7_Alike.f kj28 t299 t302).bind fun t305 => (some t305))))) else (some false))) else (some false)))) else (some false)) else (some false)))) else (if (t273 == false) = true then (if t265 = t270 then ((tallymanlaw8_own.f kj28 t262).bind fun t306 => ((tallymanref7_Alike.f kj28 t306 t267).bind fun t309 => (if t309 = true then ((tree_Bytes.f kj28 l0).bind fun t310 => (if t310 = x18_28 then ((tree_Clean.f l0).bind fun t311 => ((tallymanlaw8_own.f kj28 t311).bind fun t314 => ((tallymanref7_Clean.f kj28 t255).bind fun t317 => ((tallymanref7_Alike.f kj28 t314 t317).bind fun t320 => (some t320))))) else (some false))) else (some false)))) else (some false)) else (some false)))) else (some false)) = some r := H
             have A47 := xa_ A470
             clear A470
             by_cases c48 : (t272 == t261) = true
             ·rw [if_pos c48] at H
              have c48b0 : (t272 == t261) = true := c48
              (try (have c48b1 : decide (t272 = t261) = true := by simpa using c48))
              (try (have c48b2 : (t272 == t261) = true := by simpa using c48))
              clear c48
              replace H := Option.bind_eq_some_iff.mp H
              obtain ⟨t273, A490, H⟩ := H
              replace H : (if t261 = true then ((tallymanref7_GoodTree.f kj28 t258).bind fun t274 => (if t274 = true then ((tallymanref7_Alike.f kj28 t255 t258).bind fun t275 => (if (t273 == t275) = true then (if t265 = t270 then ((tallymanlaw8_own.f kj28 t262).bind fun t276 => ((tallymanref7_Alike.f kj28 t276 t267).bind fun t279 => (if t279 = true then ((tree_Bytes.f kj28 l0).bind fun t280 => (if t280 = x18_28 then ((tree_Clean.f l0).bind fun t281 => ((tallymanlaw8_own.f kj28 t281).bind fun t284 => ((tallymanref7_Clean.f kj28 t255).bind fun t287 => ((tallymanref7_Alike.f kj28 t284 t287).bind fun t290 => (some t290))))) else (some false))) else (some false)))) else (some false)) else (some false))) else (if (t273 == false) = true then (if t265 = t270 then ((tallymanlaw8_own.f kj28 t262).bind fun t291 => ((tallymanref7_Alike.f kj28 t291 t267).bind fun t294 => (if t294 = true then ((tree_Bytes.f kj28 l0).bind fun t295 => (if t295 = x18_28 then ((tree_Clean.f l0).bind fun t296 => ((tallymanlaw8_own.f kj28 t296).bind fun t299 => ((tallymanref7_Clean.f kj28 t255).bind fun t302 => ((tallymanref7_Alike.f kj28 t299 t302).bind fun t305 => (some t305))))) else (some false))) else (some false)))) else (some false)) else (some false)))) else (if (t273 == false) = true then (if t265 = t270 then ((tallymanlaw8_own.f kj28 t262).bind fun t306 => ((tallymanref7_Alike.f kj28 t306 t267).bind fun t309 => (if t309 = true then ((tree_Bytes.f kj28 l0).bind fun t310 => (if t310 = x18_28 then ((tree_Clean.f l0).bind fun t311 => ((tallymanlaw8_own.f kj28 t311).bind fun t314 => ((tallymanref7_Clean.f kj28 t255).bind fun t317 => ((tallymanref7_Alike.f kj28 t314 t317).bind fun t320 => (some t320))))) else (some false))) else (some false)))) else (some false)) else (some false))) = some r := H
              have A49 := xa_ A490
              clear A490
              by_cases c50 : t261 = true
              ·subst c50
               have H1 : ((tallymanref7_GoodTree.f kj28 t258).bind fun t274 => (if t274 = true then ((tallymanref7_Alike.f kj28 t255 t258).bind fun t275 => (if (t273 == t275) = true then (if t265 = t270 then ((tallymanlaw8_own.f kj28 t262).bind fun t276 => ((tallymanref7_Alike.f kj28 t276 t267).bind fun t279 => (if t279 = true then ((tree_Bytes.f kj28 l0).bind fun t280 => (if t280 = x18_28 then ((tree_Clean.f l0).bind fun t281 => ((tallymanlaw8_own.f kj28 t281).bind fun t284 => ((tallymanref7_Clean.f kj28 t255).bind fun t287 => ((tallymanref7_Alike.f kj28 t284 t287).bind fun t290 => (some t290))))) else (some false))) else (some false)))) else (some false)) else (some false))) else (if (t273 == false) = true then (if t265 = t270 then ((tallymanlaw8_own.f kj28 t262).bind fun t291 => ((tallymanref7_Alike.f kj28 t291 t267).bind fun t294 => (if t294 = true then ((tree_Bytes.f kj28 l0).bind fun t295 => (if t295 = x18_28 then ((tree_Clean.f l0).bind fun t296 => ((tallymanlaw8_own.f kj28 t296).bind fun t299 => ((tallymanref7_Clean.f kj28 t255).bind fun t302 => ((tallymanref7_Alike.f kj28 t299 t302).bind fun t305 => (some t305))))) else (some false))) else (some false)))) else (some false)) else (some false)))) = some r := by rw [if_pos rfl] at H; exact H
               clear H
               have H := H1
               clear H1
               replace H := Option.bind_eq_some_iff.mp H
               obtain ⟨t274, A510, H⟩ := H
               replace H : (if t274 = true then ((tallymanref7_Alike.f kj28 t255 t258).bind fun t275 => (if (t273 == t275) = true then (if t265 = t270 then ((tallymanlaw8_own.f kj28 t262).bind fun t276 => ((tallymanref7_Alike.f kj28 t276 t267).bind fun t279 => (if t279 = true then ((tree_Bytes.f kj28 l0).bind fun t280 => (if t280 = x18_28 then ((tree_Clean.f l0).bind fun t281 => ((tallymanlaw8_own.f kj28 t281).bind fun t284 => ((tallymanref7_Clean.f kj28 t255).bind fun t287 => ((tallymanref7_Alike.f kj28 t284 t287).bind fun t290 => (some t290))))) else (some false))) else (some false)))) else (some false)) else (some false))) else (if (t273 == false) = true then (if t265 = t270 then ((tallymanlaw8_own.f kj28 t262).bind fun t291 => ((tallymanref7_Alike.f kj28 t291 t267).bind fun t294 => (if t294 = true then ((tree_Bytes.f kj28 l0).bind fun t295 => (if t295 = x18_28 then ((tree_Clean.f l0).bind fun t296 => ((tallymanlaw8_own.f kj28 t296).bind fun t299 => ((tallymanref7_Clean.f kj28 t255).bind fun t302 => ((tallymanref7_Alike.f kj28 t299 t302).bind fun t305 => (some t305))))) else (some false))) else (some false)))) else (some false)) else (some false))) = some r := H
               have A51 := xa_ A510
               clear A510
               by_cases c52 : t274 = true
               ·subst c52
                have H1 : ((tallymanref7_Alike.f kj28 t255 t258).bind fun t275 => (if (t273 == t275) = true then (if t265 = t270 then ((tallymanlaw8_own.f kj28 t262).bind fun t276 => ((tallymanref7_Alike.f kj28 t276 t267).bind fun t279 => (if t279 = true then ((tree_Bytes.f kj28 l0).bind fun t280 => (if t280 = x18_28 then ((tree_Clean.f l0).bind fun t281 => ((tallymanlaw8_own.f kj28 t281).bind fun t284 => ((tallymanref7_Clean.f kj28 t255).bind fun t287 => ((tallymanref7_Alike.f kj28 t284 t287).bind fun t290 => (some t290))))) else (some false))) else (some false)))) else (some false)) else (some false))) = some r := by rw [if_pos rfl] at H; exact H
                clear H
                have H := H1
                clear H1
                replace H := Option.bind_eq_some_iff.mp H
                obtain ⟨t275, A530, H⟩ := H
                replace H : (if (t273 == t275) = true then (if t265 = t270 then ((tallymanlaw8_own.f kj28 t262).bind fun t276 => ((tallymanref7_Alike.f kj28 t276 t267).bind fun t279 => (if t279 = true then ((tree_Bytes.f kj28 l0).bind fun t280 => (if t280 = x18_28 then ((tree_Clean.f l0).bind fun t281 => ((tallymanlaw8_own.f kj28 t281).bind fun t284 => ((tallymanref7_Clean.f kj28 t255).bind fun t287 => ((tallymanref7_Alike.f kj28 t284 t287).bind fun t290 => (some t290))))) else (some false))) else (some false)))) else (some false)) else (some false)) = some r := H
                have A53 := xa_ A530
                clear A530
                by_cases c54 : (t273 == t275) = true
                ·rw [if_pos c54] at H
                 have c54b0 : (t273 == t275) = true := c54
                 (try (have c54b1 : decide (t273 = t275) = true := by simpa using c54))
                 (try (have c54b2 : (t273 == t275) = true := by simpa using c54))
                 clear c54
                 by_cases c55 : t265 = t270
                 ·rw [if_pos c55] at H
                  have c55b0 : (t265 == t270) = true := beq_iff_eq.mpr c55
                  have c55b1 : (t265 != t270) = false := bne_eq_false_iff_eq.mpr c55
                  clear c55
                  replace H := Option.bind_eq_some_iff.mp H
                  obtain ⟨t276, A560, H⟩ := H
                  replace H : ((tallymanref7_Alike.f kj28 t276 t267).bind fun t279 => (if t279 = true then ((tree_Bytes.f kj28 l0).bind fun t280 => (if t280 = x18_28 then ((tree_Clean.f l0).bind fun t281 => ((tallymanlaw8_own.f kj28 t281).bind fun t284 => ((tallymanref7_Clean.f kj28 t255).bind fun t287 => ((tallymanref7_Alike.f kj28 t284 t287).bind fun t290 => (some t290))))) else (some false))) else (some false))) = some r := H
                  have A56 := xa_ A560
                  clear A560
                  replace H := Option.bind_eq_some_iff.mp H
                  obtain ⟨t279, A570, H⟩ := H
                  replace H : (if t279 = true then ((tree_Bytes.f kj28 l0).bind fun t280 => (if t280 = x18_28 then ((tree_Clean.f l0).bind fun t281 => ((tallymanlaw8_own.f kj28 t281).bind fun t284 => ((tallymanref7_Clean.f kj28 t255).bind fun t287 => ((tallymanref7_Alike.f kj28 t284 t287).bind fun t290 => (some t290))))) else (some false))) else (some false)) = some r := H
                  have A57 := xa_ A570
                  clear A570
                  by_cases c58 : t279 = true
                  ·subst c58
                   have H1 : ((tree_Bytes.f kj28 l0).bind fun t280 => (if t280 = x18_28 then ((tree_Clean.f l0).bind fun t281 => ((tallymanlaw8_own.f kj28 t281).bind fun t284 => ((tallymanref7_Clean.f kj28 t255).bind fun t287 => ((tallymanref7_Alike.f kj28 t284 t287).bind fun t290 => (some t290))))) else (some false))) = some r := by rw [if_pos rfl] at H; exact H
                   clear H
                   have H := H1
                   clear H1
                   replace H := Option.bind_eq_some_iff.mp H
                   obtain ⟨t280, A590, H⟩ := H
                   replace H : (if t280 = x18_28 then ((tree_Clean.f l0).bind fun t281 => ((tallymanlaw8_own.f kj28 t281).bind fun t284 => ((tallymanref7_Clean.f kj28 t255).bind fun t287 => ((tallymanref7_Alike.f kj28 t284 t287).bind fun t290 => (some t290))))) else (some false)) = some r := H
                   have A59 := xa_ A590
                   clear A590
                   by_cases c60 : t280 = x18_28
                   ·rw [if_pos c60] at H
                    have c60b0 : (t280 == x18_28) = true := beq_iff_eq.mpr c60
                    have c60b1 : (t280 != x18_28) = false := bne_eq_false_iff_eq.mpr c60
                    clear c60
                    replace H := Option.bind_eq_some_iff.mp H
                    obtain ⟨t281, A610, H⟩ := H
                    replace H : ((tallymanlaw8_own.f kj28 t281).bind fun t284 => ((tallymanref7_Clean.f kj28 t255).bind fun t287 => ((tallymanref7_Alike.f kj28 t284 t287).bind fun t290 => (some t290)))) = some r := H
                    have A61 := xa_ A610
                    clear A610
                    replace H := Option.bind_eq_some_iff.mp H
                    obtain ⟨t284, A620, H⟩ := H
                    replace H : ((tallymanref7_Clean.f kj28 t255).bind fun t287 => ((tallymanref7_Alike.f kj28 t284 t287).bind fun t290 => (some t290))) = some r := H
                    have A62 := xa_ A620
                    clear A620
                    replace H := Option.bind_eq_some_iff.mp H
                    obtain ⟨t287, A630, H⟩ := H
                    replace H : ((tallymanref7_Alike.f kj28 t284 t287).bind fun t290 => (some t290)) = some r := H
                    have A63 := xa_ A630
                    clear A630
                    replace H := Option.bind_eq_some_iff.mp H
                    obtain ⟨t290, A640, H⟩ := H
                    replace H : (some t290) = some r := H
                    have A64 := xa_ A640
                    clear A640
                    obtain rfl := Option.some.inj H
                    have hnb65 := NB249_250.out
                    have hnc65 := NB250_249.out
                    have hnb66 := NB249_266.out
                    have hnc66 := NB266_249.out
                    have hcz67_0 : wc.cell? ⟨gb249, 0, none⟩ = some (.slice A0 l0.length c0) := (blk_cell BK249.out 0).trans rfl
                    have hfz67_0 := blk_frozen BK249.out 0
                    go_wp2_with (first | ((with_reducible refine gate_callee (f := 14) rfl ?_); refine goesL_ (some 104) rfl rfl Tryd.func14 (by kernel_rfl) rfl #[.agg #[.slice A0 l0.length c0]] rfl (by (try simp only [List.map_toArray, List.map_cons, List.map_nil]); first | done | rfl | (simp only [List.length_drop, List.length_take]; rfl)) ?_; (with_reducible refine (tree_Good.calls _ _ l0 t272 _ ?side1 ?side2 A47.out).mono ?_); (case side1 => exact xC_ (Kd.C_below HR0.out HB.out)); (case side2 => exact HC0.out); rintro e w68 ⟨rfl, hb⟩; refine ⟨_, rfl, ?_⟩; replace HO_11 := yN_ HO_11 hb; replace HO_12 := yN_ HO_12 hb; replace HO_16 := yV_ HO_16 hb; replace HO__r := yV_ HO__r hb; replace BK249 := yb_ BK249 hb; replace BK250 := yb_ BK250 hb; replace BK266 := yb_ BK266 hb; replace HB := xa_ (below_step (by repeat (with_reducible first | exact HB.out | apply below_alloc | apply pw_below_drewN | apply below_drew1 | refine below_set ?_ GE249.out | refine below_set ?_ GE250.out | refine below_set ?_ GE266.out)) hb); (try clear hb); have hcz69_0 : w68.cell? ⟨gb249, 0, none⟩ = some (.slice A0 l0.length c0) := (blk_cell BK249.out 0).trans rfl; have hfz69_0 := blk_frozen BK249.out 0; have hnb70 := NB250_266.out; have hnc70 := NB266_250.out; have hcz71_0 : w68.cell? ⟨gb250, 0, none⟩ = some (.slice A1 l1.length c1) := (blk_cell BK250.out 0).trans rfl; have hfz71_0 := blk_frozen BK250.out 0) | (go_at_call 20; (with_reducible refine (tree_Same.calls _ _ l0 _ _ l1 t273 _ ?side1 ?side2 ?side3 ?side4 A49.out).mono ?_); (case side1 => exact xC_ (Kd.C_below HR0.out HB.out)); (case side2 => exact HC0.out); (case side3 => exact xC_ (Kd.C_below HR1.out HB.out)); (case side4 => exact HC1.out); rintro e w72 ⟨rfl, hb⟩; replace HO_11 := yN_ HO_11 hb; replace HO_12 := yN_ HO_12 hb; replace HO_16 := yV_ HO_16 hb; replace HO__r := yV_ HO__r hb; replace BK249 := yb_ BK249 hb; replace BK250 := yb_ BK250 hb; replace BK266 := yb_ BK266 hb; replace HB := xa_ (below_step (by repeat (with_reducible first | exact HB.out | apply below_alloc | apply pw_below_drewN | apply below_drew1 | refine below_set ?_ GE249.out | refine below_set ?_ GE250.out | refine below_set ?_ GE266.out)) hb); (try clear hb); obtain ⟨Ao73, co73, eo73⟩ := Kd.N_slice HO_12.out; subst eo73) | (go_at_call 23; (with_reducible refine (tallymanref7_GoodTree.calls kj28 _ _ t258 true _ ?side1 ?side2 A51.out).mono ?_); (case side1 => exact xC_ (Kd.N_reads' HO_12.out).2.2); (case side2 => exact (Kd.N_reads' HO_12.out).2.1); rintro e w74 ⟨rfl, hb⟩; replace HO_11 := yN_ HO_11 hb; replace HO_12 := yN_ HO_12 hb; replace HO_16 := yV_ HO_16 hb; replace HO__r := yV_ HO__r hb; replace BK249 := yb_ BK249 hb; replace BK250 := yb_ BK250 hb; replace BK266 := yb_ BK266 hb; replace HB := xa_ (below_step (by repeat (with_reducible first | exact HB.out | apply below_alloc | apply pw_below_drewN | apply below_drew1 | refine below_set ?_ GE249.out | refine below_set ?_ GE250.out | refine below_set ?_ GE266.out)) hb); (try clear hb)) | (go_at_call 26; (with_reducible refine (tallymanref7_Alike.calls kj28 _ _ t255 _ _ t258 t275 _ ?side1 ?side2 ?side3 ?side4 A53.out).mono ?_); (case side1 => exact xC_ (Kd.N_reads' HO_11.out).2.2); (case side2 => exact (Kd.N_reads' HO_11.out).2.1); (case side3 => exact xC_ (Kd.N_reads' HO_12.out).2.2); (case side4 => exact (Kd.N_reads' HO_12.out).2.1); rintro e w' ⟨rfl, ⟨nd, rfl⟩⟩; have hcz75_0 : w74.cell? ⟨gb266, 0, none⟩ = some (.slice Ao39 t262.length co39) := (blk_cell BK266.out 0).trans rfl; have hfz75_0 := blk_frozen BK266.out 0) | (go_at_call 22; (with_reducible refine (tallymanlaw8_own.calls kj28 (fun k_ => (some k_ ≠ (.slice Ao33 t255.length co33 : Value).ownBlock ∧ (some k_ ≠ (.slice Ao73 t258.length co73 : Value).ownBlock ∧ (k_ ≠ gb249 ∧ (k_ ≠ gb250 ∧ k_ ≠ gb266))))) _ _ t262 t276 _ ?side1 A56.out).mono ?_); (case side1 => exact HO__r.out); rintro e w76 ⟨v277, rfl, ho0, hb⟩; have n0_ := xa_ (Kd.N_elder' (xN_ HO_11.out) (Kd.N_base ho0) hb); have n1_ := xa_ (Kd.N_elder' (xN_ HO_12.out) (Kd.N_base ho0) hb); have n2_ := xa_ (Kd.V_elder' (xV_ HO_16.out) (Kd.N_base ho0) hb); have n3_ := xa_ (Kd.V_elder' (xV_ HO__r.out) (Kd.N_base ho0) hb); have n4_ := xa_ (Kd.N_lower (Kd.N_mono (ok' := fun k_ => some k_ ≠ (.slice Ao33 t255.length co33 : Value).ownBlock ∧ some k_ ≠ (.slice Ao73 t258.length co73 : Value).ownBlock ∧ k_ ≠ gb249 ∧ k_ ≠ gb250 ∧ k_ ≠ gb266) ho0 (fun k_ hk_ => ⟨Or.elim hk_ (fun hs_ => hs_.1) (fun hn_ => (Kd.fresh' (Kd.N_lt (xN_ HO_11.out)) k_ hn_)), Or.elim hk_ (fun hs_ => hs_.2.1) (fun hn_ => (Kd.fresh' (Kd.N_lt (xN_ HO_12.out)) k_ hn_)), Or.elim hk_ (fun hs_ => hs_.2.2.1) (fun hn_ => (Kd.freshB (xb_ BK249.out) k_ hn_)), Or.elim hk_ (fun hs_ => hs_.2.2.2.1) (fun hn_ => (Kd.freshB (xb_ BK250.out) k_ hn_)), Or.elim hk_ (fun hs_ => hs_.2.2.2.2) (fun hn_ => (Kd.freshB (xb_ BK266.out) k_ hn_))⟩)) (below_size (by repeat (with_reducible first | exact HB.out | apply below_alloc | apply pw_below_drewN | apply below_drew1 | refine below_set ?_ GE249.out | refine below_set ?_ GE250.out | refine below_set ?_ GE266.out)))); have n5_ := yb_ BK249 hb; have n6_ := yb_ BK250 hb; have n7_ := yb_ BK266 hb; have n8_ := xa_ (below_step (by repeat (with_reducible first | exact HB.out | apply below_alloc | apply pw_below_drewN | apply below_drew1 | refine below_set ?_ GE249.out | refine below_set ?_ GE250.out | refine below_set ?_ GE266.out)) hb); clear HO_11; clear HO_12; clear HO_16; clear HO__r; clear BK249; clear BK250; clear BK266; clear HB; have HO_11 := n0_; have HO_12 := n1_; have HO_16 := n2_; have HO__r := n3_; have HO278 := n4_; have BK249 := n5_; have BK250 := n6_; have BK266 := n7_; have HB := n8_; clear n0_ n1_ n2_ n3_ n4_ n5_ n6_ n7_ n8_; (try clear hb); (try clear ho0); obtain ⟨Ao77, co77, eo77⟩ := Kd.N_slice HO278.out; subst eo77; obtain ⟨Ao78, co78, eo78⟩ := Kd.V_slice HO_16.out; subst eo78) | (go_at_call 26; (with_reducible refine (tallymanref7_Alike.calls kj28 _ _ t276 _ _ t267 true _ ?side1 ?side2 ?side3 ?side4 A57.out).mono ?_); (case side1 => exact xC_ (Kd.N_reads' HO278.out).2.2); (case side2 => exact (Kd.N_reads' HO278.out).2.1); (case side3 => exact xC_ (Kd.V_reads' HO_16.out).2.2); (case side4 => exact (Kd.V_reads' HO_16.out).2.1); rintro e w' ⟨rfl, ⟨nd, rfl⟩⟩; have hcz79_0 : w76.cell? ⟨gb249, 0, none⟩ = some (.slice A0 l0.length c0) := (blk_cell BK249.out 0).trans rfl; have hfz79_0 := blk_frozen BK249.out 0) | (go_at_call 15; (with_reducible refine (tree_Bytes.calls kj28 _ _ l0 t280 _ ?side1 ?side2 A59.out).mono ?_); (case side1 => repeat (first | exact (Kd.C_below HR0.out (by repeat (with_reducible first | exact HB.out | apply below_alloc | apply pw_below_drewN | apply below_drew1 | refine below_set ?_ GE249.out | refine below_set ?_ GE250.out | refine below_set ?_ GE266.out))) | (with_reducible refine Kd.C_alloc ?_ _) | (with_reducible refine Kd.C_drewN ?_ _) | (with_reducible refine Kd.C_drew ?_))); (case side2 => exact HC0.out); rintro e w80 ⟨rfl, hb⟩; replace HO_11 := yN_ HO_11 hb; replace HO_12 := yN_ HO_12 hb; replace HO_16 := yV_ HO_16 hb; replace HO__r := yV_ HO__r hb; replace HO278 := yN_ HO278 hb; replace BK249 := yb_ BK249 hb; replace BK250 := yb_ BK250 hb; replace BK266 := yb_ BK266 hb; replace HB := xa_ (below_step (by repeat (with_reducible first | exact HB.out | apply below_alloc | apply pw_below_drewN | apply below_drew1 | refine below_set ?_ GE249.out | refine below_set ?_ GE250.out | refine below_set ?_ GE266.out)) hb); (try clear hb); have hcz81_0 : w80.cell? ⟨gb249, 0, none⟩ = some (.slice A0 l0.length c0) := (blk_cell BK249.out 0).trans rfl; have hfz81_0 := blk_frozen BK249.out 0) | (go_at_call 27; (with_reducible refine (tree_Clean.calls (fun k_ => k_ < w.heap.size) _ _ l0 t281 _ ?side1 A61.out).mono ?_); (case side1 => exact Kd.V_mk HC0.out (Kd.F_below (Kd.C_F k30_heap HR0.out) (by repeat (with_reducible first | exact HB.out | apply below_alloc | apply pw_below_drewN | apply below_drew1 | refine below_set ?_ GE249.out | refine below_set ?_ GE250.out | refine below_set ?_ GE266.out)))); rintro e w82 ⟨v282, rfl, ho0, hb⟩; have n0_ := yN_ HO_11 hb; have n1_ := yN_ HO_12 hb; have n2_ := yV_ HO_16 hb; have n3_ := yV_ HO__r hb; have n4_ := yN_ HO278 hb; have n5_ := xa_ (Kd.V_lower (Kd.V_mono (ok' := fun k_ => some k_ ≠ (.slice Ao33 t255.length co33 : Value).ownBlock ∧ some k_ ≠ (.slice Ao73 t258.length co73 : Value).ownBlock ∧ some k_ ≠ (.slice Ao77 t276.length co77 : Value).ownBlock ∧ k_ ≠ gb249 ∧ k_ ≠ gb250 ∧ k_ ≠ gb266) ho0 (fun k_ hk_ => ⟨Or.elim hk_ (fun hs_ => fun e_ => Nat.not_le.2 hs_ (Kd.N_base HO_11.out k_ e_.symm)) (fun hn_ => (Kd.fresh' (Kd.N_lt (xN_ HO_11.out)) k_ hn_)), Or.elim hk_ (fun hs_ => fun e_ => Nat.not_le.2 hs_ (Kd.N_base HO_12.out k_ e_.symm)) (fun hn_ => (Kd.fresh' (Kd.N_lt (xN_ HO_12.out)) k_ hn_)), Or.elim hk_ (fun hs_ => fun e_ => Nat.not_le.2 hs_ (Kd.N_base HO278.out k_ e_.symm)) (fun hn_ => (Kd.fresh' (Kd.N_lt (xN_ HO278.out)) k_ hn_)), Or.elim hk_ (fun hs_ => fun e_ => Nat.not_le.2 hs_ (by rw [e_]; exact GW249.out)) (fun hn_ => (Kd.freshB (xb_ BK249.out) k_ hn_)), Or.elim hk_ (fun hs_ => fun e_ => Nat.not_le.2 hs_ (by rw [e_]; exact GW250.out)) (fun hn_ => (Kd.freshB (xb_ BK250.out) k_ hn_)), Or.elim hk_ (fun hs_ => fun e_ => Nat.not_le.2 hs_ (by rw [e_]; exact GW266.out)) (fun hn_ => (Kd.freshB (xb_ BK266.out) k_ hn_))⟩)) (below_size (by repeat (with_reducible first | exact HB.out | apply below_alloc | apply pw_below_drewN | apply below_drew1 | refine below_set ?_ GE249.out | refine below_set ?_ GE250.out | refine below_set ?_ GE266.out)))); have n6_ := yb_ BK249 hb; have n7_ := yb_ BK250 hb; have n8_ := yb_ BK266 hb; have n9_ := xa_ (below_step (by repeat (with_reducible first | exact HB.out | apply below_alloc | apply pw_below_drewN | apply below_drew1 | refine below_set ?_ GE249.out | refine below_set ?_ GE250.out | refine below_set ?_ GE266.out)) hb); clear HO_11; clear HO_12; clear HO_16; clear HO__r; clear HO278; clear BK249; clear BK250; clear BK266; clear HB; have HO_11 := n0_; have HO_12 := n1_; have HO_16 := n2_; have HO__r := n3_; have HO278 := n4_; have HO283 := n5_; have BK249 := n6_; have BK250 := n7_; have BK266 := n8_; have HB := n9_; clear n0_ n1_ n2_ n3_ n4_ n5_ n6_ n7_ n8_ n9_; (try clear hb); (try clear ho0); obtain ⟨Ao83, co83, eo83⟩ := Kd.V_slice HO283.out; subst eo83) | (go_at_call 22; (with_reducible refine (tallymanlaw8_own.calls kj28 (fun k_ => (some k_ ≠ (.slice Ao33 t255.length co33 : Value).ownBlock ∧ (some k_ ≠ (.slice Ao73 t258.length co73 : Value).ownBlock ∧ (some k_ ≠ (.slice Ao77 t276.length co77 : Value).ownBlock ∧ (k_ ≠ gb249 ∧ (k_ ≠ gb250 ∧ k_ ≠ gb266)))))) _ _ t281 t284 _ ?side1 A62.out).mono ?_); (case side1 => exact HO283.out); rintro e w84 ⟨v285, rfl, ho0, hb⟩; have n0_ := xa_ (Kd.N_elder' (xN_ HO_11.out) (Kd.N_base ho0) hb); have n1_ := xa_ (Kd.N_elder' (xN_ HO_12.out) (Kd.N_base ho0) hb); have n2_ := xa_ (Kd.V_elder' (xV_ HO_16.out) (Kd.N_base ho0) hb); have n3_ := xa_ (Kd.V_elder' (xV_ HO__r.out) (Kd.N_base ho0) hb); have n4_ := xa_ (Kd.N_elder' (xN_ HO278.out) (Kd.N_base ho0) hb); have n5_ := xa_ (Kd.V_elder' (xV_ HO283.out) (Kd.N_base ho0) hb); have n6_ := xa_ (Kd.N_lower (Kd.N_mono (ok' := fun k_ => some k_ ≠ (.slice Ao33 t255.length co33 : Value).ownBlock ∧ some k_ ≠ (.slice Ao73 t258.length co73 : Value).ownBlock ∧ some k_ ≠ (.slice Ao77 t276.length co77 : Value).ownBlock ∧ k_ ≠ gb249 ∧ k_ ≠ gb250 ∧ k_ ≠ gb266) ho0 (fun k_ hk_ => ⟨Or.elim hk_ (fun hs_ => hs_.1) (fun hn_ => (Kd.fresh' (Kd.N_lt (xN_ HO_11.out)) k_ hn_)), Or.elim hk_ (fun hs_ => hs_.2.1) (fun hn_ => (Kd.fresh' (Kd.N_lt (xN_ HO_12.out)) k_ hn_)), Or.elim hk_ (fun hs_ => hs_.2.2.1) (fun hn_ => (Kd.fresh' (Kd.N_lt (xN_ HO278.out)) k_ hn_)), Or.elim hk_ (fun hs_ => hs_.2.2.2.1) (fun hn_ => (Kd.freshB (xb_ BK249.out) k_ hn_)), Or.elim hk_ (fun hs_ => hs_.2.2.2.2.1) (fun hn_ => (Kd.freshB (xb_ BK250.out) k_ hn_)), Or.elim hk_ (fun hs_ => hs_.2.2.2.2.2) (fun hn_ => (Kd.freshB (xb_ BK266.out) k_ hn_))⟩)) (below_size (by repeat (with_reducible first | exact HB.out | apply below_alloc | apply pw_below_drewN | apply below_drew1 | refine below_set ?_ GE249.out | refine below_set ?_ GE250.out | refine below_set ?_ GE266.out)))); have n7_ := yb_ BK249 hb; have n8_ := yb_ BK250 hb; have n9_ := yb_ BK266 hb; have n10_ := xa_ (below_step (by repeat (with_reducible first | exact HB.out | apply below_alloc | apply pw_below_drewN | apply below_drew1 | refine below_set ?_ GE249.out | refine below_set ?_ GE250.out | refine below_set ?_ GE266.out)) hb); clear HO_11; clear HO_12; clear HO_16; clear HO__r; clear HO278; clear HO283; clear BK249; clear BK250; clear BK266; clear HB; have HO_11 := n0_; have HO_12 := n1_; have HO_16 := n2_; have HO__r := n3_; have HO278 := n4_; have HO283 := n5_; have HO286 := n6_; have BK249 := n7_; have BK250 := n8_; have BK266 := n9_; have HB := n10_; clear n0_ n1_ n2_ n3_ n4_ n5_ n6_ n7_ n8_ n9_ n10_; (try clear hb); (try clear ho0)) | (go_at_call 28; (with_reducible refine (tallymanref7_Clean.calls kj28 (fun k_ => (((some k_ ≠ (.slice Ao73 t258.length co73 : Value).ownBlock ∧ (k_ ≠ gb249 ∧ (k_ ≠ gb250 ∧ k_ ≠ gb266))) ∧ some k_ ≠ (.slice Ao77 t276.length co77 : Value).ownBlock) ∧ some k_ ≠ (v285 : Value).ownBlock)) _ _ t255 t287 _ ?side1 A63.out).mono ?_); (case side1 => exact Kd.N_V (HO_11.out)); rintro e w85 ⟨v288, rfl, ho0, hb⟩; have n0_ := yN_ HO_11 hb; have n1_ := yN_ HO_12 hb; have n2_ := yV_ HO_16 hb; have n3_ := yV_ HO__r hb; have n4_ := yN_ HO278 hb; have n5_ := yV_ HO283 hb; have n6_ := yN_ HO286 hb; have n7_ := xa_ (Kd.V_lower (Kd.V_mono (ok' := fun k_ => some k_ ≠ (.slice Ao73 t258.length co73 : Value).ownBlock ∧ some k_ ≠ (.slice Ao77 t276.length co77 : Value).ownBlock ∧ some k_ ≠ (v285 : Value).ownBlock ∧ k_ ≠ gb249 ∧ k_ ≠ gb250 ∧ k_ ≠ gb266) ho0 (fun k_ hk_ => ⟨Or.elim hk_ (fun hs_ => hs_.1.1.1) (fun hn_ => (Kd.fresh' (Kd.N_lt (xN_ HO_12.out)) k_ hn_)), Or.elim hk_ (fun hs_ => hs_.1.2) (fun hn_ => (Kd.fresh' (Kd.N_lt (xN_ HO278.out)) k_ hn_)), Or.elim hk_ (fun hs_ => hs_.2) (fun hn_ => (Kd.fresh' (Kd.N_lt (xN_ HO286.out)) k_ hn_)), Or.elim hk_ (fun hs_ => hs_.1.1.2.1) (fun hn_ => (Kd.freshB (xb_ BK249.out) k_ hn_)), Or.elim hk_ (fun hs_ => hs_.1.1.2.2.1) (fun hn_ => (Kd.freshB (xb_ BK250.out) k_ hn_)), Or.elim hk_ (fun hs_ => hs_.1.1.2.2.2) (fun hn_ => (Kd.freshB (xb_ BK266.out) k_ hn_))⟩)) (below_size (by repeat (with_reducible first | exact HB.out | apply below_alloc | apply pw_below_drewN | apply below_drew1 | refine below_set ?_ GE249.out | refine below_set ?_ GE250.out | refine below_set ?_ GE266.out)))); have n8_ := yb_ BK249 hb; have n9_ := yb_ BK250 hb; have n10_ := yb_ BK266 hb; have n11_ := xa_ (below_step (by repeat (with_reducible first | exact HB.out | apply below_alloc | apply pw_below_drewN | apply below_drew1 | refine below_set ?_ GE249.out | refine below_set ?_ GE250.out | refine below_set ?_ GE266.out)) hb); clear HO_11; clear HO_12; clear HO_16; clear HO__r; clear HO278; clear HO283; clear HO286; clear BK249; clear BK250; clear BK266; clear HB; have HO_11 := n0_; have HO_12 := n1_; have HO_16 := n2_; have HO__r := n3_; have HO278 := n4_; have HO283 := n5_; have HO286 := n6_; have HO289 := n7_; have BK249 := n8_; have BK250 := n9_; have BK266 := n10_; have HB := n11_; clear n0_ n1_ n2_ n3_ n4_ n5_ n6_ n7_ n8_ n9_ n10_ n11_; (try clear hb); (try clear ho0); obtain ⟨Ao86, co86, eo86⟩ := Kd.N_slice HO286.out; subst eo86; obtain ⟨Ao87, co87, eo87⟩ := Kd.V_slice HO289.out; subst eo87) | (go_at_call 26; (with_reducible refine (tallymanref7_Alike.calls kj28 _ _ t284 _ _ t287 t290 _ ?side1 ?side2 ?side3 ?side4 A64.out).mono ?_); (case side1 => exact xC_ (Kd.N_reads' HO286.out).2.2); (case side2 => exact (Kd.N_reads' HO286.out).2.1); (case side3 => exact xC_ (Kd.V_reads' HO289.out).2.2); (case side4 => exact (Kd.V_reads' HO289.out).2.1); rintro e w' ⟨rfl, ⟨nd, rfl⟩⟩))
                    go_ret
                    exact ⟨by first | rfl | (simp [errW_none, errW_some] <;> rfl) | (simp [*, errW_none, errW_some] <;> rfl), by repeat (with_reducible first | exact HB.out | apply below_alloc | apply pw_below_drewN | apply below_drew1 | refine below_set ?_ GE249.out | refine below_set ?_ GE250.out | refine below_set ?_ GE266.out)⟩
                   ·rw [if_neg c60] at H
                    have c60b0 : (t280 == x18_28) = false := beq_eq_false_iff_ne.mpr c60
                    have c60b1 : (t280 != x18_28) = true := bne_iff_ne.mpr c60
                    exact absurd ((Option.some.inj H).trans HT_.out) (by decide)
                  ·replace c58 := Bool.eq_false_iff.mpr c58
                   subst c58
                   have H1 : (some false) = some r := by rw [if_neg (show ¬ (false = true) by decide)] at H; exact H
                   clear H
                   have H := H1
                   clear H1
                   exact absurd ((Option.some.inj H).trans HT_.out) (by decide)
                 ·rw [if_neg c55] at H
                  have c55b0 : (t265 == t270) = false := beq_eq_false_iff_ne.mpr c55
                  have c55b1 : (t265 != t270) = true := bne_iff_ne.mpr c55
                  exact absurd ((Option.some.inj H).trans HT_.out) (by decide)
                ·rw [if_neg c54] at H
                 have c54b0 : (t273 == t275) = false := by simpa using c54
                 (try (have c54b1 : decide (t273 = t275) = false := by simpa using c54))
                 (try (have c54b2 : (t273 == t275) = false := by simpa using c54))
                 (try (have c54b3 : ¬ (t273 = t275) := by simpa using c54))
                 clear c54
                 exact absurd ((Option.some.inj H).trans HT_.out) (by decide)
               ·replace c52 := Bool.eq_false_iff.mpr c52
                subst c52
                have H1 : (if (t273 == false) = true then (if t265 = t270 then ((tallymanlaw8_own.f kj28 t262).bind fun t291 => ((tallymanref7_Alike.f kj28 t291 t267).bind fun t294 => (if t294 = true then ((tree_Bytes.f kj28 l0).bind fun t295 => (if t295 = x18_28 then ((tree_Clean.f l0).bind fun t296 => ((tallymanlaw8_own.f kj28 t296).bind fun t299 => ((tallymanref7_Clean.f kj28 t255).bind fun t302 => ((tallymanref7_Alike.f kj28 t299 t302).bind fun t305 => (some t305))))) else (some false))) else (some false)))) else (some false)) else (some false)) = some r := by rw [if_neg (show ¬ (false = true) by decide)] at H; exact H
                clear H
                have H := H1
                clear H1
                by_cases c88 : (t273 == false) = true
                ·rw [if_pos c88] at H
                 have c88b0 : (t273 == false) = true := c88
                 (try (have c88b1 : decide (t273 = false) = true := by simpa using c88))
                 (try (have c88b2 : (t273 == false) = true := by simpa using c88))
                 clear c88
                 by_cases c89 : t265 = t270
                 ·rw [if_pos c89] at H
                  have c89b0 : (t265 == t270) = true := beq_iff_eq.mpr c89
                  have c89b1 : (t265 != t270) = false := bne_eq_false_iff_eq.mpr c89
                  clear c89
                  replace H := Option.bind_eq_some_iff.mp H
                  obtain ⟨t291, A900, H⟩ := H
                  replace H : ((tallymanref7_Alike.f kj28 t291 t267).bind fun t294 => (if t294 = true then ((tree_Bytes.f kj28 l0).bind fun t295 => (if t295 = x18_28 then ((tree_Clean.f l0).bind fun t296 => ((tallymanlaw8_own.f kj28 t296).bind fun t299 => ((tallymanref7_Clean.f kj28 t255).bind fun t302 => ((tallymanref7_Alike.f kj28 t299 t302).bind fun t305 => (some t305))))) else (some false))) else (some false))) = some r := H
                  have A90 := xa_ A900
                  clear A900
                  replace H := Option.bind_eq_some_iff.mp H
                  obtain ⟨t294, A910, H⟩ := H
                  replace H : (if t294 = true then ((tree_Bytes.f kj28 l0).bind fun t295 => (if t295 = x18_28 then ((tree_Clean.f l0).bind fun t296 => ((tallymanlaw8_own.f kj28 t296).bind fun t299 => ((tallymanref7_Clean.f kj28 t255).bind fun t302 => ((tallymanref7_Alike.f kj28 t299 t302).bind fun t305 => (some t305))))) else (some false))) else (some false)) = some r := H
                  have A91 := xa_ A910
                  clear A910
                  by_cases c92 : t294 = true
                  ·subst c92
                   have H1 : ((tree_Bytes.f kj28 l0).bind fun t295 => (if t295 = x18_28 then ((tree_Clean.f l0).bind fun t296 => ((tallymanlaw8_own.f kj28 t296).bind fun t299 => ((tallymanref7_Clean.f kj28 t255).bind fun t302 => ((tallymanref7_Alike.f kj28 t299 t302).bind fun t305 => (some t305))))) else (some false))) = some r := by rw [if_pos rfl] at H; exact H
                   clear H
                   have H := H1
                   clear H1
                   replace H := Option.bind_eq_some_iff.mp H
                   obtain ⟨t295, A930, H⟩ := H
                   replace H : (if t295 = x18_28 then ((tree_Clean.f l0).bind fun t296 => ((tallymanlaw8_own.f kj28 t296).bind fun t299 => ((tallymanref7_Clean.f kj28 t255).bind fun t302 => ((tallymanref7_Alike.f kj28 t299 t302).bind fun t305 => (some t305))))) else (some false)) = some r := H
                   have A93 := xa_ A930
                   clear A930
                   by_cases c94 : t295 = x18_28
                   ·rw [if_pos c94] at H
                    have c94b0 : (t295 == x18_28) = true := beq_iff_eq.mpr c94
                    have c94b1 : (t295 != x18_28) = false := bne_eq_false_iff_eq.mpr c94
                    clear c94
                    replace H := Option.bind_eq_some_iff.mp H
                    obtain ⟨t296, A950, H⟩ := H
                    replace H : ((tallymanlaw8_own.f kj28 t296).bind fun t299 => ((tallymanref7_Clean.f kj28 t255).bind fun t302 => ((tallymanref7_Alike.f kj28 t299 t302).bind fun t305 => (some t305)))) = some r := H
                    have A95 := xa_ A950
                    clear A950
                    replace H := Option.bind_eq_some_iff.mp H
                    obtain ⟨t299, A960, H⟩ := H
                    replace H : ((tallymanref7_Clean.f kj28 t255).bind fun t302 => ((tallymanref7_Alike.f kj28 t299 t302).bind fun t305 => (some t305))) = some r := H
                    have A96 := xa_ A960
                    clear A960
                    replace H := Option.bind_eq_some_iff.mp H
                    obtain ⟨t302, A970, H⟩ := H
                    replace H : ((tallymanref7_Alike.f kj28 t299 t302).bind fun t305 => (some t305)) = some r := H
                    have A97 := xa_ A970
                    clear A970
                    replace H := Option.bind_eq_some_iff.mp H
                    obtain ⟨t305, A980, H⟩ := H
                    replace H : (some t305) = some r := H
                    have A98 := xa_ A980
                    clear A980
                    obtain rfl := Option.some.inj H
                    have hnb99 := NB249_250.out
                    have hnc99 := NB250_249.out
                    have hnb100 := NB249_266.out
                    have hnc100 := NB266_249.out
                    have hcz101_0 : wc.cell? ⟨gb249, 0, none⟩ = some (.slice A0 l0.length c0) := (blk_cell BK249.out 0).trans rfl
                    have hfz101_0 := blk_frozen BK249.out 0
                    go_wp2_with (first | ((with_reducible refine gate_callee (f := 14) rfl ?_); refine goesL_ (some 104) rfl rfl Tryd.func14 (by kernel_rfl) rfl #[.agg #[.slice A0 l0.length c0]] rfl (by (try simp only [List.map_toArray, List.map_cons, List.map_nil]); first | done | rfl | (simp only [List.length_drop, List.length_take]; rfl)) ?_; (with_reducible refine (tree_Good.calls _ _ l0 t272 _ ?side1 ?side2 A47.out).mono ?_); (case side1 => exact xC_ (Kd.C_below HR0.out HB.out)); (case side2 => exact HC0.out); rintro e w102 ⟨rfl, hb⟩; refine ⟨_, rfl, ?_⟩; replace HO_11 := yN_ HO_11 hb; replace HO_12 := yN_ HO_12 hb; replace HO_16 := yV_ HO_16 hb; replace HO__r := yV_ HO__r hb; replace BK249 := yb_ BK249 hb; replace BK250 := yb_ BK250 hb; replace BK266 := yb_ BK266 hb; replace HB := xa_ (below_step (by repeat (with_reducible first | exact HB.out | apply below_alloc | apply pw_below_drewN | apply below_drew1 | refine below_set ?_ GE249.out | refine below_set ?_ GE250.out | refine below_set ?_ GE266.out)) hb); (try clear hb); have hcz103_0 : w102.cell? ⟨gb249, 0, none⟩ = some (.slice A0 l0.length c0) := (blk_cell BK249.out 0).trans rfl; have hfz103_0 := blk_frozen BK249.out 0; have hnb104 := NB250_266.out; have hnc104 := NB266_250.out; have hcz105_0 : w102.cell? ⟨gb250, 0, none⟩ = some (.slice A1 l1.length c1) := (blk_cell BK250.out 0).trans rfl; have hfz105_0 := blk_frozen BK250.out 0) | (go_at_call 20; (with_reducible refine (tree_Same.calls _ _ l0 _ _ l1 t273 _ ?side1 ?side2 ?side3 ?side4 A49.out).mono ?_); (case side1 => exact xC_ (Kd.C_below HR0.out HB.out)); (case side2 => exact HC0.out); (case side3 => exact xC_ (Kd.C_below HR1.out HB.out)); (case side4 => exact HC1.out); rintro e w106 ⟨rfl, hb⟩; replace HO_11 := yN_ HO_11 hb; replace HO_12 := yN_ HO_12 hb; replace HO_16 := yV_ HO_16 hb; replace HO__r := yV_ HO__r hb; replace BK249 := yb_ BK249 hb; replace BK250 := yb_ BK250 hb; replace BK266 := yb_ BK266 hb; replace HB := xa_ (below_step (by repeat (with_reducible first | exact HB.out | apply below_alloc | apply pw_below_drewN | apply below_drew1 | refine below_set ?_ GE249.out | refine below_set ?_ GE250.out | refine below_set ?_ GE266.out)) hb); (try clear hb); obtain ⟨Ao107, co107, eo107⟩ := Kd.N_slice HO_12.out; subst eo107) | (go_at_call 23; (with_reducible refine (tallymanref7_GoodTree.calls kj28 _ _ t258 false _ ?side1 ?side2 A51.out).mono ?_); (case side1 => exact xC_ (Kd.N_reads' HO_12.out).2.2); (case side2 => exact (Kd.N_reads' HO_12.out).2.1); rintro e w108 ⟨rfl, hb⟩; replace HO_11 := yN_ HO_11 hb; replace HO_12 := yN_ HO_12 hb; replace HO_16 := yV_ HO_16 hb; replace HO__r := yV_ HO__r hb; replace BK249 := yb_ BK249 hb; replace BK250 := yb_ BK250 hb; replace BK266 := yb_ BK266 hb; replace HB := xa_ (below_step (by repeat (with_reducible first | exact HB.out | apply below_alloc | apply pw_below_drewN | apply below_drew1 | refine below_set ?_ GE249.out | refine below_set ?_ GE250.out | refine below_set ?_ GE266.out)) hb); (try clear hb); have hcz109_0 : w108.cell? ⟨gb266, 0, none⟩ = some (.slice Ao39 t262.length co39) := (blk_cell BK266.out 0).trans rfl; have hfz109_0 := blk_frozen BK266.out 0) | (go_at_call 22; (with_reducible refine (tallymanlaw8_own.calls kj28 (fun k_ => (some k_ ≠ (.slice Ao33 t255.length co33 : Value).ownBlock ∧ (some k_ ≠ (.slice Ao107 t258.length co107 : Value).ownBlock ∧ (k_ ≠ gb249 ∧ (k_ ≠ gb250 ∧ k_ ≠ gb266))))) _ _ t262 t291 _ ?side1 A90.out).mono ?_); (case side1 => exact HO__r.out); rintro e w110 ⟨v292, rfl, ho0, hb⟩; have n0_ := xa_ (Kd.N_elder' (xN_ HO_11.out) (Kd.N_base ho0) hb); have n1_ := xa_ (Kd.N_elder' (xN_ HO_12.out) (Kd.N_base ho0) hb); have n2_ := xa_ (Kd.V_elder' (xV_ HO_16.out) (Kd.N_base ho0) hb); have n3_ := xa_ (Kd.V_elder' (xV_ HO__r.out) (Kd.N_base ho0) hb); have n4_ := xa_ (Kd.N_lower (Kd.N_mono (ok' := fun k_ => some k_ ≠ (.slice Ao33 t255.length co33 : Value).ownBlock ∧ some k_ ≠ (.slice Ao107 t258.length co107 : Value).ownBlock ∧ k_ ≠ gb249 ∧ k_ ≠ gb250 ∧ k_ ≠ gb266) ho0 (fun k_ hk_ => ⟨Or.elim hk_ (fun hs_ => hs_.1) (fun hn_ => (Kd.fresh' (Kd.N_lt (xN_ HO_11.out)) k_ hn_)), Or.elim hk_ (fun hs_ => hs_.2.1) (fun hn_ => (Kd.fresh' (Kd.N_lt (xN_ HO_12.out)) k_ hn_)), Or.elim hk_ (fun hs_ => hs_.2.2.1) (fun hn_ => (Kd.freshB (xb_ BK249.out) k_ hn_)), Or.elim hk_ (fun hs_ => hs_.2.2.2.1) (fun hn_ => (Kd.freshB (xb_ BK250.out) k_ hn_)), Or.elim hk_ (fun hs_ => hs_.2.2.2.2) (fun hn_ => (Kd.freshB (xb_ BK266.out) k_ hn_))⟩)) (below_size (by repeat (with_reducible first | exact HB.out | apply below_alloc | apply pw_below_drewN | apply below_drew1 | refine below_set ?_ GE249.out | refine below_set ?_ GE250.out | refine below_set ?_ GE266.out)))); have n5_ := yb_ BK249 hb; have n6_ := yb_ BK250 hb; have n7_ := yb_ BK266 hb; have n8_ := xa_ (below_step (by repeat (with_reducible first | exact HB.out | apply below_alloc | apply pw_below_drewN | apply below_drew1 | refine below_set ?_ GE249.out | refine below_set ?_ GE250.out | refine below_set ?_ GE266.out)) hb); clear HO_11; clear HO_12; clear HO_16; clear HO__r; clear BK249; clear BK250; clear BK266; clear HB; have HO_11 := n0_; have HO_12 := n1_; have HO_16 := n2_; have HO__r := n3_; have HO293 := n4_; have BK249 := n5_; have BK250 := n6_; have BK266 := n7_; have HB := n8_; clear n0_ n1_ n2_ n3_ n4_ n5_ n6_ n7_ n8_; (try clear hb); (try clear ho0); obtain ⟨Ao111, co111, eo111⟩ := Kd.N_slice HO293.out; subst eo111; obtain ⟨Ao112, co112, eo112⟩ := Kd.V_slice HO_16.out; subst eo112) | (go_at_call 26; (with_reducible refine (tallymanref7_Alike.calls kj28 _ _ t291 _ _ t267 true _ ?side1 ?side2 ?side3 ?side4 A91.out).mono ?_); (case side1 => exact xC_ (Kd.N_reads' HO293.out).2.2); (case side2 => exact (Kd.N_reads' HO293.out).2.1); (case side3 => exact xC_ (Kd.V_reads' HO_16.out).2.2); (case side4 => exact (Kd.V_reads' HO_16.out).2.1); rintro e w' ⟨rfl, ⟨nd, rfl⟩⟩; have hcz113_0 : w110.cell? ⟨gb249, 0, none⟩ = some (.slice A0 l0.length c0) := (blk_cell BK249.out 0).trans rfl; have hfz113_0 := blk_frozen BK249.out 0) | (go_at_call 15; (with_reducible refine (tree_Bytes.calls kj28 _ _ l0 t295 _ ?side1 ?side2 A93.out).mono ?_); (case side1 => repeat (first | exact (Kd.C_below HR0.out (by repeat (with_reducible first | exact HB.out | apply below_alloc | apply pw_below_drewN | apply below_drew1 | refine below_set ?_ GE249.out | refine below_set ?_ GE250.out | refine below_set ?_ GE266.out))) | (with_reducible refine Kd.C_alloc ?_ _) | (with_reducible refine Kd.C_drewN ?_ _) | (with_reducible refine Kd.C_drew ?_))); (case side2 => exact HC0.out); rintro e w114 ⟨rfl, hb⟩; replace HO_11 := yN_ HO_11 hb; replace HO_12 := yN_ HO_12 hb; replace HO_16 := yV_ HO_16 hb; replace HO__r := yV_ HO__r hb; replace HO293 := yN_ HO293 hb; replace BK249 := yb_ BK249 hb; replace BK250 := yb_ BK250 hb; replace BK266 := yb_ BK266 hb; replace HB := xa_ (below_step (by repeat (with_reducible first | exact HB.out | apply below_alloc | apply pw_below_drewN | apply below_drew1 | refine below_set ?_ GE249.out | refine below_set ?_ GE250.out | refine below_set ?_ GE266.out)) hb); (try clear hb); have hcz115_0 : w114.cell? ⟨gb249, 0, none⟩ = some (.slice A0 l0.length c0) := (blk_cell BK249.out 0).trans rfl; have hfz115_0 := blk_frozen BK249.out 0) | (go_at_call 27; (with_reducible refine (tree_Clean.calls (fun k_ => k_ < w.heap.size) _ _ l0 t296 _ ?side1 A95.out).mono ?_); (case side1 => exact Kd.V_mk HC0.out (Kd.F_below (Kd.C_F k30_heap HR0.out) (by repeat (with_reducible first | exact HB.out | apply below_alloc | apply pw_below_drewN | apply below_drew1 | refine below_set ?_ GE249.out | refine below_set ?_ GE250.out | refine below_set ?_ GE266.out)))); rintro e w116 ⟨v297, rfl, ho0, hb⟩; have n0_ := yN_ HO_11 hb; have n1_ := yN_ HO_12 hb; have n2_ := yV_ HO_16 hb; have n3_ := yV_ HO__r hb; have n4_ := yN_ HO293 hb; have n5_ := xa_ (Kd.V_lower (Kd.V_mono (ok' := fun k_ => some k_ ≠ (.slice Ao33 t255.length co33 : Value).ownBlock ∧ some k_ ≠ (.slice Ao107 t258.length co107 : Value).ownBlock ∧ some k_ ≠ (.slice Ao111 t291.length co111 : Value).ownBlock ∧ k_ ≠ gb249 ∧ k_ ≠ gb250 ∧ k_ ≠ gb266) ho0 (fun k_ hk_ => ⟨Or.elim hk_ (fun hs_ => fun e_ => Nat.not_le.2 hs_ (Kd.N_base HO_11.out k_ e_.symm)) (fun hn_ => (Kd.fresh' (Kd.N_lt (xN_ HO_11.out)) k_ hn_)), Or.elim hk_ (fun hs_ => fun e_ => Nat.not_le.2 hs_ (Kd.N_base HO_12.out k_ e_.symm)) (fun hn_ => (Kd.fresh' (Kd.N_lt (xN_ HO_12.out)) k_ hn_)), Or.elim hk_ (fun hs_ => fun e_ => Nat.not_le.2 hs_ (Kd.N_base HO293.out k_ e_.symm)) (fun hn_ => (Kd.fresh' (Kd.N_lt (xN_ HO293.out)) k_ hn_)), Or.elim hk_ (fun hs_ => fun e_ => Nat.not_le.2 hs_ (by rw [e_]; exact GW249.out)) (fun hn_ => (Kd.freshB (xb_ BK249.out) k_ hn_)), Or.elim hk_ (fun hs_ => fun e_ => Nat.not_le.2 hs_ (by rw [e_]; exact GW250.out)) (fun hn_ => (Kd.freshB (xb_ BK250.out) k_ hn_)), Or.elim hk_ (fun hs_ => fun e_ => Nat.not_le.2 hs_ (by rw [e_]; exact GW266.out)) (fun hn_ => (Kd.freshB (xb_ BK266.out) k_ hn_))⟩)) (below_size (by repeat (with_reducible first | exact HB.out | apply below_alloc | apply pw_below_drewN | apply below_drew1 | refine below_set ?_ GE249.out | refine below_set ?_ GE250.out | refine below_set ?_ GE266.out)))); have n6_ := yb_ BK249 hb; have n7_ := yb_ BK250 hb; have n8_ := yb_ BK266 hb; have n9_ := xa_ (below_step (by repeat (with_reducible first | exact HB.out | apply below_alloc | apply pw_below_drewN | apply below_drew1 | refine below_set ?_ GE249.out | refine below_set ?_ GE250.out | refine below_set ?_ GE266.out)) hb); clear HO_11; clear HO_12; clear HO_16; clear HO__r; clear HO293; clear BK249; clear BK250; clear BK266; clear HB; have HO_11 := n0_; have HO_12 := n1_; have HO_16 := n2_; have HO__r := n3_; have HO293 := n4_; have HO298 := n5_; have BK249 := n6_; have BK250 := n7_; have BK266 := n8_; have HB := n9_; clear n0_ n1_ n2_ n3_ n4_ n5_ n6_ n7_ n8_ n9_; (try clear hb); (try clear ho0); obtain ⟨Ao117, co117, eo117⟩ := Kd.V_slice HO298.out; subst eo117) | (go_at_call 22; (with_reducible refine (tallymanlaw8_own.calls kj28 (fun k_ => (some k_ ≠ (.slice Ao33 t255.length co33 : Value).ownBlock ∧ (some k_ ≠ (.slice Ao107 t258.length co107 : Value).ownBlock ∧ (some k_ ≠ (.slice Ao111 t291.length co111 : Value).ownBlock ∧ (k_ ≠ gb249 ∧ (k_ ≠ gb250 ∧ k_ ≠ gb266)))))) _ _ t296 t299 _ ?side1 A96.out).mono ?_); (case side1 => exact HO298.out); rintro e w118 ⟨v300, rfl, ho0, hb⟩; have n0_ := xa_ (Kd.N_elder' (xN_ HO_11.out) (Kd.N_base ho0) hb); have n1_ := xa_ (Kd.N_elder' (xN_ HO_12.out) (Kd.N_base ho0) hb); have n2_ := xa_ (Kd.V_elder' (xV_ HO_16.out) (Kd.N_base ho0) hb); have n3_ := xa_ (Kd.V_elder' (xV_ HO__r.out) (Kd.N_base ho0) hb); have n4_ := xa_ (Kd.N_elder' (xN_ HO293.out) (Kd.N_base ho0) hb); have n5_ := xa_ (Kd.V_elder' (xV_ HO298.out) (Kd.N_base ho0) hb); have n6_ := xa_ (Kd.N_lower (Kd.N_mono (ok' := fun k_ => some k_ ≠ (.slice Ao33 t255.length co33 : Value).ownBlock ∧ some k_ ≠ (.slice Ao107 t258.length co107 : Value).ownBlock ∧ some k_ ≠ (.slice Ao111 t291.length co111 : Value).ownBlock ∧ k_ ≠ gb249 ∧ k_ ≠ gb250 ∧ k_ ≠ gb266) ho0 (fun k_ hk_ => ⟨Or.elim hk_ (fun hs_ => hs_.1) (fun hn_ => (Kd.fresh' (Kd.N_lt (xN_ HO_11.out)) k_ hn_)), Or.elim hk_ (fun hs_ => hs_.2.1) (fun hn_ => (Kd.fresh' (Kd.N_lt (xN_ HO_12.out)) k_ hn_)), Or.elim hk_ (fun hs_ => hs_.2.2.1) (fun hn_ => (Kd.fresh' (Kd.N_lt (xN_ HO293.out)) k_ hn_)), Or.elim hk_ (fun hs_ => hs_.2.2.2.1) (fun hn_ => (Kd.freshB (xb_ BK249.out) k_ hn_)), Or.elim hk_ (fun hs_ => hs_.2.2.2.2.1) (fun hn_ => (Kd.freshB (xb_ BK250.out) k_ hn_)), Or.elim hk_ (fun hs_ => hs_.2.2.2.2.2) (fun hn_ => (Kd.freshB (xb_ BK266.out) k_ hn_))⟩)) (below_size (by repeat (with_reducible first | exact HB.out | apply below_alloc | apply pw_below_drewN | apply below_drew1 | refine below_set ?_ GE249.out | refine below_set ?_ GE250.out | refine below_set ?_ GE266.out)))); have n7_ := yb_ BK249 hb; have n8_ := yb_ BK250 hb; have n9_ := yb_ BK266 hb; have n10_ := xa_ (below_step (by repeat (with_reducible first | exact HB.out | apply below_alloc | apply pw_below_drewN | apply below_drew1 | refine below_set ?_ GE249.out | refine below_set ?_ GE250.out | refine below_set ?_ GE266.out)) hb); clear HO_11; clear HO_12; clear HO_16; clear HO__r; clear HO293; clear HO298; clear BK249; clear BK250; clear BK266; clear HB; have HO_11 := n0_; have HO_12 := n1_; have HO_16 := n2_; have HO__r := n3_; have HO293 := n4_; have HO298 := n5_; have HO301 := n6_; have BK249 := n7_; have BK250 := n8_; have BK266 := n9_; have HB := n10_; clear n0_ n1_ n2_ n3_ n4_ n5_ n6_ n7_ n8_ n9_ n10_; (try clear hb); (try clear ho0)) | (go_at_call 28; (with_reducible refine (tallymanref7_Clean.calls kj28 (fun k_ => (((some k_ ≠ (.slice Ao107 t258.length co107 : Value).ownBlock ∧ (k_ ≠ gb249 ∧ (k_ ≠ gb250 ∧ k_ ≠ gb266))) ∧ some k_ ≠ (.slice Ao111 t291.length co111 : Value).ownBlock) ∧ some k_ ≠ (v300 : Value).ownBlock)) _ _ t255 t302 _ ?side1 A97.out).mono ?_); (case side1 => exact Kd.N_V (HO_11.out)); rintro e w119 ⟨v303, rfl, ho0, hb⟩; have n0_ := yN_ HO_11 hb; have n1_ := yN_ HO_12 hb; have n2_ := yV_ HO_16 hb; have n3_ := yV_ HO__r hb; have n4_ := yN_ HO293 hb; have n5_ := yV_ HO298 hb; have n6_ := yN_ HO301 hb; have n7_ := xa_ (Kd.V_lower (Kd.V_mono (ok' := fun k_ => some k_ ≠ (.slice Ao107 t258.length co107 : Value).ownBlock ∧ some k_ ≠ (.slice Ao111 t291.length co111 : Value).ownBlock ∧ some k_ ≠ (v300 : Value).ownBlock ∧ k_ ≠ gb249 ∧ k_ ≠ gb250 ∧ k_ ≠ gb266) ho0 (fun k_ hk_ => ⟨Or.elim hk_ (fun hs_ => hs_.1.1.1) (fun hn_ => (Kd.fresh' (Kd.N_lt (xN_ HO_12.out)) k_ hn_)), Or.elim hk_ (fun hs_ => hs_.1.2) (fun hn_ => (Kd.fresh' (Kd.N_lt (xN_ HO293.out)) k_ hn_)), Or.elim hk_ (fun hs_ => hs_.2) (fun hn_ => (Kd.fresh' (Kd.N_lt (xN_ HO301.out)) k_ hn_)), Or.elim hk_ (fun hs_ => hs_.1.1.2.1) (fun hn_ => (Kd.freshB (xb_ BK249.out) k_ hn_)), Or.elim hk_ (fun hs_ => hs_.1.1.2.2.1) (fun hn_ => (Kd.freshB (xb_ BK250.out) k_ hn_)), Or.elim hk_ (fun hs_ => hs_.1.1.2.2.2) (fun hn_ => (Kd.freshB (xb_ BK266.out) k_ hn_))⟩)) (below_size (by repeat (with_reducible first | exact HB.out | apply below_alloc | apply pw_below_drewN | apply below_drew1 | refine below_set ?_ GE249.out | refine below_set ?_ GE250.out | refine below_set ?_ GE266.out)))); have n8_ := yb_ BK249 hb; have n9_ := yb_ BK250 hb; have n10_ := yb_ BK266 hb; have n11_ := xa_ (below_step (by repeat (with_reducible first | exact HB.out | apply below_alloc | apply pw_below_drewN | apply below_drew1 | refine below_set ?_ GE249.out | refine below_set ?_ GE250.out | refine below_set ?_ GE266.out)) hb); clear HO_11; clear HO_12; clear HO_16; clear HO__r; clear HO293; clear HO298; clear HO301; clear BK249; clear BK250; clear BK266; clear HB; have HO_11 := n0_; have HO_12 := n1_; have HO_16 := n2_; have HO__r := n3_; have HO293 := n4_; have HO298 := n5_; have HO301 := n6_; have HO304 := n7_; have BK249 := n8_; have BK250 := n9_; have BK266 := n10_; have HB := n11_; clear n0_ n1_ n2_ n3_ n4_ n5_ n6_ n7_ n8_ n9_ n10_ n11_; (try clear hb); (try clear ho0); obtain ⟨Ao120, co120, eo120⟩ := Kd.N_slice HO301.out; subst eo120; obtain ⟨Ao121, co121, eo121⟩ := Kd.V_slice HO304.out; subst eo121) | (go_at_call 26; (with_reducible refine (tallymanref7_Alike.calls kj28 _ _ t299 _ _ t302 t305 _ ?side1 ?side2 ?side3 ?side4 A98.out).mono ?_); (case side1 => exact xC_ (Kd.N_reads' HO301.out).2.2); (case side2 => exact (Kd.N_reads' HO301.out).2.1); (case side3 => exact xC_ (Kd.V_reads' HO304.out).2.2); (case side4 => exact (Kd.V_reads' HO304.out).2.1); rintro e w' ⟨rfl, ⟨nd, rfl⟩⟩))
                    go_ret
                    exact ⟨by first | rfl | (simp [errW_none, errW_some] <;> rfl) | (simp [*, errW_none, errW_some] <;> rfl), by repeat (with_reducible first | exact HB.out | apply below_alloc | apply pw_below_drewN | apply below_drew1 | refine below_set ?_ GE249.out | refine below_set ?_ GE250.out | refine below_set ?_ GE266.out)⟩
                   ·rw [if_neg c94] at H
                    have c94b0 : (t295 == x18_28) = false := beq_eq_false_iff_ne.mpr c94
                    have c94b1 : (t295 != x18_28) = true := bne_iff_ne.mpr c94
                    exact absurd ((Option.some.inj H).trans HT_.out) (by decide)
                  ·replace c92 := Bool.eq_false_iff.mpr c92
                   subst c92
                   have H1 : (some false) = some r := by rw [if_neg (show ¬ (false = true) by decide)] at H; exact H
                   clear H
                   have H := H1
                   clear H1
                   exact absurd ((Option.some.inj H).trans HT_.out) (by decide)
                 ·rw [if_neg c89] at H
                  have c89b0 : (t265 == t270) = false := beq_eq_false_iff_ne.mpr c89
                  have c89b1 : (t265 != t270) = true := bne_iff_ne.mpr c89
                  exact absurd ((Option.some.inj H).trans HT_.out) (by decide)
                ·rw [if_neg c88] at H
                 have c88b0 : (t273 == false) = false := by simpa using c88
                 (try (have c88b1 : decide (t273 = false) = false := by simpa using c88))
                 (try (have c88b2 : (t273 == false) = false := by simpa using c88))
                 (try (have c88b3 : ¬ (t273 = false) := by simpa using c88))
                 clear c88
                 exact absurd ((Option.some.inj H).trans HT_.out) (by decide)
              ·replace c50 := Bool.eq_false_iff.mpr c50
               subst c50
               have H1 : (if (t273 == false) = true then (if t265 = t270 then ((tallymanlaw8_own.f kj28 t262).bind fun t306 => ((tallymanref7_Alike.f kj28 t306 t267).bind fun t309 => (if t309 = true then ((tree_Bytes.f kj28 l0).bind fun t310 => (if t310 = x18_28 then ((tree_Clean.f l0).bind fun t311 => ((tallymanlaw8_own.f kj28 t311).bind fun t314 => ((tallymanref7_Clean.f kj28 t255).bind fun t317 => ((tallymanref7_Alike.f kj28 t314 t317).bind fun t320 => (some t320))))) else (some false))) else (some false)))) else (some false)) else (some false)) = some r := by rw [if_neg (show ¬ (false = true) by decide)] at H; exact H
               clear H
               have H := H1
               clear H1
               by_cases c122 : (t273 == false) = true
               ·rw [if_pos c122] at H
                have c122b0 : (t273 == false) = true := c122
                (try (have c122b1 : decide (t273 = false) = true := by simpa using c122))
                (try (have c122b2 : (t273 == false) = true := by simpa using c122))
                clear c122
                by_cases c123 : t265 = t270
                ·rw [if_pos c123] at H
                 have c123b0 : (t265 == t270) = true := beq_iff_eq.mpr c123
                 have c123b1 : (t265 != t270) = false := bne_eq_false_iff_eq.mpr c123
                 clear c123
                 replace H := Option.bind_eq_some_iff.mp H
                 obtain ⟨t306, A1240, H⟩ := H
                 replace H : ((tallymanref7_Alike.f kj28 t306 t267).bind fun t309 => (if t309 = true then ((tree_Bytes.f kj28 l0).bind fun t310 => (if t310 = x18_28 then ((tree_Clean.f l0).bind fun t311 => ((tallymanlaw8_own.f kj28 t311).bind fun t314 => ((tallymanref7_Clean.f kj28 t255).bind fun t317 => ((tallymanref7_Alike.f kj28 t314 t317).bind fun t320 => (some t320))))) else (some false))) else (some false))) = some r := H
                 have A124 := xa_ A1240
                 clear A1240
                 replace H := Option.bind_eq_some_iff.mp H
                 obtain ⟨t309, A1250, H⟩ := H
                 replace H : (if t309 = true then ((tree_Bytes.f kj28 l0).bind fun t310 => (if t310 = x18_28 then ((tree_Clean.f l0).bind fun t311 => ((tallymanlaw8_own.f kj28 t311).bind fun t314 => ((tallymanref7_Clean.f kj28 t255).bind fun t317 => ((tallymanref7_Alike.f kj28 t314 t317).bind fun t320 => (some t320))))) else (some false))) else (some false)) = some r := H
                 have A125 := xa_ A1250
                 clear A1250
                 by_cases c126 : t309 = true
                 ·subst c126
                  have H1 : ((tree_Bytes.f kj28 l0).bind fun t310 => (if t310 = x18_28 then ((tree_Clean.f l0).bind fun t311 => ((tallymanlaw8_own.f kj28 t311).bind fun t314 => ((tallymanref7_Clean.f kj28 t255).bind fun t317 => ((tallymanref7_Alike.f kj28 t314 t317).bind fun t320 => (some t320))))) else (some false))) = some r := by rw [if_pos rfl] at H; exact H
                  clear H
                  have H := H1
                  clear H1
                  replace H := Option.bind_eq_some_iff.mp H
                  obtain ⟨t310, A1270, H⟩ := H
                  replace H : (if t310 = x18_28 then ((tree_Clean.f l0).bind fun t311 => ((tallymanlaw8_own.f kj28 t311).bind fun t314 => ((tallymanref7_Clean.f kj28 t255).bind fun t317 => ((tallymanref7_Alike.f kj28 t314 t317).bind fun t320 => (some t320))))) else (some false)) = some r := H
                  have A127 := xa_ A1270
                  clear A1270
                  by_cases c128 : t310 = x18_28
                  ·rw [if_pos c128] at H
                   have c128b0 : (t310 == x18_28) = true := beq_iff_eq.mpr c128
                   have c128b1 : (t310 != x18_28) = false := bne_eq_false_iff_eq.mpr c128
                   clear c128
                   replace H := Option.bind_eq_some_iff.mp H
                   obtain ⟨t311, A1290, H⟩ := H
                   replace H : ((tallymanlaw8_own.f kj28 t311).bind fun t314 => ((tallymanref7_Clean.f kj28 t255).bind fun t317 => ((tallymanref7_Alike.f kj28 t314 t317).bind fun t320 => (some t320)))) = some r := H
                   have A129 := xa_ A1290
                   clear A1290
                   replace H := Option.bind_eq_some_iff.mp H
                   obtain ⟨t314, A1300, H⟩ := H
                   replace H : ((tallymanref7_Clean.f kj28 t255).bind fun t317 => ((tallymanref7_Alike.f kj28 t314 t317).bind fun t320 => (some t320))) = some r := H
                   have A130 := xa_ A1300
                   clear A1300
                   replace H := Option.bind_eq_some_iff.mp H
                   obtain ⟨t317, A1310, H⟩ := H
                   replace H : ((tallymanref7_Alike.f kj28 t314 t317).bind fun t320 => (some t320)) = some r := H
                   have A131 := xa_ A1310
                   clear A1310
                   replace H := Option.bind_eq_some_iff.mp H
                   obtain ⟨t320, A1320, H⟩ := H
                   replace H : (some t320) = some r := H
                   have A132 := xa_ A1320
                   clear A1320
                   obtain rfl := Option.some.inj H
                   have hnb133 := NB249_250.out
                   have hnc133 := NB250_249.out
                   have hnb134 := NB249_266.out
                   have hnc134 := NB266_249.out
                   have hcz135_0 : wc.cell? ⟨gb249, 0, none⟩ = some (.slice A0 l0.length c0) := (blk_cell BK249.out 0).trans rfl
                   have hfz135_0 := blk_frozen BK249.out 0
                   go_wp2_with (first | ((with_reducible refine gate_callee (f := 14) rfl ?_); refine goesL_ (some 104) rfl rfl Tryd.func14 (by kernel_rfl) rfl #[.agg #[.slice A0 l0.length c0]] rfl (by (try simp only [List.map_toArray, List.map_cons, List.map_nil]); first | done | rfl | (simp only [List.length_drop, List.length_take]; rfl)) ?_; (with_reducible refine (tree_Good.calls _ _ l0 t272 _ ?side1 ?side2 A47.out).mono ?_); (case side1 => exact xC_ (Kd.C_below HR0.out HB.out)); (case side2 => exact HC0.out); rintro e w136 ⟨rfl, hb⟩; refine ⟨_, rfl, ?_⟩; replace HO_11 := yN_ HO_11 hb; replace HO_12 := yN_ HO_12 hb; replace HO_16 := yV_ HO_16 hb; replace HO__r := yV_ HO__r hb; replace BK249 := yb_ BK249 hb; replace BK250 := yb_ BK250 hb; replace BK266 := yb_ BK266 hb; replace HB := xa_ (below_step (by repeat (with_reducible first | exact HB.out | apply below_alloc | apply pw_below_drewN | apply below_drew1 | refine below_set ?_ GE249.out | refine below_set ?_ GE250.out | refine below_set ?_ GE266.out)) hb); (try clear hb); have hcz137_0 : w136.cell? ⟨gb249, 0, none⟩ = some (.slice A0 l0.length c0) := (blk_cell BK249.out 0).trans rfl; have hfz137_0 := blk_frozen BK249.out 0; have hnb138 := NB250_266.out; have hnc138 := NB266_250.out; have hcz139_0 : w136.cell? ⟨gb250, 0, none⟩ = some (.slice A1 l1.length c1) := (blk_cell BK250.out 0).trans rfl; have hfz139_0 := blk_frozen BK250.out 0) | (go_at_call 20; (with_reducible refine (tree_Same.calls _ _ l0 _ _ l1 t273 _ ?side1 ?side2 ?side3 ?side4 A49.out).mono ?_); (case side1 => exact xC_ (Kd.C_below HR0.out HB.out)); (case side2 => exact HC0.out); (case side3 => exact xC_ (Kd.C_below HR1.out HB.out)); (case side4 => exact HC1.out); rintro e w140 ⟨rfl, hb⟩; replace HO_11 := yN_ HO_11 hb; replace HO_12 := yN_ HO_12 hb; replace HO_16 := yV_ HO_16 hb; replace HO__r := yV_ HO__r hb; replace BK249 := yb_ BK249 hb; replace BK250 := yb_ BK250 hb; replace BK266 := yb_ BK266 hb; replace HB := xa_ (below_step (by repeat (with_reducible first | exact HB.out | apply below_alloc | apply pw_below_drewN | apply below_drew1 | refine below_set ?_ GE249.out | refine below_set ?_ GE250.out | refine below_set ?_ GE266.out)) hb); (try clear hb); have hcz141_0 : w140.cell? ⟨gb266, 0, none⟩ = some (.slice Ao39 t262.length co39) := (blk_cell BK266.out 0).trans rfl; have hfz141_0 := blk_frozen BK266.out 0) | (go_at_call 22; (with_reducible refine (tallymanlaw8_own.calls kj28 (fun k_ => (some k_ ≠ (.slice Ao33 t255.length co33 : Value).ownBlock ∧ (some k_ ≠ (v259 : Value).ownBlock ∧ (k_ ≠ gb249 ∧ (k_ ≠ gb250 ∧ k_ ≠ gb266))))) _ _ t262 t306 _ ?side1 A124.out).mono ?_); (case side1 => exact HO__r.out); rintro e w142 ⟨v307, rfl, ho0, hb⟩; have n0_ := xa_ (Kd.N_elder' (xN_ HO_11.out) (Kd.N_base ho0) hb); have n1_ := xa_ (Kd.N_elder' (xN_ HO_12.out) (Kd.N_base ho0) hb); have n2_ := xa_ (Kd.V_elder' (xV_ HO_16.out) (Kd.N_base ho0) hb); have n3_ := xa_ (Kd.V_elder' (xV_ HO__r.out) (Kd.N_base ho0) hb); have n4_ := xa_ (Kd.N_lower (Kd.N_mono (ok' := fun k_ => some k_ ≠ (.slice Ao33 t255.length co33 : Value).ownBlock ∧ some k_ ≠ (v259 : Value).ownBlock ∧ k_ ≠ gb249 ∧ k_ ≠ gb250 ∧ k_ ≠ gb266) ho0 (fun k_ hk_ => ⟨Or.elim hk_ (fun hs_ => hs_.1) (fun hn_ => (Kd.fresh' (Kd.N_lt (xN_ HO_11.out)) k_ hn_)), Or.elim hk_ (fun hs_ => hs_.2.1) (fun hn_ => (Kd.fresh' (Kd.N_lt (xN_ HO_12.out)) k_ hn_)), Or.elim hk_ (fun hs_ => hs_.2.2.1) (fun hn_ => (Kd.freshB (xb_ BK249.out) k_ hn_)), Or.elim hk_ (fun hs_ => hs_.2.2.2.1) (fun hn_ => (Kd.freshB (xb_ BK250.out) k_ hn_)), Or.elim hk_ (fun hs_ => hs_.2.2.2.2) (fun hn_ => (Kd.freshB (xb_ BK266.out) k_ hn_))⟩)) (below_size (by repeat (with_reducible first | exact HB.out | apply below_alloc | apply pw_below_drewN | apply below_drew1 | refine below_set ?_ GE249.out | refine below_set ?_ GE250.out | refine below_set ?_ GE266.out)))); have n5_ := yb_ BK249 hb; have n6_ := yb_ BK250 hb; have n7_ := yb_ BK266 hb; have n8_ := xa_ (below_step (by repeat (with_reducible first | exact HB.out | apply below_alloc | apply pw_below_drewN | apply below_drew1 | refine below_set ?_ GE249.out | refine below_set ?_ GE250.out | refine below_set ?_ GE266.out)) hb); clear HO_11; clear HO_12; clear HO_16; clear HO__r; clear BK249; clear BK250; clear BK266; clear HB; have HO_11 := n0_; have HO_12 := n1_; have HO_16 := n2_; have HO__r := n3_; have HO308 := n4_; have BK249 := n5_; have BK250 := n6_; have BK266 := n7_; have HB := n8_; clear n0_ n1_ n2_ n3_ n4_ n5_ n6_ n7_ n8_; (try clear hb); (try clear ho0); obtain ⟨Ao143, co143, eo143⟩ := Kd.N_slice HO308.out; subst eo143; obtain ⟨Ao144, co144, eo144⟩ := Kd.V_slice HO_16.out; subst eo144) | (go_at_call 26; (with_reducible refine (tallymanref7_Alike.calls kj28 _ _ t306 _ _ t267 true _ ?side1 ?side2 ?side3 ?side4 A125.out).mono ?_); (case side1 => exact xC_ (Kd.N_reads' HO308.out).2.2); (case side2 => exact (Kd.N_reads' HO308.out).2.1); (case side3 => exact xC_ (Kd.V_reads' HO_16.out).2.2); (case side4 => exact (Kd.V_reads' HO_16.out).2.1); rintro e w' ⟨rfl, ⟨nd, rfl⟩⟩; have hcz145_0 : w142.cell? ⟨gb249, 0, none⟩ = some (.slice A0 l0.length c0) := (blk_cell BK249.out 0).trans rfl; have hfz145_0 := blk_frozen BK249.out 0) | (go_at_call 15; (with_reducible refine (tree_Bytes.calls kj28 _ _ l0 t310 _ ?side1 ?side2 A127.out).mono ?_); (case side1 => repeat (first | exact (Kd.C_below HR0.out (by repeat (with_reducible first | exact HB.out | apply below_alloc | apply pw_below_drewN | apply below_drew1 | refine below_set ?_ GE249.out | refine below_set ?_ GE250.out | refine below_set ?_ GE266.out))) | (with_reducible refine Kd.C_alloc ?_ _) | (with_reducible refine Kd.C_drewN ?_ _) | (with_reducible refine Kd.C_drew ?_))); (case side2 => exact HC0.out); rintro e w146 ⟨rfl, hb⟩; replace HO_11 := yN_ HO_11 hb; replace HO_12 := yN_ HO_12 hb; replace HO_16 := yV_ HO_16 hb; replace HO__r := yV_ HO__r hb; replace HO308 := yN_ HO308 hb; replace BK249 := yb_ BK249 hb; replace BK250 := yb_ BK250 hb; replace BK266 := yb_ BK266 hb; replace HB := xa_ (below_step (by repeat (with_reducible first | exact HB.out | apply below_alloc | apply pw_below_drewN | apply below_drew1 | refine below_set ?_ GE249.out | refine below_set ?_ GE250.out | refine below_set ?_ GE266.out)) hb); (try clear hb); have hcz147_0 : w146.cell? ⟨gb249, 0, none⟩ = some (.slice A0 l0.length c0) := (blk_cell BK249.out 0).trans rfl; have hfz147_0 := blk_frozen BK249.out 0) | (go_at_call 27; (with_reducible refine (tree_Clean.calls (fun k_ => k_ < w.heap.size) _ _ l0 t311 _ ?side1 A129.out).mono ?_); (case side1 => exact Kd.V_mk HC0.out (Kd.F_below (Kd.C_F k30_heap HR0.out) (by repeat (with_reducible first | exact HB.out | apply below_alloc | apply pw_below_drewN | apply below_drew1 | refine below_set ?_ GE249.out | refine below_set ?_ GE250.out | refine below_set ?_ GE266.out)))); rintro e w148 ⟨v312, rfl, ho0, hb⟩; have n0_ := yN_ HO_11 hb; have n1_ := yN_ HO_12 hb; have n2_ := yV_ HO_16 hb; have n3_ := yV_ HO__r hb; have n4_ := yN_ HO308 hb; have n5_ := xa_ (Kd.V_lower (Kd.V_mono (ok' := fun k_ => some k_ ≠ (.slice Ao33 t255.length co33 : Value).ownBlock ∧ some k_ ≠ (v259 : Value).ownBlock ∧ some k_ ≠ (.slice Ao143 t306.length co143 : Value).ownBlock ∧ k_ ≠ gb249 ∧ k_ ≠ gb250 ∧ k_ ≠ gb266) ho0 (fun k_ hk_ => ⟨Or.elim hk_ (fun hs_ => fun e_ => Nat.not_le.2 hs_ (Kd.N_base HO_11.out k_ e_.symm)) (fun hn_ => (Kd.fresh' (Kd.N_lt (xN_ HO_11.out)) k_ hn_)), Or.elim hk_ (fun hs_ => fun e_ => Nat.not_le.2 hs_ (Kd.N_base HO_12.out k_ e_.symm)) (fun hn_ => (Kd.fresh' (Kd.N_lt (xN_ HO_12.out)) k_ hn_)), Or.elim hk_ (fun hs_ => fun e_ => Nat.not_le.2 hs_ (Kd.N_base HO308.out k_ e_.symm)) (fun hn_ => (Kd.fresh' (Kd.N_lt (xN_ HO308.out)) k_ hn_)), Or.elim hk_ (fun hs_ => fun e_ => Nat.not_le.2 hs_ (by rw [e_]; exact GW249.out)) (fun hn_ => (Kd.freshB (xb_ BK249.out) k_ hn_)), Or.elim hk_ (fun hs_ => fun e_ => Nat.not_le.2 hs_ (by rw [e_]; exact GW250.out)) (fun hn_ => (Kd.freshB (xb_ BK250.out) k_ hn_)), Or.elim hk_ (fun hs_ => fun e_ => Nat.not_le.2 hs_ (by rw [e_]; exact GW266.out)) (fun hn_ => (Kd.freshB (xb_ BK266.out) k_ hn_))⟩)) (below_size (by repeat (with_reducible first | exact HB.out | apply below_alloc | apply pw_below_drewN | apply below_drew1 | refine below_set ?_ GE249.out | refine below_set ?_ GE250.out | refine below_set ?_ GE266.out)))); have n6_ := yb_ BK249 hb; have n7_ := yb_ BK250 hb; have n8_ := yb_ BK266 hb; have n9_ := xa_ (below_step (by repeat (with_reducible first | exact HB.out | apply below_alloc | apply pw_below_drewN | apply below_drew1 | refine below_set ?_ GE249.out | refine below_set ?_ GE250.out | refine below_set ?_ GE266.out)) hb); clear HO_11; clear HO_12; clear HO_16; clear HO__r; clear HO308; clear BK249; clear BK250; clear BK266; clear HB; have HO_11 := n0_; have HO_12 := n1_; have HO_16 := n2_; have HO__r := n3_; have HO308 := n4_; have HO313 := n5_; have BK249 := n6_; have BK250 := n7_; have BK266 := n8_; have HB := n9_; clear n0_ n1_ n2_ n3_ n4_ n5_ n6_ n7_ n8_ n9_; (try clear hb); (try clear ho0); obtain ⟨Ao149, co149, eo149⟩ := Kd.V_slice HO313.out; subst eo149) | (go_at_call 22; (with_reducible refine (tallymanlaw8_own.calls kj28 (fun k_ => (some k_ ≠ (.slice Ao33 t255.length co33 : Value).ownBlock ∧ (some k_ ≠ (v259 : Value).ownBlock ∧ (some k_ ≠ (.slice Ao143 t306.length co143 : Value).ownBlock ∧ (k_ ≠ gb249 ∧ (k_ ≠ gb250 ∧ k_ ≠ gb266)))))) _ _ t311 t314 _ ?side1 A130.out).mono ?_); (case side1 => exact HO313.out); rintro e w150 ⟨v315, rfl, ho0, hb⟩; have n0_ := xa_ (Kd.N_elder' (xN_ HO_11.out) (Kd.N_base ho0) hb); have n1_ := xa_ (Kd.N_elder' (xN_ HO_12.out) (Kd.N_base ho0) hb); have n2_ := xa_ (Kd.V_elder' (xV_ HO_16.out) (Kd.N_base ho0) hb); have n3_ := xa_ (Kd.V_elder' (xV_ HO__r.out) (Kd.N_base ho0) hb); have n4_ := xa_ (Kd.N_elder' (xN_ HO308.out) (Kd.N_base ho0) hb); have n5_ := xa_ (Kd.V_elder' (xV_ HO313.out) (Kd.N_base ho0) hb); have n6_ := xa_ (Kd.N_lower (Kd.N_mono (ok' := fun k_ => some k_ ≠ (.slice Ao33 t255.length co33 : Value).ownBlock ∧ some k_ ≠ (v259 : Value).ownBlock ∧ some k_ ≠ (.slice Ao143 t306.length co143 : Value).ownBlock ∧ k_ ≠ gb249 ∧ k_ ≠ gb250 ∧ k_ ≠ gb266) ho0 (fun k_ hk_ => ⟨Or.elim hk_ (fun hs_ => hs_.1) (fun hn_ => (Kd.fresh' (Kd.N_lt (xN_ HO_11.out)) k_ hn_)), Or.elim hk_ (fun hs_ => hs_.2.1) (fun hn_ => (Kd.fresh' (Kd.N_lt (xN_ HO_12.out)) k_ hn_)), Or.elim hk_ (fun hs_ => hs_.2.2.1) (fun hn_ => (Kd.fresh' (Kd.N_lt (xN_ HO308.out)) k_ hn_)), Or.elim hk_ (fun hs_ => hs_.2.2.2.1) (fun hn_ => (Kd.freshB (xb_ BK249.out) k_ hn_)), Or.elim hk_ (fun hs_ => hs_.2.2.2.2.1) (fun hn_ => (Kd.freshB (xb_ BK250.out) k_ hn_)), Or.elim hk_ (fun hs_ => hs_.2.2.2.2.2) (fun hn_ => (Kd.freshB (xb_ BK266.out) k_ hn_))⟩)) (below_size (by repeat (with_reducible first | exact HB.out | apply below_alloc | apply pw_below_drewN | apply below_drew1 | refine below_set ?_ GE249.out | refine below_set ?_ GE250.out | refine below_set ?_ GE266.out)))); have n7_ := yb_ BK249 hb; have n8_ := yb_ BK250 hb; have n9_ := yb_ BK266 hb; have n10_ := xa_ (below_step (by repeat (with_reducible first | exact HB.out | apply below_alloc | apply pw_below_drewN | apply below_drew1 | refine below_set ?_ GE249.out | refine below_set ?_ GE250.out | refine below_set ?_ GE266.out)) hb); clear HO_11; clear HO_12; clear HO_16; clear HO__r; clear HO308; clear HO313; clear BK249; clear BK250; clear BK266; clear HB; have HO_11 := n0_; have HO_12 := n1_; have HO_16 := n2_; have HO__r := n3_; have HO308 := n4_; have HO313 := n5_; have HO316 := n6_; have BK249 := n7_; have BK250 := n8_; have BK266 := n9_; have HB := n10_; clear n0_ n1_ n2_ n3_ n4_ n5_ n6_ n7_ n8_ n9_ n10_; (try clear hb); (try clear ho0)) | (go_at_call 28; (with_reducible refine (tallymanref7_Clean.calls kj28 (fun k_ => (((some k_ ≠ (v259 : Value).ownBlock ∧ (k_ ≠ gb249 ∧ (k_ ≠ gb250 ∧ k_ ≠ gb266))) ∧ some k_ ≠ (.slice Ao143 t306.length co143 : Value).ownBlock) ∧ some k_ ≠ (v315 : Value).ownBlock)) _ _ t255 t317 _ ?side1 A131.out).mono ?_); (case side1 => exact Kd.N_V (HO_11.out)); rintro e w151 ⟨v318, rfl, ho0, hb⟩; have n0_ := yN_ HO_11 hb; have n1_ := yN_ HO_12 hb; have n2_ := yV_ HO_16 hb; have n3_ := yV_ HO__r hb; have n4_ := yN_ HO308 hb; have n5_ := yV_ HO313 hb; have n6_ := yN_ HO316 hb; have n7_ := xa_ (Kd.V_lower (Kd.V_mono (ok' := fun k_ => some k_ ≠ (v259 : Value).ownBlock ∧ some k_ ≠ (.slice Ao143 t306.length co143 : Value).ownBlock ∧ some k_ ≠ (v315 : Value).ownBlock ∧ k_ ≠ gb249 ∧ k_ ≠ gb250 ∧ k_ ≠ gb266) ho0 (fun k_ hk_ => ⟨Or.elim hk_ (fun hs_ => hs_.1.1.1) (fun hn_ => (Kd.fresh' (Kd.N_lt (xN_ HO_12.out)) k_ hn_)), Or.elim hk_ (fun hs_ => hs_.1.2) (fun hn_ => (Kd.fresh' (Kd.N_lt (xN_ HO308.out)) k_ hn_)), Or.elim hk_ (fun hs_ => hs_.2) (fun hn_ => (Kd.fresh' (Kd.N_lt (xN_ HO316.out)) k_ hn_)), Or.elim hk_ (fun hs_ => hs_.1.1.2.1) (fun hn_ => (Kd.freshB (xb_ BK249.out) k_ hn_)), Or.elim hk_ (fun hs_ => hs_.1.1.2.2.1) (fun hn_ => (Kd.freshB (xb_ BK250.out) k_ hn_)), Or.elim hk_ (fun hs_ => hs_.1.1.2.2.2) (fun hn_ => (Kd.freshB (xb_ BK266.out) k_ hn_))⟩)) (below_size (by repeat (with_reducible first | exact HB.out | apply below_alloc | apply pw_below_drewN | apply below_drew1 | refine below_set ?_ GE249.out | refine below_set ?_ GE250.out | refine below_set ?_ GE266.out)))); have n8_ := yb_ BK249 hb; have n9_ := yb_ BK250 hb; have n10_ := yb_ BK266 hb; have n11_ := xa_ (below_step (by repeat (with_reducible first | exact HB.out | apply below_alloc | apply pw_below_drewN | apply below_drew1 | refine below_set ?_ GE249.out | refine below_set ?_ GE250.out | refine below_set ?_ GE266.out)) hb); clear HO_11; clear HO_12; clear HO_16; clear HO__r; clear HO308; clear HO313; clear HO316; clear BK249; clear BK250; clear BK266; clear HB; have HO_11 := n0_; have HO_12 := n1_; have HO_16 := n2_; have HO__r := n3_; have HO308 := n4_; have HO313 := n5_; have HO316 := n6_; have HO319 := n7_; have BK249 := n8_; have BK250 := n9_; have BK266 := n10_; have HB := n11_; clear n0_ n1_ n2_ n3_ n4_ n5_ n6_ n7_ n8_ n9_ n10_ n11_; (try clear hb); (try clear ho0); obtain ⟨Ao152, co152, eo152⟩ := Kd.N_slice HO316.out; subst eo152; obtain ⟨Ao153, co153, eo153⟩ := Kd.V_slice HO319.out; subst eo153) | (go_at_call 26; (with_reducible refine (tallymanref7_Alike.calls kj28 _ _ t314 _ _ t317 t320 _ ?side1 ?side2 ?side3 ?side4 A132.out).mono ?_); (case side1 => exact xC_ (Kd.N_reads' HO316.out).2.2); (case side2 => exact (Kd.N_reads' HO316.out).2.1); (case side3 => exact xC_ (Kd.V_reads' HO319.out).2.2); (case side4 => exact (Kd.V_reads' HO319.out).2.1); rintro e w' ⟨rfl, ⟨nd, rfl⟩⟩))
                   go_ret
                   exact ⟨by first | rfl | (simp [errW_none, errW_some] <;> rfl) | (simp [*, errW_none, errW_some] <;> rfl), by repeat (with_reducible first | exact HB.out | apply below_alloc | apply pw_below_drewN | apply below_drew1 | refine below_set ?_ GE249.out | refine below_set ?_ GE250.out | refine below_set ?_ GE266.out)⟩
                  ·rw [if_neg c128] at H
                   have c128b0 : (t310 == x18_28) = false := beq_eq_false_iff_ne.mpr c128
                   have c128b1 : (t310 != x18_28) = true := bne_iff_ne.mpr c128
                   exact absurd ((Option.some.inj H).trans HT_.out) (by decide)
                 ·replace c126 := Bool.eq_false_iff.mpr c126
                  subst c126
                  have H1 : (some false) = some r := by rw [if_neg (show ¬ (false = true) by decide)] at H; exact H
                  clear H
                  have H := H1
                  clear H1
                  exact absurd ((Option.some.inj H).trans HT_.out) (by decide)
                ·rw [if_neg c123] at H
                 have c123b0 : (t265 == t270) = false := beq_eq_false_iff_ne.mpr c123
                 have c123b1 : (t265 != t270) = true := bne_iff_ne.mpr c123
                 exact absurd ((Option.some.inj H).trans HT_.out) (by decide)
               ·rw [if_neg c122] at H
                have c122b0 : (t273 == false) = false := by simpa using c122
                (try (have c122b1 : decide (t273 = false) = false := by simpa using c122))
                (try (have c122b2 : (t273 == false) = false := by simpa using c122))
                (try (have c122b3 : ¬ (t273 = false) := by simpa using c122))
                clear c122
                exact absurd ((Option.some.inj H).trans HT_.out) (by decide)
             ·rw [if_neg c48] at H
              have c48b0 : (t272 == t261) = false := by simpa using c48
              (try (have c48b1 : decide (t272 = t261) = false := by simpa using c48))
              (try (have c48b2 : (t272 == t261) = false := by simpa using c48))
              (try (have c48b3 : ¬ (t272 = t261) := by simpa using c48))
              clear c48
              exact absurd ((Option.some.inj H).trans HT_.out) (by decide)
 ·replace c5 := Bool.eq_false_iff.mpr c5
  subst c5
  have H1 : (some false) = some r := by rw [if_neg (show ¬ (false = true) by decide)] at H; exact H
  clear H
  have H := H1
  clear H1
  exact absurd ((Option.some.inj H).trans HT_.out) (by decide)

/-- THE ONE PURE STATEMENT of tallymanlaw8_TreeSays: yours. -/
def tallymanlaw8_TreeSays.Pure : Prop := ∀ (l0 : List (S30)) (l1 : List (S30)) (a2 : ByteArray), (l0.length ≤ maxLen ∧ ∀ x0_ ∈ l0, (x0_.f0.size ≤ maxLen ∧ True ∧ (x0_.f2.length ≤ maxLen ∧ ∀ x1_ ∈ x0_.f2, (Lit.int .u8 x1_).wf = true))) → (l1.length ≤ maxLen ∧ ∀ x0_ ∈ l1, (x0_.f0.size ≤ maxLen ∧ True ∧ (x0_.f2.length ≤ maxLen ∧ ∀ x1_ ∈ x0_.f2, (Lit.int .u8 x1_).wf = true))) → a2.size ≤ maxLen → ∃ k, tallymanlaw8_TreeSays.f k l0 l1 a2 = some true

end Go.Proofs.YtidlldfghkaeeaaDoor.P
