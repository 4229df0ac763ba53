/- Put together by pack2.py: PfTallymanlaw8TreePlays -/
import Derived.Test.YtidlldfghkaeeaaGreatDoorZyRefNamesEtc
import Derived.Test.YtidlldfghkaeeaaGreatDoorZyPfTallymanlaw8OwnEtc
import Derived.Test.YtidlldfghkaeeaaGreatDoorZyPfTallymanref7InsideEtc
import Derived.Test.YtidlldfghkaeeaaGreatDoorZyPfTallymanref7KidsEtc
import Derived.Test.YtidlldfghkaeeaaGreatDoorZyPfTallymanref7MakeEtc
import Derived.Test.YtidlldfghkaeeaaGreatDoorZyPfTallymanref7WithoutEtc
import Derived.Test.YtidlldfghkaeeaaGreatDoorZyPfTallymanref7RemoveEtc
import Derived.Test.YtidlldfghkaeeaaGreatDoorZyTreeOkEtc
import Derived.Test.YtidlldfghkaeeaaGreatDoorZyPfTreeFindEtc
import Derived.Test.YtidlldfghkaeeaaGreatDoorZyPfTreeMakeEtc
import Derived.Test.YtidlldfghkaeeaaGreatDoorZyTreeSamEtc
import Derived.Test.YtidlldfghkaeeaaGreatDoorZyDelFEtc
import Derived.Test.YtidlldfghkaeeaaGreatDoorZyTreeMovPEtc
import Derived.Test.YtidlldfghkaeeaaGreatDoorZyW0
set_option linter.unusedVariables false
set_option linter.unusedSimpArgs false
set_option maxHeartbeats 8000000
set_option maxRecDepth 100000
namespace Go.Proofs.YtidlldfghkaeeaaGreatDoor.P
open Go.RowKit Go.Proofs.YtidlldfghkaeeaaGreatDoorW.PrintWords Go.Proofs.YtidlldfghkaeeaaGreatDoorW.PrintLast Go.Proofs.YtidlldfghkaeeaaGreatDoorW.PrintMore
attribute [local go_sem] max2_int min2_int max_two min_two max_three min_three max_four min_four
mutual
def tallymanlaw8_TreePlays.j0 : Nat → List (S31) → ByteArray → Bool → Option (Bool)
 | 0, _, _, _ => none
 | k + 1, x0, x1, x24 => if x24 = true then (some true) else (tallymanlaw8_TreePlays.l0 k x0 x1 (([] : List (S45))) 0 ([] : List (S42)))
def tallymanlaw8_TreePlays.l0 : Nat → List (S31) → ByteArray → List (S45) → Int → List (S42) → Option (Bool)
 | 0, _, _, _, _, _ => none
 | k + 1, x0, x1, x6, x7, x324000 => if x7 < (x0.length : Int) then (if 0 ≤ x7 then (if (((rd_T31 x0 x7).f1).size : Int) > 100 then (tallymanlaw8_TreePlays.j2 k x0 x1 x6 x7 true x324000 ((rd_T31 x0 x7).f0) ((rd_T31 x0 x7).f1) ((rd_T31 x0 x7).f2) ((rd_T31 x0 x7).f3)) else (if (((rd_T31 x0 x7).f2).size : Int) > 100 then (tallymanlaw8_TreePlays.j2 k x0 x1 x6 x7 true x324000 ((rd_T31 x0 x7).f0) ((rd_T31 x0 x7).f1) ((rd_T31 x0 x7).f2) ((rd_T31 x0 x7).f3)) else (tallymanlaw8_TreePlays.j2 k x0 x1 x6 x7 (decide ((((rd_T31 x0 x7).f3).length : Int) > 2100)) x324000 ((rd_T31 x0 x7).f0) ((rd_T31 x0 x7).f1) ((rd_T31 x0 x7).f2) ((rd_T31 x0 x7).f3)))) else (none)) else ((tree_Clean.f x324000).bind fun t389 => ((tallymanlaw8_own.f k t389).bind fun t392 => ((tallymanref7_Clean.f k x6).bind fun t395 => ((tallymanref7_Alike.f k t392 t395).bind fun t398 => (if t398 = true then ((tree_Same.f x324000 x324000).bind fun t399 => (some t399)) else (some false))))))
def tallymanlaw8_TreePlays.j2 : Nat → List (S31) → ByteArray → List (S45) → Int → Bool → List (S42) → Int → ByteArray → ByteArray → List Int → Option (Bool)
 | 0, _, _, _, _, _, _, _, _, _, _ => none
 | k + 1, x0, x1, x6, x7, x52, x324000, x329000, x329001, x329002, x329003 => if x52 = true then (some true) else (if x329000 = 0 then ((tree_Put.f x324000 x329001 x329003).bind fun bt329 => ((tallymanref7_Put.f k x6 x329001 x329003).bind fun bt333 => (tallymanlaw8_TreePlays.j3 k x0 x1 bt333.1 x7 bt329.2 bt333.2 bt329.1))) else (if x329000 = 1 then ((tree_Make.f x324000 x329001).bind fun bt337 => ((tallymanref7_Make.f k x6 x329001).bind fun bt341 => (tallymanlaw8_TreePlays.j3 k x0 x1 bt341.1 x7 bt337.2 bt341.2 bt337.1))) else (if x329000 = 2 then ((tree_Remove.f x324000 x329001).bind fun bt345 => ((tallymanref7_Remove.f k x6 x329001).bind fun bt349 => (tallymanlaw8_TreePlays.j3 k x0 x1 bt349.1 x7 bt345.2 bt349.2 bt345.1))) else ((tree_Move.f x324000 x329001 x329002).bind fun bt353 => ((tallymanref7_Move.f k x6 x329001 x329002).bind fun bt357 => (tallymanlaw8_TreePlays.j3 k x0 x1 bt357.1 x7 bt353.2 bt357.2 bt353.1))))))
def tallymanlaw8_TreePlays.j3 : Nat → List (S31) → ByteArray → List (S45) → Int → Int → Int → List (S42) → Option (Bool)
 | 0, _, _, _, _, _, _, _ => none
 | k + 1, x0, x1, x6, x7, x9, x10, x324000 => (tree_Find.f x324000 x1).bind fun bt361 => ((tallymanref7_Find.f k x6 x1).bind fun bt368 => (if x9 = x10 then ((tallymanlaw8_own.f k x324000).bind fun t375 => ((tallymanref7_Alike.f k t375 x6).bind fun t378 => (if t378 = true then ((tree_Good.f x324000).bind fun t379 => (if t379 = true then (if bt361.2.2.2 = bt368.2.2.2 then (if bt361.1.toList = bt368.1.toList then (if (bt361.2.1 != bt368.2.1) = true then (some false) else (if (strOfNums bt361.2.2.1).toList = (strOfNums bt368.2.2.1).toList then ((tree_Kids.f k x324000 x1).bind fun t380 => ((tallymanref7_Kids.f k x6 x1).bind fun t383 => ((tallymanlaw8_texts.f k t380 t383).bind fun t386 => (if t386 = true then ((tree_Bytes.f k x324000).bind fun t387 => ((tallymanref7_Bytes.f k x6).bind fun t388 => (if t387 = t388 then (tallymanlaw8_TreePlays.l0 k x0 x1 x6 (wrap64 (x7 + 1)) x324000) else (some false)))) else (some false))))) else (some false))) else (some false)) else (some false)) else (some false))) else (some false)))) else (some false)))
end
def tallymanlaw8_TreePlays.f (k : Nat) (l0 : List (S31)) (a1 : ByteArray) : Option (Bool) := (tallymanlaw8_awake.f).bind fun t322 => (if t322 = true then (if (l0.length : Int) > 60 then (tallymanlaw8_TreePlays.j0 k l0 a1 true) else (tallymanlaw8_TreePlays.j0 k l0 a1 (decide ((a1.size : Int) > 100)))) else (some false))
theorem tallymanlaw8_TreePlays.calls (k : Nat) (A0 : Option Addr) (c0 : Nat) (l0 : List (S31)) (a1 : ByteArray) (r : Bool) (w : World) (hr0 : Kd.C k31 w A0 l0.length l0) (hc0 : l0.length ≤ c0) (h : tallymanlaw8_TreePlays.f k l0 a1 = some r) (hr_ : r = true) :
  Calls Tryz.prog 3 #[.slice A0 l0.length c0, .string a1] w fun e w' => e = .returned (.bool r) ∧ Below w.heap.size w w' := by
 have HT_ := Aside0.mk hr_
 clear hr_
 have hu26 := Tryz.underlying26
 have hu31 := Tryz.underlying31
 have hu42 := Tryz.underlying42
 have hu45 := Tryz.underlying45
 have HR0 := Aside0.mk hr0
 have HC0 := Aside0.mk hc0
 clear hr0 hc0
 have HB := xa_ (Below.refl w.heap.size w)
 have H : ((tallymanlaw8_awake.f).bind fun t322 => (if t322 = true then (if (l0.length : Int) > 60 then (tallymanlaw8_TreePlays.j0 k l0 a1 true) else (tallymanlaw8_TreePlays.j0 k l0 a1 (decide ((a1.size : Int) > 100)))) else (some false))) = some r := h
 clear h
 replace H := Option.bind_eq_some_iff.mp H
 obtain ⟨t322, A30, H⟩ := H
 replace H : (if t322 = true then (if (l0.length : Int) > 60 then (tallymanlaw8_TreePlays.j0 k l0 a1 true) else (tallymanlaw8_TreePlays.j0 k l0 a1 (decide ((a1.size : Int) > 100)))) else (some false)) = some r := H
 have A3 := Aside0.mk A30
 clear A30
 by_cases c4 : t322 = true
 ·subst c4
  have H1 : (if (l0.length : Int) > 60 then (tallymanlaw8_TreePlays.j0 k l0 a1 true) else (tallymanlaw8_TreePlays.j0 k l0 a1 (decide ((a1.size : Int) > 100)))) = some r := by rw [if_pos rfl] at H; exact H
  clear H
  have H := H1
  clear H1
  have HC5 := Aside0.mk H
  clear H
  go_enter Tryz.func3, Tryz.ntmps3
  go_upto_region 3 with (first | ((with_reducible refine gate_callee (f := 5) rfl ?_); refine goesL_ (some 15) rfl rfl Tryz.func5 (by kernel_rfl) rfl #[] rfl (by (try simp only [ca_]); first | done | rfl) ?_; (with_reducible refine (tallymanlaw8_awake.calls  true _ A3.out).mono ?_); rintro e w6 ⟨rfl, hb⟩; refine ⟨_, rfl, ?_⟩; replace HB := xa_ (below_step (xw_ HB.out) hb); (try clear hb); (try clear hb2); (try clear hk); (try clear hi)))
  (try simp only [Act.put, List.setIfInBounds_toArray, List.set_cons_zero, List.set_cons_succ])
  go_cut [24] (fun v24 wc => ∃ (kq : Nat) (x24_4 : Bool), v24 = .bool x24_4 ∧ Aside0 (tallymanlaw8_TreePlays.j0 kq l0 a1 x24_4 = some r) ∧ Aside0 (kq ≤ k) ∧ Aside0 (Below w.heap.size w wc))
  case first =>
   have H := HC5.out
   clear HC5
   by_cases c7 : (l0.length : Int) > 60
   ·rw [if_pos c7] at H
    have c7b0 : decide (60 < (l0.length : Int)) = true := decide_eq_true c7
    have c7b1 : decide (60 < l0.length) = true := decide_eq_true (by omega)
    clear c7
    (first | rw [c7b0] | (simp only [i64_w, i32_w]; rw [c7b0]) | skip)
    have H' := Aside0.mk H
    clear H
    go_wp2
    go_meet
    case rel => exact ⟨_, (true), (by first | rfl | (simp; done) | (simp [*]; done)), H', ⟨by first | omega | exact Nat.le_refl _⟩, ⟨by repeat (first | (with_reducible first | exact HB.out | apply below_alloc | apply pw_below_drewN | apply below_drew1) | exact HB.out)⟩⟩
   ·rw [if_neg c7] at H
    have c7b0 : decide (60 < (l0.length : Int)) = false := decide_eq_false c7
    have c7b1 : decide (60 < l0.length) = false := decide_eq_false (by omega)
    clear c7
    (first | rw [c7b0] | (simp only [i64_w, i32_w]; rw [c7b0]) | skip)
    have H' := Aside0.mk H
    clear H
    go_wp2
    go_meet
    case rel => exact ⟨_, (decide ((a1.size : Int) > 100)), (by first | rfl | (simp; done) | (simp [*]; done)), H', ⟨by first | omega | exact Nat.le_refl _⟩, ⟨by repeat (first | (with_reducible first | exact HB.out | apply below_alloc | apply pw_below_drewN | apply below_drew1) | exact HB.out)⟩⟩
  case rest =>
   clear HC5
   try clear p2
   try clear c3
   try clear c4
   try clear c5
   try clear c7
   try clear c7b0
   try clear c7b1
   obtain ⟨kq, x24_4, rfl, HA, HJ4, HB⟩ := hcut
   cases kq with
   | zero => exact absurd HA.out (by simp [tallymanlaw8_TreePlays.j0])
   | succ kj4 =>
    have H := HA.out
    clear HA
    simp only [tallymanlaw8_TreePlays.j0] at H
    by_cases c8 : x24_4 = true
    ·subst c8
     have H1 : (some true) = some r := by rw [if_pos rfl] at H; exact H
     clear H
     have H := H1
     clear H1
     obtain rfl := Option.some.inj H
     go_wp2
     go_ret
     exact ⟨by first | rfl | (simp [*, errW_none, errW_some] <;> rfl), by repeat (first | (with_reducible first | exact HB.out | apply below_alloc | apply pw_below_drewN | apply below_drew1) | exact HB.out)⟩
    ·replace c8 := Bool.eq_false_iff.mpr c8
     subst c8
     have H1 : (tallymanlaw8_TreePlays.l0 kj4 l0 a1 (([] : List (S45))) 0 ([] : List (S42))) = some r := by rw [if_neg (show ¬ (false = true) by decide)] at H; exact H
     clear H
     have H := H1
     clear H1
     obtain ⟨y324, hy324⟩ : ∃ y_ : List (S45), y_ = (([] : List (S45))) := ⟨_, rfl⟩
     replace H : (tallymanlaw8_TreePlays.l0 kj4 l0 a1 y324 0 ([] : List (S42))) = some r := by first | (rw [hy324]; with_reducible exact H) | (have H2_ := (Option.bind_some _ _).symm.trans H; rw [hy324]; with_reducible exact H2_) | (have H2_ := (Option.bind_some _ _).symm.trans H; with_reducible exact H2_) | with_reducible exact H | (rw [hy324]; exact H) | exact H
     have Ny324 := Aside0.mk hy324
     clear hy324
     have H' := Aside0.mk H
     clear H
     go_wp2_with (first | ((with_reducible refine gate_dst (N := 5) rfl ?_); (try (refine gate_guard (by rfl) ?_; dsimp only)); refine box_event ?hg (N := 5) ?hd (cs := #[.slice none 0 0]) (t := 26) ?hr ?_; (case hd => rfl); (case hg => rfl); (case hr => first | (go_simp; done) | (go_simp; rfl)); intro gb323 hg w9 hbox hb; have BK323 := xa_ (hbox); have GW323 := xa_ ((by rw [hg]; exact (below_size (xw_ HB.out)) : w.heap.size ≤ gb323)); have GE323 := xa_ ((by rw [hg]; exact (below_size (xw_ HB.out)) : w.heap.size ≤ gb323)); replace HB := xa_ (below_step (xw_ HB.out) hb); clear hb hbox hg; have hcz10_0 : w9.cell? ⟨gb323, 0, none⟩ = some (.slice none 0 0) := (blk_cell BK323.out 0).trans rfl; have hfz10_0 := blk_frozen BK323.out 0) | ((with_reducible refine gate_dst (N := 26) rfl ?_); (try (refine gate_guard (by rfl) ?_; dsimp only)); refine Kd.N_lit k45 _ 45 ?hg (N' := 26) ?hd (xs := ([] : List (S45))) (inner := []) (ok := (fun k_ => k_ ≠ gb323)) (okp := (fun k_ => k_ ≠ gb323)) ?hr ?hp (fun _ hk => hk) ((show ∀ k_, w9.heap.size ≤ k_ → (fun k_ => k_ ≠ gb323) k_ from fun k_ hk => Kd.freshB (g := gb323) (o := .cells #[.slice none 0 0] 26 (0, 0)) (by (with_reducible repeat (first | refine blk_drewN ?_ _ | refine blk_drew ?_ | refine blk_alloc ?_ _)); refine blk_put (cs := #[.slice none 0 0]) ?_ 0 _ rfl; (with_reducible repeat (first | refine blk_drewN ?_ _ | refine blk_drew ?_ | refine blk_alloc ?_ _)); exact BK323.out) k_ hk) _ (Nat.le_refl _)) (Below.refl _ _) (Nat.le_refl _) (by simp) ?_; (case hd => rfl); (case hg => rfl); (case hr => first | (go_simp; done) | (go_simp; rfl)); (case hp => exact (Reps.none _ _)); intro v325 w11 ho12 hb hg_ hnew_; clear hg_ hnew_; (first | rw [← Ny324.out] at ho12 | (simp only [Int.reduceToNat] at ho12; rw [← Ny324.out] at ho12)); replace HO326 := xa_ (Kd.N_lower ho12 (below_size (by repeat (first | (with_reducible first | exact HB.out | apply below_alloc | apply pw_below_drewN | apply below_drew1 | refine below_set ?_ GE323.out) | exact HB.out)))); replace BK323 := xa_ (blk_below (g := gb323) (o := .cells #[.slice none 0 0] 26 (0, 0)) (by (with_reducible repeat (first | refine blk_drewN ?_ _ | refine blk_drew ?_ | refine blk_alloc ?_ _)); refine blk_put (cs := #[.slice none 0 0]) ?_ 0 _ rfl; (with_reducible repeat (first | refine blk_drewN ?_ _ | refine blk_drew ?_ | refine blk_alloc ?_ _)); exact BK323.out) hb); replace HB := xa_ (below_step (by repeat (first | (with_reducible first | exact HB.out | apply below_alloc | apply pw_below_drewN | apply below_drew1 | refine below_set ?_ GE323.out) | exact HB.out)) hb); clear hb ho12))
     go_loopg [6, 7] kj4 (fun kq v6 v7 w' => ∃ (x6_2 : List (S45)) (x7_2 : Int) (x324000_2 : List (S42)) (u324000 : Value), v7 = .int .i64 x7_2 ∧ Aside0 (tallymanlaw8_TreePlays.l0 kq l0 a1 x6_2 x7_2 x324000_2 = some r) ∧ Aside0 (kq ≤ kj4) ∧ Aside0 (Kd.V k45 45 w' w.heap.size (fun k_ => k_ ≠ gb323) v6 x6_2) ∧ Aside0 (Kd.V k42 42 w' w.heap.size (fun k_ => k_ ≠ gb323) u324000 x324000_2) ∧ Aside0 (w'.heap[gb323]? = some (.cells #[u324000] 26 (0, 0))) ∧ Aside0 (Below w.heap.size w w'))
     case atStart => exact ⟨([] : List S45), 0, ([] : List S42), (.slice none 0 0), rfl, ⟨by have h := H'.out; rw [Ny324.out] at h; exact h⟩, ⟨Nat.le_refl _⟩, ⟨show Kd.V k45 45 _ _ _ (.slice _ ([] : List S45).length _) [] from Kd.V_mk (Nat.zero_le _) fun W' _ => ⟨rfl, by simp, fun h => absurd h (Nat.lt_irrefl 0)⟩⟩, ⟨Kd.V_nil _ _ _ _ _⟩, ⟨blk_alloc (blk_put BK323.out 0 (.slice none 0 0) rfl) _⟩, ⟨by repeat (first | (with_reducible first | exact HB.out | apply below_alloc | apply pw_below_drewN | apply below_drew1 | refine below_set ?_ GE323.out) | exact HB.out)⟩⟩
     case round =>
      clear H'
      try clear p2
      try clear c3
      try clear c4
      try clear c5
      try clear c7
      try clear c7b0
      try clear c7b1
      try clear c8
      try clear hcz10_0
      try clear hfz10_0
      try clear p2
      obtain ⟨x6_2, x7_2, x324000_2, u324000, rfl, HA, HK2, HO_6, HO_324000, BK323, HB⟩ := hrel
      cases gk with
      | zero => exact absurd HA.out (by simp [tallymanlaw8_TreePlays.l0])
      | succ k2 =>
       have H := HA.out
       clear HA
       simp only [tallymanlaw8_TreePlays.l0] at H
       by_cases c13 : x7_2 < (l0.length : Int)
       ·rw [if_pos c13] at H
        have c13b0 : decide (x7_2 < (l0.length : Int)) = true := decide_eq_true c13
        clear c13
        by_cases c14 : 0 ≤ x7_2
        ·rw [if_pos c14] at H
         have c14b0 : decide (0 ≤ x7_2) = true := decide_eq_true c14
         clear c14
         have HC15 := Aside0.mk H
         clear H
         have p327 : 0 ≤ (x7_2 : Int) := of_decide_eq_true (by first | (with_reducible assumption) | assumption)
         have q327 : x7_2 < (l0.length : Int) := of_decide_eq_true (by first | (with_reducible assumption) | assumption)
         obtain ⟨ad327, A327_3, c327_3, e327, hx327_0, hx327_1, hx327_2, hx327_3, hl327_3, hi327_3⟩ := at_T31 HR0.out x7_2 p327 q327
         cases e327
         replace hx327_0 := (HB.out.cell (World.block_lt_of_cell? w _ hx327_0)).trans hx327_0
         replace hx327_1 := (HB.out.cell (World.block_lt_of_cell? w _ hx327_1)).trans hx327_1
         replace hx327_2 := (HB.out.cell (World.block_lt_of_cell? w _ hx327_2)).trans hx327_2
         replace hx327_3 := (HB.out.cell (World.block_lt_of_cell? w _ hx327_3)).trans hx327_3
         have HR327_3 := Aside0.mk hi327_3
         have HC327_3 := Aside0.mk hl327_3
         clear hi327_3 hl327_3
         replace p327 := eq_true p327
         replace q327 := eq_true q327
         go_upto_region 11 with (first | ((with_reducible refine gate_dst (N := 8) rfl ?_); (try (refine gate_guard (by rfl) ?_; dsimp only)); refine box_event ?hg (N := 8) ?hd (cs := #[.int .i64 0, .string (⟨#[]⟩ : ByteArray), .string (⟨#[]⟩ : ByteArray), .slice none 0 0]) (t := 31) ?hr ?_; (case hd => rfl); (case hg => rfl); (case hr => first | (go_simp; done) | (go_simp; rfl)); intro gb328 hg w16 hbox hb; have BK328 := xa_ (hbox); have GW328 := xa_ ((by rw [hg]; exact (below_size (xw_ HB.out)) : w.heap.size ≤ gb328)); have GE328 := xa_ ((by rw [hg]; exact (below_size (xw_ HB.out)) : w.heap.size ≤ gb328)); have NB323_328 := xa_ ((by rw [hg]; exact Nat.ne_of_lt (blk_lt (xb_ BK323.out)) : gb323 ≠ gb328)); have NB328_323 := xa_ ((by rw [hg]; exact Nat.ne_of_gt (blk_lt (xb_ BK323.out)) : gb328 ≠ gb323)); replace HO_6 := xa_ (Kd.V_below (Kd.V_elderB (xV_ HO_6.out) gb328 (Nat.le_of_eq hg.symm)) hb); replace HO_324000 := xa_ (Kd.V_below (Kd.V_elderB (xV_ HO_324000.out) gb328 (Nat.le_of_eq hg.symm)) hb); replace BK323 := xa_ (blk_below (xb_ BK323.out) hb); replace HB := xa_ (below_step (xw_ HB.out) hb); clear hb hbox hg; have hnb17 := NB328_323.out; have hnc17 := NB323_328.out; have hcz18_0 : w16.cell? ⟨gb328, 0, none⟩ = some (.int .i64 0) := (blk_cell BK328.out 0).trans rfl; have hcz18_1 : w16.cell? ⟨gb328, 1, none⟩ = some (.string (⟨#[]⟩ : ByteArray)) := (blk_cell BK328.out 1).trans rfl; have hcz18_2 : w16.cell? ⟨gb328, 2, none⟩ = some (.string (⟨#[]⟩ : ByteArray)) := (blk_cell BK328.out 2).trans rfl; have hcz18_3 : w16.cell? ⟨gb328, 3, none⟩ = some (.slice none 0 0) := (blk_cell BK328.out 3).trans rfl; have hfz18_0 := blk_frozen BK328.out 0; have hfz18_1 := blk_frozen BK328.out 1; have hfz18_2 := blk_frozen BK328.out 2; have hfz18_3 := blk_frozen BK328.out 3))
         (try simp only [Act.put, List.setIfInBounds_toArray, List.set_cons_zero, List.set_cons_succ])
         go_cut [52] (fun v52 wc => ∃ (kq : Nat) (x52_14 : Bool), v52 = .bool x52_14 ∧ Aside0 (tallymanlaw8_TreePlays.j2 kq l0 a1 x6_2 x7_2 x52_14 x324000_2 ((rd_T31 l0 x7_2).f0) ((rd_T31 l0 x7_2).f1) ((rd_T31 l0 x7_2).f2) ((rd_T31 l0 x7_2).f3) = some r) ∧ Aside0 (kq ≤ k2) ∧ Aside0 (Kd.V k45 45 wc w.heap.size (fun k_ => k_ ≠ gb323 ∧ k_ ≠ gb328) u6 x6_2) ∧ Aside0 (Kd.V k42 42 wc w.heap.size (fun k_ => k_ ≠ gb323 ∧ k_ ≠ gb328) u324000 x324000_2) ∧ Aside0 (wc.heap[gb323]? = some (.cells #[u324000] 26 (0, 0))) ∧ Aside0 (wc.heap[gb328]? = some (.cells #[.int .i64 ((rd_T31 l0 x7_2).f0), .string ((rd_T31 l0 x7_2).f1), .string ((rd_T31 l0 x7_2).f2), (.slice A327_3 ((rd_T31 l0 x7_2).f3).length c327_3)] 31 (0, 0))) ∧ Aside0 (Below w.heap.size w wc))
         case first =>
          have H := HC15.out
          clear HC15
          by_cases c19 : (((rd_T31 l0 x7_2).f1).size : Int) > 100
          ·rw [if_pos c19] at H
           have c19b0 : decide (100 < (((rd_T31 l0 x7_2).f1).size : Int)) = true := decide_eq_true c19
           have c19b1 : decide (100 < ((rd_T31 l0 x7_2).f1).size) = true := decide_eq_true (by omega)
           clear c19
           (first | rw [c19b0] | (simp only [i64_w, i32_w]; rw [c19b0]) | skip)
           have H' := Aside0.mk H
           clear H
           have hnb20 := NB328_323.out
           have hnc20 := NB323_328.out
           have hcz21_0 : w16.cell? ⟨gb328, 0, none⟩ = some (.int .i64 0) := (blk_cell BK328.out 0).trans rfl
           have hcz21_1 : w16.cell? ⟨gb328, 1, none⟩ = some (.string (⟨#[]⟩ : ByteArray)) := (blk_cell BK328.out 1).trans rfl
           have hcz21_2 : w16.cell? ⟨gb328, 2, none⟩ = some (.string (⟨#[]⟩ : ByteArray)) := (blk_cell BK328.out 2).trans rfl
           have hcz21_3 : w16.cell? ⟨gb328, 3, none⟩ = some (.slice none 0 0) := (blk_cell BK328.out 3).trans rfl
           have hfz21_0 := blk_frozen BK328.out 0
           have hfz21_1 := blk_frozen BK328.out 1
           have hfz21_2 := blk_frozen BK328.out 2
           have hfz21_3 := blk_frozen BK328.out 3
           go_wp2
           go_meet
           case rel => exact ⟨_, (true), (by first | rfl | (simp; done) | (simp [*]; done)), H', ⟨by have := HJ4.out; have := HK2.out; first | omega | exact Nat.le_refl _⟩, ⟨by (with_reducible repeat (first | apply Kd.V_alloc | apply Kd.V_drewN | apply Kd.V_drew)); exact Kd.V_mono (vf_ (vf_ (vf_ (vf_ (Kd.V_mono HO_6.out (fun k_ hk => (⟨hk, hk.2⟩ : _ ∧ k_ ≠ gb328))))))) (fun _ hk => ⟨hk.1.1, hk.1.2⟩)⟩, ⟨by (with_reducible repeat (first | apply Kd.V_alloc | apply Kd.V_drewN | apply Kd.V_drew)); exact Kd.V_mono (vf_ (vf_ (vf_ (vf_ (Kd.V_mono HO_324000.out (fun k_ hk => (⟨hk, hk.2⟩ : _ ∧ k_ ≠ gb328))))))) (fun _ hk => ⟨hk.1.1, hk.1.2⟩)⟩, ⟨by (with_reducible repeat (first | refine blk_drewN ?_ _ | refine blk_drew ?_ | refine blk_alloc ?_ _)); refine blk_far ?_ NB323_328.out _; (with_reducible repeat (first | refine blk_drewN ?_ _ | refine blk_drew ?_ | refine blk_alloc ?_ _)); refine blk_far ?_ NB323_328.out _; (with_reducible repeat (first | refine blk_drewN ?_ _ | refine blk_drew ?_ | refine blk_alloc ?_ _)); refine blk_far ?_ NB323_328.out _; (with_reducible repeat (first | refine blk_drewN ?_ _ | refine blk_drew ?_ | refine blk_alloc ?_ _)); refine blk_far ?_ NB323_328.out _; (with_reducible repeat (first | refine blk_drewN ?_ _ | refine blk_drew ?_ | refine blk_alloc ?_ _)); exact BK323.out⟩, ⟨by (with_reducible repeat (first | refine blk_drewN ?_ _ | refine blk_drew ?_ | refine blk_alloc ?_ _)); refine blk_put (cs := #[.int .i64 ((rd_T31 l0 x7_2).f0), .string ((rd_T31 l0 x7_2).f1), .string ((rd_T31 l0 x7_2).f2), .slice none 0 0]) ?_ 3 _ rfl; (with_reducible repeat (first | refine blk_drewN ?_ _ | refine blk_drew ?_ | refine blk_alloc ?_ _)); refine blk_put (cs := #[.int .i64 ((rd_T31 l0 x7_2).f0), .string ((rd_T31 l0 x7_2).f1), .string (⟨#[]⟩ : ByteArray), .slice none 0 0]) ?_ 2 _ rfl; (with_reducible repeat (first | refine blk_drewN ?_ _ | refine blk_drew ?_ | refine blk_alloc ?_ _)); refine blk_put (cs := #[.int .i64 ((rd_T31 l0 x7_2).f0), .string (⟨#[]⟩ : ByteArray), .string (⟨#[]⟩ : ByteArray), .slice none 0 0]) ?_ 1 _ rfl; (with_reducible repeat (first | refine blk_drewN ?_ _ | refine blk_drew ?_ | refine blk_alloc ?_ _)); refine blk_put (cs := #[.int .i64 0, .string (⟨#[]⟩ : ByteArray), .string (⟨#[]⟩ : ByteArray), .slice none 0 0]) ?_ 0 _ rfl; (with_reducible repeat (first | refine blk_drewN ?_ _ | refine blk_drew ?_ | refine blk_alloc ?_ _)); exact BK328.out⟩, ⟨by repeat (first | (with_reducible first | exact HB.out | apply below_alloc | apply pw_below_drewN | apply below_drew1 | refine below_set ?_ GE323.out | refine below_set ?_ GE328.out) | exact HB.out)⟩⟩
          ·rw [if_neg c19] at H
           have c19b0 : decide (100 < (((rd_T31 l0 x7_2).f1).size : Int)) = false := decide_eq_false c19
           have c19b1 : decide (100 < ((rd_T31 l0 x7_2).f1).size) = false := decide_eq_false (by omega)
           clear c19
           (first | rw [c19b0] | (simp only [i64_w, i32_w]; rw [c19b0]) | skip)
           by_cases c22 : (((rd_T31 l0 x7_2).f2).size : Int) > 100
           ·rw [if_pos c22] at H
            have c22b0 : decide (100 < (((rd_T31 l0 x7_2).f2).size : Int)) = true := decide_eq_true c22
            have c22b1 : decide (100 < ((rd_T31 l0 x7_2).f2).size) = true := decide_eq_true (by omega)
            clear c22
            have H' := Aside0.mk H
            clear H
            have hnb23 := NB328_323.out
            have hnc23 := NB323_328.out
            have hcz24_0 : w16.cell? ⟨gb328, 0, none⟩ = some (.int .i64 0) := (blk_cell BK328.out 0).trans rfl
            have hcz24_1 : w16.cell? ⟨gb328, 1, none⟩ = some (.string (⟨#[]⟩ : ByteArray)) := (blk_cell BK328.out 1).trans rfl
            have hcz24_2 : w16.cell? ⟨gb328, 2, none⟩ = some (.string (⟨#[]⟩ : ByteArray)) := (blk_cell BK328.out 2).trans rfl
            have hcz24_3 : w16.cell? ⟨gb328, 3, none⟩ = some (.slice none 0 0) := (blk_cell BK328.out 3).trans rfl
            have hfz24_0 := blk_frozen BK328.out 0
            have hfz24_1 := blk_frozen BK328.out 1
            have hfz24_2 := blk_frozen BK328.out 2
            have hfz24_3 := blk_frozen BK328.out 3
            go_wp2
            go_meet
            case rel => exact ⟨_, (true), (by first | rfl | (simp; done) | (simp [*]; done)), H', ⟨by have := HJ4.out; have := HK2.out; first | omega | exact Nat.le_refl _⟩, ⟨by (with_reducible repeat (first | apply Kd.V_alloc | apply Kd.V_drewN | apply Kd.V_drew)); exact Kd.V_mono (vf_ (vf_ (vf_ (vf_ (Kd.V_mono HO_6.out (fun k_ hk => (⟨hk, hk.2⟩ : _ ∧ k_ ≠ gb328))))))) (fun _ hk => ⟨hk.1.1, hk.1.2⟩)⟩, ⟨by (with_reducible repeat (first | apply Kd.V_alloc | apply Kd.V_drewN | apply Kd.V_drew)); exact Kd.V_mono (vf_ (vf_ (vf_ (vf_ (Kd.V_mono HO_324000.out (fun k_ hk => (⟨hk, hk.2⟩ : _ ∧ k_ ≠ gb328))))))) (fun _ hk => ⟨hk.1.1, hk.1.2⟩)⟩, ⟨by (with_reducible repeat (first | refine blk_drewN ?_ _ | refine blk_drew ?_ | refine blk_alloc ?_ _)); refine blk_far ?_ NB323_328.out _; (with_reducible repeat (first | refine blk_drewN ?_ _ | refine blk_drew ?_ | refine blk_alloc ?_ _)); refine blk_far ?_ NB323_328.out _; (with_reducible repeat (first | refine blk_drewN ?_ _ | refine blk_drew ?_ | refine blk_alloc ?_ _)); refine blk_far ?_ NB323_328.out _; (with_reducible repeat (first | refine blk_drewN ?_ _ | refine blk_drew ?_ | refine blk_alloc ?_ _)); refine blk_far ?_ NB323_328.out _; (with_reducible repeat (first | refine blk_drewN ?_ _ | refine blk_drew ?_ | refine blk_alloc ?_ _)); exact BK323.out⟩, ⟨by (with_reducible repeat (first | refine blk_drewN ?_ _ | refine blk_drew ?_ | refine blk_alloc ?_ _)); refine blk_put (cs := #[.int .i64 ((rd_T31 l0 x7_2).f0), .string ((rd_T31 l0 x7_2).f1), .string ((rd_T31 l0 x7_2).f2), .slice none 0 0]) ?_ 3 _ rfl; (with_reducible repeat (first | refine blk_drewN ?_ _ | refine blk_drew ?_ | refine blk_alloc ?_ _)); refine blk_put (cs := #[.int .i64 ((rd_T31 l0 x7_2).f0), .string ((rd_T31 l0 x7_2).f1), .string (⟨#[]⟩ : ByteArray), .slice none 0 0]) ?_ 2 _ rfl; (with_reducible repeat (first | refine blk_drewN ?_ _ | refine blk_drew ?_ | refine blk_alloc ?_ _)); refine blk_put (cs := #[.int .i64 ((rd_T31 l0 x7_2).f0), .string (⟨#[]⟩ : ByteArray), .string (⟨#[]⟩ : ByteArray), .slice none 0 0]) ?_ 1 _ rfl; (with_reducible repeat (first | refine blk_drewN ?_ _ | refine blk_drew ?_ | refine blk_alloc ?_ _)); refine blk_put (cs := #[.int .i64 0, .string (⟨#[]⟩ : ByteArray), .string (⟨#[]⟩ : ByteArray), .slice none 0 0]) ?_ 0 _ rfl; (with_reducible repeat (first | refine blk_drewN ?_ _ | refine blk_drew ?_ | refine blk_alloc ?_ _)); exact BK328.out⟩, ⟨by repeat (first | (with_reducible first | exact HB.out | apply below_alloc | apply pw_below_drewN | apply below_drew1 | refine below_set ?_ GE323.out | refine below_set ?_ GE328.out) | exact HB.out)⟩⟩
           ·rw [if_neg c22] at H
            have c22b0 : decide (100 < (((rd_T31 l0 x7_2).f2).size : Int)) = false := decide_eq_false c22
            have c22b1 : decide (100 < ((rd_T31 l0 x7_2).f2).size) = false := decide_eq_false (by omega)
            clear c22
            have H' := Aside0.mk H
            clear H
            have hnb25 := NB328_323.out
            have hnc25 := NB323_328.out
            have hcz26_0 : w16.cell? ⟨gb328, 0, none⟩ = some (.int .i64 0) := (blk_cell BK328.out 0).trans rfl
            have hcz26_1 : w16.cell? ⟨gb328, 1, none⟩ = some (.string (⟨#[]⟩ : ByteArray)) := (blk_cell BK328.out 1).trans rfl
            have hcz26_2 : w16.cell? ⟨gb328, 2, none⟩ = some (.string (⟨#[]⟩ : ByteArray)) := (blk_cell BK328.out 2).trans rfl
            have hcz26_3 : w16.cell? ⟨gb328, 3, none⟩ = some (.slice none 0 0) := (blk_cell BK328.out 3).trans rfl
            have hfz26_0 := blk_frozen BK328.out 0
            have hfz26_1 := blk_frozen BK328.out 1
            have hfz26_2 := blk_frozen BK328.out 2
            have hfz26_3 := blk_frozen BK328.out 3
            go_wp2
            go_meet
            case rel => exact ⟨_, (decide ((((rd_T31 l0 x7_2).f3).length : Int) > 2100)), (by first | rfl | (simp; done) | (simp [*]; done)), H', ⟨by have := HJ4.out; have := HK2.out; first | omega | exact Nat.le_refl _⟩, ⟨by (with_reducible repeat (first | apply Kd.V_alloc | apply Kd.V_drewN | apply Kd.V_drew)); exact Kd.V_mono (vf_ (vf_ (vf_ (vf_ (Kd.V_mono HO_6.out (fun k_ hk => (⟨hk, hk.2⟩ : _ ∧ k_ ≠ gb328))))))) (fun _ hk => ⟨hk.1.1, hk.1.2⟩)⟩, ⟨by (with_reducible repeat (first | apply Kd.V_alloc | apply Kd.V_drewN | apply Kd.V_drew)); exact Kd.V_mono (vf_ (vf_ (vf_ (vf_ (Kd.V_mono HO_324000.out (fun k_ hk => (⟨hk, hk.2⟩ : _ ∧ k_ ≠ gb328))))))) (fun _ hk => ⟨hk.1.1, hk.1.2⟩)⟩, ⟨by (with_reducible repeat (first | refine blk_drewN ?_ _ | refine blk_drew ?_ | refine blk_alloc ?_ _)); refine blk_far ?_ NB323_328.out _; (with_reducible repeat (first | refine blk_drewN ?_ _ | refine blk_drew ?_ | refine blk_alloc ?_ _)); refine blk_far ?_ NB323_328.out _; (with_reducible repeat (first | refine blk_drewN ?_ _ | refine blk_drew ?_ | refine blk_alloc ?_ _)); refine blk_far ?_ NB323_328.out _; (with_reducible repeat (first | refine blk_drewN ?_ _ | refine blk_drew ?_ | refine blk_alloc ?_ _)); refine blk_far ?_ NB323_328.out _; (with_reducible repeat (first | refine blk_drewN ?_ _ | refine blk_drew ?_ | refine blk_alloc ?_ _)); exact BK323.out⟩, ⟨by (with_reducible repeat (first | refine blk_drewN ?_ _ | refine blk_drew ?_ | refine blk_alloc ?_ _)); refine blk_put (cs := #[.int .i64 ((rd_T31 l0 x7_2).f0), .string ((rd_T31 l0 x7_2).f1), .string ((rd_T31 l0 x7_2).f2), .slice none 0 0]) ?_ 3 _ rfl; (with_reducible repeat (first | refine blk_drewN ?_ _ | refine blk_drew ?_ | refine blk_alloc ?_ _)); refine blk_put (cs := #[.int .i64 ((rd_T31 l0 x7_2).f0), .string ((rd_T31 l0 x7_2).f1), .string (⟨#[]⟩ : ByteArray), .slice none 0 0]) ?_ 2 _ rfl; (with_reducible repeat (first | refine blk_drewN ?_ _ | refine blk_drew ?_ | refine blk_alloc ?_ _)); refine blk_put (cs := #[.int .i64 ((rd_T31 l0 x7_2).f0), .string (⟨#[]⟩ : ByteArray), .string (⟨#[]⟩ : ByteArray), .slice none 0 0]) ?_ 1 _ rfl; (with_reducible repeat (first | refine blk_drewN ?_ _ | refine blk_drew ?_ | refine blk_alloc ?_ _)); refine blk_put (cs := #[.int .i64 0, .string (⟨#[]⟩ : ByteArray), .string (⟨#[]⟩ : ByteArray), .slice none 0 0]) ?_ 0 _ rfl; (with_reducible repeat (first | refine blk_drewN ?_ _ | refine blk_drew ?_ | refine blk_alloc ?_ _)); exact BK328.out⟩, ⟨by repeat (first | (with_reducible first | exact HB.out | apply below_alloc | apply pw_below_drewN | apply below_drew1 | refine below_set ?_ GE323.out | refine below_set ?_ GE328.out) | exact HB.out)⟩⟩
         case rest =>
          clear HC15
          try clear c1
          try clear c2
          try clear p2
          try clear c3
          try clear p3
          try clear q3
          try clear hx3
          try clear c4
          try clear c5
          try clear c7
          try clear c7b0
          try clear c7b1
          try clear c8
          try clear c13
          try clear c13b0
          try clear c14
          try clear c14b0
          try clear c17
          try clear c19
          try clear c19b0
          try clear c19b1
          try clear c20
          try clear c22
          try clear c22b0
          try clear c22b1
          try clear c23
          try clear c25
          try clear hcz10_0
          try clear hcz18_0
          try clear hcz18_1
          try clear hcz18_2
          try clear hcz18_3
          try clear hcz21_0
          try clear hcz21_1
          try clear hcz21_2
          try clear hcz21_3
          try clear hcz24_0
          try clear hcz24_1
          try clear hcz24_2
          try clear hcz24_3
          try clear hcz26_0
          try clear hcz26_1
          try clear hcz26_2
          try clear hcz26_3
          try clear hfz10_0
          try clear hfz18_0
          try clear hfz18_1
          try clear hfz18_2
          try clear hfz18_3
          try clear hfz21_0
          try clear hfz21_1
          try clear hfz21_2
          try clear hfz21_3
          try clear hfz24_0
          try clear hfz24_1
          try clear hfz24_2
          try clear hfz24_3
          try clear hfz26_0
          try clear hfz26_1
          try clear hfz26_2
          try clear hfz26_3
          try clear hx327_0
          try clear hx327_1
          try clear hx327_2
          try clear hx327_3
          try clear p2
          try clear p327
          try clear q327
          obtain ⟨kq, x52_14, rfl, HA, HJ14, HO_6, HO_324000, BK323, BK328, HB⟩ := hcut
          cases kq with
          | zero => exact absurd HA.out (by simp [tallymanlaw8_TreePlays.j2])
          | succ kj14 =>
           have H := HA.out
           clear HA
           simp only [tallymanlaw8_TreePlays.j2] at H
           by_cases c27 : x52_14 = true
           ·subst c27
            have H1 : (some true) = some r := by rw [if_pos rfl] at H; exact H
            clear H
            have H := H1
            clear H1
            obtain rfl := Option.some.inj H
            go_wp2
            go_ret
            exact ⟨by first | rfl | (simp [*, errW_none, errW_some] <;> rfl), by repeat (first | (with_reducible first | exact HB.out | apply below_alloc | apply pw_below_drewN | apply below_drew1 | refine below_set ?_ GE323.out | refine below_set ?_ GE328.out) | exact HB.out)⟩
           ·replace c27 := Bool.eq_false_iff.mpr c27
            subst c27
            have H1 : (if ((rd_T31 l0 x7_2).f0) = 0 then ((tree_Put.f x324000_2 ((rd_T31 l0 x7_2).f1) ((rd_T31 l0 x7_2).f3)).bind fun bt329 => ((tallymanref7_Put.f kj14 x6_2 ((rd_T31 l0 x7_2).f1) ((rd_T31 l0 x7_2).f3)).bind fun bt333 => (tallymanlaw8_TreePlays.j3 kj14 l0 a1 bt333.1 x7_2 bt329.2 bt333.2 bt329.1))) else (if ((rd_T31 l0 x7_2).f0) = 1 then ((tree_Make.f x324000_2 ((rd_T31 l0 x7_2).f1)).bind fun bt337 => ((tallymanref7_Make.f kj14 x6_2 ((rd_T31 l0 x7_2).f1)).bind fun bt341 => (tallymanlaw8_TreePlays.j3 kj14 l0 a1 bt341.1 x7_2 bt337.2 bt341.2 bt337.1))) else (if ((rd_T31 l0 x7_2).f0) = 2 then ((tree_Remove.f x324000_2 ((rd_T31 l0 x7_2).f1)).bind fun bt345 => ((tallymanref7_Remove.f kj14 x6_2 ((rd_T31 l0 x7_2).f1)).bind fun bt349 => (tallymanlaw8_TreePlays.j3 kj14 l0 a1 bt349.1 x7_2 bt345.2 bt349.2 bt345.1))) else ((tree_Move.f x324000_2 ((rd_T31 l0 x7_2).f1) ((rd_T31 l0 x7_2).f2)).bind fun bt353 => ((tallymanref7_Move.f kj14 x6_2 ((rd_T31 l0 x7_2).f1) ((rd_T31 l0 x7_2).f2)).bind fun bt357 => (tallymanlaw8_TreePlays.j3 kj14 l0 a1 bt357.1 x7_2 bt353.2 bt357.2 bt353.1)))))) = some r := by rw [if_neg (show ¬ (false = true) by decide)] at H; exact H
            clear H
            have H := H1
            clear H1
            have HC28 := Aside0.mk H
            clear H
            have hnb29 := NB328_323.out
            have hnc29 := NB323_328.out
            have hcz30_0 : wc.cell? ⟨gb328, 0, none⟩ = some (.int .i64 ((rd_T31 l0 x7_2).f0)) := (blk_cell BK328.out 0).trans rfl
            have hcz30_1 : wc.cell? ⟨gb328, 1, none⟩ = some (.string ((rd_T31 l0 x7_2).f1)) := (blk_cell BK328.out 1).trans rfl
            have hcz30_2 : wc.cell? ⟨gb328, 2, none⟩ = some (.string ((rd_T31 l0 x7_2).f2)) := (blk_cell BK328.out 2).trans rfl
            have hcz30_3 : wc.cell? ⟨gb328, 3, none⟩ = some (.slice A327_3 ((rd_T31 l0 x7_2).f3).length c327_3) := (blk_cell BK328.out 3).trans rfl
            have hfz30_0 := blk_frozen BK328.out 0
            have hfz30_1 := blk_frozen BK328.out 1
            have hfz30_2 := blk_frozen BK328.out 2
            have hfz30_3 := blk_frozen BK328.out 3
            go_upto_block 2 with (fail)
            go_cut [6, 9, 10] (fun v6 v9 v10 wc => ∃ (kq : Nat) (x6_27 : List (S45)) (x9_27 : Int) (x10_27 : Int) (x324000_27 : List (S42)) (u324000 : Value), v9 = .int .i64 x9_27 ∧ v10 = .int .i64 x10_27 ∧ Aside0 (tallymanlaw8_TreePlays.j3 kq l0 a1 x6_27 x7_2 x9_27 x10_27 x324000_27 = some r) ∧ Aside0 (kq ≤ kj14) ∧ Aside0 (Kd.V k45 45 wc w.heap.size (fun k_ => k_ ≠ gb323 ∧ k_ ≠ gb328) v6 x6_27) ∧ Aside0 (Kd.V k42 42 wc w.heap.size (fun k_ => k_ ≠ gb323 ∧ k_ ≠ gb328) u324000 x324000_27) ∧ Aside0 (wc.heap[gb323]? = some (.cells #[u324000] 26 (0, 0))) ∧ Aside0 (wc.heap[gb328]? = some (.cells #[.int .i64 ((rd_T31 l0 x7_2).f0), .string ((rd_T31 l0 x7_2).f1), .string ((rd_T31 l0 x7_2).f2), (.slice A327_3 ((rd_T31 l0 x7_2).f3).length c327_3)] 31 (0, 0))) ∧ Aside0 (Below w.heap.size w wc))
            case first => as_aux_lemma =>
             have H := HC28.out
             clear HC28
             by_cases c31 : ((rd_T31 l0 x7_2).f0) = 0
             ·rw [if_pos c31] at H
              have c31b0 : (((rd_T31 l0 x7_2).f0) == 0) = true := beq_iff_eq.mpr c31
              have c31b1 : (((rd_T31 l0 x7_2).f0) != 0) = false := bne_eq_false_iff_eq.mpr c31
              clear c31
              (first | rw [c31b0] | (simp only [i64_w, i32_w]; rw [c31b0]) | skip)
              replace H := Option.bind_eq_some_iff.mp H
              obtain ⟨⟨t329, t332⟩, A320, H⟩ := H
              replace H : ((tallymanref7_Put.f kj14 x6_2 ((rd_T31 l0 x7_2).f1) ((rd_T31 l0 x7_2).f3)).bind fun bt333 => (tallymanlaw8_TreePlays.j3 kj14 l0 a1 bt333.1 x7_2 t332 bt333.2 t329)) = some r := H
              have A32 := Aside0.mk A320
              clear A320
              replace H := Option.bind_eq_some_iff.mp H
              obtain ⟨⟨t333, t336⟩, A330, H⟩ := H
              replace H : (tallymanlaw8_TreePlays.j3 kj14 l0 a1 t333 x7_2 t332 t336 t329) = some r := H
              have A33 := Aside0.mk A330
              clear A330
              have H' := Aside0.mk H
              clear H
              have hnb34 := NB323_328.out
              have hnc34 := NB328_323.out
              have hcz35_0 : wc.cell? ⟨gb323, 0, none⟩ = some (u324000) := (blk_cell BK323.out 0).trans rfl
              have hfz35_0 := blk_frozen BK323.out 0
              have hcz36_0 : wc.cell? ⟨gb328, 0, none⟩ = some (.int .i64 ((rd_T31 l0 x7_2).f0)) := (blk_cell BK328.out 0).trans rfl
              have hcz36_1 : wc.cell? ⟨gb328, 1, none⟩ = some (.string ((rd_T31 l0 x7_2).f1)) := (blk_cell BK328.out 1).trans rfl
              have hcz36_2 : wc.cell? ⟨gb328, 2, none⟩ = some (.string ((rd_T31 l0 x7_2).f2)) := (blk_cell BK328.out 2).trans rfl
              have hcz36_3 : wc.cell? ⟨gb328, 3, none⟩ = some (.slice A327_3 ((rd_T31 l0 x7_2).f3).length c327_3) := (blk_cell BK328.out 3).trans rfl
              have hfz36_0 := blk_frozen BK328.out 0
              have hfz36_1 := blk_frozen BK328.out 1
              have hfz36_2 := blk_frozen BK328.out 2
              have hfz36_3 := blk_frozen BK328.out 3
              obtain ⟨Ao37, co37, eo37⟩ := Kd.V_slice HO_324000.out
              subst eo37
              go_wp2_with (first | ((with_reducible refine gate_callee (f := 6) rfl ?_); refine goesL_ (some 81) rfl rfl Tryz.func6 (by kernel_rfl) rfl #[.agg #[.slice Ao37 x324000_2.length co37], .string ((rd_T31 l0 x7_2).f1), .slice A327_3 ((rd_T31 l0 x7_2).f3).length c327_3] rfl (by (try simp only [ca_]); first | done | rfl) ?_; (with_reducible refine (tree_Put.calls (fun k_ => (k_ ≠ gb323 ∧ k_ ≠ gb328)) _ _ x324000_2 ((rd_T31 l0 x7_2).f1) _ _ ((rd_T31 l0 x7_2).f3) t329 t332 _ ?side1 ?side2 ?side3 A32.out).mono ?_); (case side1 => exact HO_324000.out); (case side2 => exact xC_ (Kd.C_below HR327_3.out HB.out)); (case side3 => exact HC327_3.out); rintro e w38 ⟨v330, rfl, ho0, hb⟩; refine ⟨_, rfl, ?_⟩; replace HO_6 := xa_ (Kd.V_below (xV_ HO_6.out) hb); replace HO_324000 := xa_ (Kd.V_below (xV_ HO_324000.out) hb); replace HO331 := xa_ (Kd.V_lower (Kd.V_mono (ok' := fun k_ => k_ ≠ gb323 ∧ k_ ≠ gb328) ho0 (fun k_ hk_ => ⟨Or.elim hk_ (fun hs_ => hs_.1) (fun hn_ => (Kd.freshB (xb_ BK323.out) k_ hn_)), Or.elim hk_ (fun hs_ => hs_.2) (fun hn_ => (Kd.freshB (xb_ BK328.out) k_ hn_))⟩)) (below_size (xw_ HB.out))); replace BK323 := xa_ (blk_below (xb_ BK323.out) hb); replace BK328 := xa_ (blk_below (xb_ BK328.out) hb); replace HB := xa_ (below_step (xw_ HB.out) hb); (try clear hb); (try clear hb2); (try clear hk); (try clear hi); (try clear ho0); obtain ⟨Ao39, co39, eo39⟩ := Kd.V_slice HO331.out; subst eo39; have hcz40_0 : w38.cell? ⟨gb323, 0, none⟩ = some (.slice Ao37 x324000_2.length co37) := (blk_cell BK323.out 0).trans rfl; have hfz40_0 := blk_frozen BK323.out 0) | ((with_reducible refine gate_store (t := 26) (p := 5) rfl ?_); refine store_event (t := 26) (p := 5) (v := ?vo_w41) (w1 := (w38.setCell ⟨gb323, 0, none⟩ (.slice Ao39 t329.length co39))) ?hg ?ho ?hn ?hr ?_; (case ho => rfl); (case hg => rfl); (case hn => rfl); (case hr => first | (go_simp; done) | (go_simp; rfl)); intro w41 hw; have n0_ : Aside0 (Kd.V k45 45 w41 w.heap.size (fun k_ => k_ ≠ gb323 ∧ k_ ≠ gb328) u6 x6_2) := ⟨(by rw [hw]; exact (by (with_reducible repeat (first | apply Kd.V_alloc | apply Kd.V_drewN | apply Kd.V_drew)); exact Kd.V_mono (vf_ (Kd.V_mono HO_6.out (fun k_ hk => (⟨hk, hk.1⟩ : _ ∧ k_ ≠ gb323)))) (fun _ hk => ⟨hk.1.1, hk.1.2⟩)))⟩; have n1_ : Aside0 (Kd.V k42 42 w41 w.heap.size (fun k_ => k_ ≠ gb323 ∧ k_ ≠ gb328) (.slice Ao37 x324000_2.length co37) x324000_2) := ⟨(by rw [hw]; exact (by (with_reducible repeat (first | apply Kd.V_alloc | apply Kd.V_drewN | apply Kd.V_drew)); exact Kd.V_mono (vf_ (Kd.V_mono HO_324000.out (fun k_ hk => (⟨hk, hk.1⟩ : _ ∧ k_ ≠ gb323)))) (fun _ hk => ⟨hk.1.1, hk.1.2⟩)))⟩; have n2_ : Aside0 (Kd.V k42 42 w41 w.heap.size (fun k_ => k_ ≠ gb323 ∧ k_ ≠ gb328) (.slice Ao39 t329.length co39) t329) := ⟨(by rw [hw]; exact (by (with_reducible repeat (first | apply Kd.V_alloc | apply Kd.V_drewN | apply Kd.V_drew)); exact Kd.V_mono (vf_ (Kd.V_mono HO331.out (fun k_ hk => (⟨hk, hk.1⟩ : _ ∧ k_ ≠ gb323)))) (fun _ hk => ⟨hk.1.1, hk.1.2⟩)))⟩; have n3_ : Aside0 (w41.heap[gb323]? = some (.cells #[.slice Ao39 t329.length co39] 26 (0, 0))) := ⟨(by rw [hw]; exact (by (with_reducible repeat (first | refine blk_drewN ?_ _ | refine blk_drew ?_ | refine blk_alloc ?_ _)); refine blk_put (cs := #[.slice Ao37 x324000_2.length co37]) ?_ 0 _ rfl; exact BK323.out))⟩; have n4_ : Aside0 (w41.heap[gb328]? = some (.cells #[.int .i64 ((rd_T31 l0 x7_2).f0), .string ((rd_T31 l0 x7_2).f1), .string ((rd_T31 l0 x7_2).f2), .slice A327_3 ((rd_T31 l0 x7_2).f3).length c327_3] 31 (0, 0))) := ⟨(by rw [hw]; exact (by (with_reducible repeat (first | refine blk_drewN ?_ _ | refine blk_drew ?_ | refine blk_alloc ?_ _)); refine blk_far ?_ NB328_323.out _; exact BK328.out))⟩; have n5_ : Aside0 (Below w.heap.size w w41) := ⟨(by rw [hw]; exact (by repeat (first | (with_reducible first | exact HB.out | apply below_alloc | apply pw_below_drewN | apply below_drew1 | refine below_set ?_ GE323.out | refine below_set ?_ GE328.out) | exact HB.out)))⟩; clear hw; clear HO_6; clear HO_324000; clear HO331; clear BK323; clear BK328; clear HB; have HO_6 := n0_; have HO_324000 := n1_; have HO331 := n2_; have BK323 := n3_; have BK328 := n4_; have HB := n5_; clear n0_ n1_ n2_ n3_ n4_ n5_; have hcz42_0 : w41.cell? ⟨gb328, 0, none⟩ = some (.int .i64 ((rd_T31 l0 x7_2).f0)) := (blk_cell BK328.out 0).trans rfl; have hcz42_1 : w41.cell? ⟨gb328, 1, none⟩ = some (.string ((rd_T31 l0 x7_2).f1)) := (blk_cell BK328.out 1).trans rfl; have hcz42_2 : w41.cell? ⟨gb328, 2, none⟩ = some (.string ((rd_T31 l0 x7_2).f2)) := (blk_cell BK328.out 2).trans rfl; have hcz42_3 : w41.cell? ⟨gb328, 3, none⟩ = some (.slice A327_3 ((rd_T31 l0 x7_2).f3).length c327_3) := (blk_cell BK328.out 3).trans rfl; have hfz42_0 := blk_frozen BK328.out 0; have hfz42_1 := blk_frozen BK328.out 1; have hfz42_2 := blk_frozen BK328.out 2; have hfz42_3 := blk_frozen BK328.out 3; obtain ⟨Ao43, co43, eo43⟩ := Kd.V_slice HO_6.out; subst eo43) | ((with_reducible refine gate_callee (f := 7) rfl ?_); refine goesL_ (some 90) rfl rfl Tryz.func7 (by kernel_rfl) rfl #[.slice Ao43 x6_2.length co43, .string ((rd_T31 l0 x7_2).f1), .slice A327_3 ((rd_T31 l0 x7_2).f3).length c327_3] rfl (by (try simp only [ca_]); first | done | rfl) ?_; (with_reducible refine (tallymanref7_Put.calls kj14 (fun k_ => (k_ ≠ gb323 ∧ k_ ≠ gb328)) _ _ x6_2 ((rd_T31 l0 x7_2).f1) _ _ ((rd_T31 l0 x7_2).f3) t333 t336 _ ?side1 ?side2 ?side3 A33.out).mono ?_); (case side1 => exact HO_6.out); (case side2 => exact xC_ (Kd.C_below HR327_3.out HB.out)); (case side3 => exact HC327_3.out); rintro e w44 ⟨v334, rfl, ho0, hb⟩; refine ⟨_, rfl, ?_⟩; replace HO_6 := xa_ (Kd.V_below (xV_ HO_6.out) hb); replace HO_324000 := xa_ (Kd.V_below (xV_ HO_324000.out) hb); replace HO331 := xa_ (Kd.V_below (xV_ HO331.out) hb); replace HO335 := xa_ (Kd.V_lower (Kd.V_mono (ok' := fun k_ => k_ ≠ gb323 ∧ k_ ≠ gb328) ho0 (fun k_ hk_ => ⟨Or.elim hk_ (fun hs_ => hs_.1) (fun hn_ => (Kd.freshB (xb_ BK323.out) k_ hn_)), Or.elim hk_ (fun hs_ => hs_.2) (fun hn_ => (Kd.freshB (xb_ BK328.out) k_ hn_))⟩)) (below_size (xw_ HB.out))); replace BK323 := xa_ (blk_below (xb_ BK323.out) hb); replace BK328 := xa_ (blk_below (xb_ BK328.out) hb); replace HB := xa_ (below_step (xw_ HB.out) hb); (try clear hb); (try clear hb2); (try clear hk); (try clear hi); (try clear ho0)))
              go_meet
              case rel => exact ⟨_, (t333), (t332), (t336), (t329), (.slice Ao39 t329.length co39), (by first | rfl | (simp; done) | (simp [*]; done)), (by first | rfl | (simp; done) | (simp [*]; done)), H', ⟨by have := HJ4.out; have := HK2.out; have := HJ14.out; first | omega | exact Nat.le_refl _⟩, ⟨by (with_reducible repeat (first | apply Kd.V_alloc | apply Kd.V_drewN | apply Kd.V_drew)); exact HO335.out⟩, ⟨by (with_reducible repeat (first | apply Kd.V_alloc | apply Kd.V_drewN | apply Kd.V_drew)); exact HO331.out⟩, ⟨by (with_reducible repeat (first | refine blk_drewN ?_ _ | refine blk_drew ?_ | refine blk_alloc ?_ _)); exact BK323.out⟩, ⟨by (with_reducible repeat (first | refine blk_drewN ?_ _ | refine blk_drew ?_ | refine blk_alloc ?_ _)); exact BK328.out⟩, ⟨by repeat (first | (with_reducible first | exact HB.out | apply below_alloc | apply pw_below_drewN | apply below_drew1 | refine below_set ?_ GE323.out | refine below_set ?_ GE328.out) | exact HB.out)⟩⟩
             ·rw [if_neg c31] at H
              have c31b0 : (((rd_T31 l0 x7_2).f0) == 0) = false := beq_eq_false_iff_ne.mpr c31
              have c31b1 : (((rd_T31 l0 x7_2).f0) != 0) = true := bne_iff_ne.mpr c31
              (first | rw [c31b0] | (simp only [i64_w, i32_w]; rw [c31b0]) | skip)
              by_cases c45 : ((rd_T31 l0 x7_2).f0) = 1
              ·rw [if_pos c45] at H
               have c45b0 : (((rd_T31 l0 x7_2).f0) == 1) = true := beq_iff_eq.mpr c45
               have c45b1 : (((rd_T31 l0 x7_2).f0) != 1) = false := bne_eq_false_iff_eq.mpr c45
               clear c45
               replace H := Option.bind_eq_some_iff.mp H
               obtain ⟨⟨t337, t340⟩, A460, H⟩ := H
               replace H : ((tallymanref7_Make.f kj14 x6_2 ((rd_T31 l0 x7_2).f1)).bind fun bt341 => (tallymanlaw8_TreePlays.j3 kj14 l0 a1 bt341.1 x7_2 t340 bt341.2 t337)) = some r := H
               have A46 := Aside0.mk A460
               clear A460
               replace H := Option.bind_eq_some_iff.mp H
               obtain ⟨⟨t341, t344⟩, A470, H⟩ := H
               replace H : (tallymanlaw8_TreePlays.j3 kj14 l0 a1 t341 x7_2 t340 t344 t337) = some r := H
               have A47 := Aside0.mk A470
               clear A470
               have H' := Aside0.mk H
               clear H
               have hnb48 := NB323_328.out
               have hnc48 := NB328_323.out
               have hcz49_0 : wc.cell? ⟨gb323, 0, none⟩ = some (u324000) := (blk_cell BK323.out 0).trans rfl
               have hfz49_0 := blk_frozen BK323.out 0
               have hcz50_0 : wc.cell? ⟨gb328, 0, none⟩ = some (.int .i64 ((rd_T31 l0 x7_2).f0)) := (blk_cell BK328.out 0).trans rfl
               have hcz50_1 : wc.cell? ⟨gb328, 1, none⟩ = some (.string ((rd_T31 l0 x7_2).f1)) := (blk_cell BK328.out 1).trans rfl
               have hcz50_2 : wc.cell? ⟨gb328, 2, none⟩ = some (.string ((rd_T31 l0 x7_2).f2)) := (blk_cell BK328.out 2).trans rfl
               have hcz50_3 : wc.cell? ⟨gb328, 3, none⟩ = some (.slice A327_3 ((rd_T31 l0 x7_2).f3).length c327_3) := (blk_cell BK328.out 3).trans rfl
               have hfz50_0 := blk_frozen BK328.out 0
               have hfz50_1 := blk_frozen BK328.out 1
               have hfz50_2 := blk_frozen BK328.out 2
               have hfz50_3 := blk_frozen BK328.out 3
               obtain ⟨Ao51, co51, eo51⟩ := Kd.V_slice HO_324000.out
               subst eo51
               go_wp2_with (first | ((with_reducible refine gate_callee (f := 8) rfl ?_); refine goesL_ (some 99) rfl rfl Tryz.func8 (by kernel_rfl) rfl #[.agg #[.slice Ao51 x324000_2.length co51], .string ((rd_T31 l0 x7_2).f1)] rfl (by (try simp only [ca_]); first | done | rfl) ?_; (with_reducible refine (tree_Make.calls (fun k_ => (k_ ≠ gb323 ∧ k_ ≠ gb328)) _ _ x324000_2 ((rd_T31 l0 x7_2).f1) t337 t340 _ ?side1 A46.out).mono ?_); (case side1 => exact HO_324000.out); rintro e w52 ⟨v338, rfl, ho0, hb⟩; refine ⟨_, rfl, ?_⟩; replace HO_6 := xa_ (Kd.V_below (xV_ HO_6.out) hb); replace HO_324000 := xa_ (Kd.V_below (xV_ HO_324000.out) hb); replace HO339 := xa_ (Kd.V_lower (Kd.V_mono (ok' := fun k_ => k_ ≠ gb323 ∧ k_ ≠ gb328) ho0 (fun k_ hk_ => ⟨Or.elim hk_ (fun hs_ => hs_.1) (fun hn_ => (Kd.freshB (xb_ BK323.out) k_ hn_)), Or.elim hk_ (fun hs_ => hs_.2) (fun hn_ => (Kd.freshB (xb_ BK328.out) k_ hn_))⟩)) (below_size (xw_ HB.out))); replace BK323 := xa_ (blk_below (xb_ BK323.out) hb); replace BK328 := xa_ (blk_below (xb_ BK328.out) hb); replace HB := xa_ (below_step (xw_ HB.out) hb); (try clear hb); (try clear hb2); (try clear hk); (try clear hi); (try clear ho0); obtain ⟨Ao53, co53, eo53⟩ := Kd.V_slice HO339.out; subst eo53; have hcz54_0 : w52.cell? ⟨gb323, 0, none⟩ = some (.slice Ao51 x324000_2.length co51) := (blk_cell BK323.out 0).trans rfl; have hfz54_0 := blk_frozen BK323.out 0) | ((with_reducible refine gate_store (t := 26) (p := 5) rfl ?_); refine store_event (t := 26) (p := 5) (v := ?vo_w55) (w1 := (w52.setCell ⟨gb323, 0, none⟩ (.slice Ao53 t337.length co53))) ?hg ?ho ?hn ?hr ?_; (case ho => rfl); (case hg => rfl); (case hn => rfl); (case hr => first | (go_simp; done) | (go_simp; rfl)); intro w55 hw; have n0_ : Aside0 (Kd.V k45 45 w55 w.heap.size (fun k_ => k_ ≠ gb323 ∧ k_ ≠ gb328) u6 x6_2) := ⟨(by rw [hw]; exact (by (with_reducible repeat (first | apply Kd.V_alloc | apply Kd.V_drewN | apply Kd.V_drew)); exact Kd.V_mono (vf_ (Kd.V_mono HO_6.out (fun k_ hk => (⟨hk, hk.1⟩ : _ ∧ k_ ≠ gb323)))) (fun _ hk => ⟨hk.1.1, hk.1.2⟩)))⟩; have n1_ : Aside0 (Kd.V k42 42 w55 w.heap.size (fun k_ => k_ ≠ gb323 ∧ k_ ≠ gb328) (.slice Ao51 x324000_2.length co51) x324000_2) := ⟨(by rw [hw]; exact (by (with_reducible repeat (first | apply Kd.V_alloc | apply Kd.V_drewN | apply Kd.V_drew)); exact Kd.V_mono (vf_ (Kd.V_mono HO_324000.out (fun k_ hk => (⟨hk, hk.1⟩ : _ ∧ k_ ≠ gb323)))) (fun _ hk => ⟨hk.1.1, hk.1.2⟩)))⟩; have n2_ : Aside0 (Kd.V k42 42 w55 w.heap.size (fun k_ => k_ ≠ gb323 ∧ k_ ≠ gb328) (.slice Ao53 t337.length co53) t337) := ⟨(by rw [hw]; exact (by (with_reducible repeat (first | apply Kd.V_alloc | apply Kd.V_drewN | apply Kd.V_drew)); exact Kd.V_mono (vf_ (Kd.V_mono HO339.out (fun k_ hk => (⟨hk, hk.1⟩ : _ ∧ k_ ≠ gb323)))) (fun _ hk => ⟨hk.1.1, hk.1.2⟩)))⟩; have n3_ : Aside0 (w55.heap[gb323]? = some (.cells #[.slice Ao53 t337.length co53] 26 (0, 0))) := ⟨(by rw [hw]; exact (by (with_reducible repeat (first | refine blk_drewN ?_ _ | refine blk_drew ?_ | refine blk_alloc ?_ _)); refine blk_put (cs := #[.slice Ao51 x324000_2.length co51]) ?_ 0 _ rfl; exact BK323.out))⟩; have n4_ : Aside0 (w55.heap[gb328]? = some (.cells #[.int .i64 ((rd_T31 l0 x7_2).f0), .string ((rd_T31 l0 x7_2).f1), .string ((rd_T31 l0 x7_2).f2), .slice A327_3 ((rd_T31 l0 x7_2).f3).length c327_3] 31 (0, 0))) := ⟨(by rw [hw]; exact (by (with_reducible repeat (first | refine blk_drewN ?_ _ | refine blk_drew ?_ | refine blk_alloc ?_ _)); refine blk_far ?_ NB328_323.out _; exact BK328.out))⟩; have n5_ : Aside0 (Below w.heap.size w w55) := ⟨(by rw [hw]; exact (by repeat (first | (with_reducible first | exact HB.out | apply below_alloc | apply pw_below_drewN | apply below_drew1 | refine below_set ?_ GE323.out | refine below_set ?_ GE328.out) | exact HB.out)))⟩; clear hw; clear HO_6; clear HO_324000; clear HO339; clear BK323; clear BK328; clear HB; have HO_6 := n0_; have HO_324000 := n1_; have HO339 := n2_; have BK323 := n3_; have BK328 := n4_; have HB := n5_; clear n0_ n1_ n2_ n3_ n4_ n5_; have hcz56_0 : w55.cell? ⟨gb328, 0, none⟩ = some (.int .i64 ((rd_T31 l0 x7_2).f0)) := (blk_cell BK328.out 0).trans rfl; have hcz56_1 : w55.cell? ⟨gb328, 1, none⟩ = some (.string ((rd_T31 l0 x7_2).f1)) := (blk_cell BK328.out 1).trans rfl; have hcz56_2 : w55.cell? ⟨gb328, 2, none⟩ = some (.string ((rd_T31 l0 x7_2).f2)) := (blk_cell BK328.out 2).trans rfl; have hcz56_3 : w55.cell? ⟨gb328, 3, none⟩ = some (.slice A327_3 ((rd_T31 l0 x7_2).f3).length c327_3) := (blk_cell BK328.out 3).trans rfl; have hfz56_0 := blk_frozen BK328.out 0; have hfz56_1 := blk_frozen BK328.out 1; have hfz56_2 := blk_frozen BK328.out 2; have hfz56_3 := blk_frozen BK328.out 3; obtain ⟨Ao57, co57, eo57⟩ := Kd.V_slice HO_6.out; subst eo57) | ((with_reducible refine gate_callee (f := 9) rfl ?_); refine goesL_ (some 106) rfl rfl Tryz.func9 (by kernel_rfl) rfl #[.slice Ao57 x6_2.length co57, .string ((rd_T31 l0 x7_2).f1)] rfl (by (try simp only [ca_]); first | done | rfl) ?_; (with_reducible refine (tallymanref7_Make.calls kj14 (fun k_ => (k_ ≠ gb323 ∧ k_ ≠ gb328)) _ _ x6_2 ((rd_T31 l0 x7_2).f1) t341 t344 _ ?side1 A47.out).mono ?_); (case side1 => exact HO_6.out); rintro e w58 ⟨v342, rfl, ho0, hb⟩; refine ⟨_, rfl, ?_⟩; replace HO_6 := xa_ (Kd.V_below (xV_ HO_6.out) hb); replace HO_324000 := xa_ (Kd.V_below (xV_ HO_324000.out) hb); replace HO339 := xa_ (Kd.V_below (xV_ HO339.out) hb); replace HO343 := xa_ (Kd.V_lower (Kd.V_mono (ok' := fun k_ => k_ ≠ gb323 ∧ k_ ≠ gb328) ho0 (fun k_ hk_ => ⟨Or.elim hk_ (fun hs_ => hs_.1) (fun hn_ => (Kd.freshB (xb_ BK323.out) k_ hn_)), Or.elim hk_ (fun hs_ => hs_.2) (fun hn_ => (Kd.freshB (xb_ BK328.out) k_ hn_))⟩)) (below_size (xw_ HB.out))); replace BK323 := xa_ (blk_below (xb_ BK323.out) hb); replace BK328 := xa_ (blk_below (xb_ BK328.out) hb); replace HB := xa_ (below_step (xw_ HB.out) hb); (try clear hb); (try clear hb2); (try clear hk); (try clear hi); (try clear ho0)))
               go_meet
               case rel => exact ⟨_, (t341), (t340), (t344), (t337), (.slice Ao53 t337.length co53), (by first | rfl | (simp; done) | (simp [*]; done)), (by first | rfl | (simp; done) | (simp [*]; done)), H', ⟨by have := HJ4.out; have := HK2.out; have := HJ14.out; first | omega | exact Nat.le_refl _⟩, ⟨by (with_reducible repeat (first | apply Kd.V_alloc | apply Kd.V_drewN | apply Kd.V_drew)); exact HO343.out⟩, ⟨by (with_reducible repeat (first | apply Kd.V_alloc | apply Kd.V_drewN | apply Kd.V_drew)); exact HO339.out⟩, ⟨by (with_reducible repeat (first | refine blk_drewN ?_ _ | refine blk_drew ?_ | refine blk_alloc ?_ _)); exact BK323.out⟩, ⟨by (with_reducible repeat (first | refine blk_drewN ?_ _ | refine blk_drew ?_ | refine blk_alloc ?_ _)); exact BK328.out⟩, ⟨by repeat (first | (with_reducible first | exact HB.out | apply below_alloc | apply pw_below_drewN | apply below_drew1 | refine below_set ?_ GE323.out | refine below_set ?_ GE328.out) | exact HB.out)⟩⟩
              ·rw [if_neg c45] at H
               have c45b0 : (((rd_T31 l0 x7_2).f0) == 1) = false := beq_eq_false_iff_ne.mpr c45
               have c45b1 : (((rd_T31 l0 x7_2).f0) != 1) = true := bne_iff_ne.mpr c45
               by_cases c59 : ((rd_T31 l0 x7_2).f0) = 2
               ·rw [if_pos c59] at H
                have c59b0 : (((rd_T31 l0 x7_2).f0) == 2) = true := beq_iff_eq.mpr c59
                have c59b1 : (((rd_T31 l0 x7_2).f0) != 2) = false := bne_eq_false_iff_eq.mpr c59
                clear c59
                replace H := Option.bind_eq_some_iff.mp H
                obtain ⟨⟨t345, t348⟩, A600, H⟩ := H
                replace H : ((tallymanref7_Remove.f kj14 x6_2 ((rd_T31 l0 x7_2).f1)).bind fun bt349 => (tallymanlaw8_TreePlays.j3 kj14 l0 a1 bt349.1 x7_2 t348 bt349.2 t345)) = some r := H
                have A60 := Aside0.mk A600
                clear A600
                replace H := Option.bind_eq_some_iff.mp H
                obtain ⟨⟨t349, t352⟩, A610, H⟩ := H
                replace H : (tallymanlaw8_TreePlays.j3 kj14 l0 a1 t349 x7_2 t348 t352 t345) = some r := H
                have A61 := Aside0.mk A610
                clear A610
                have H' := Aside0.mk H
                clear H
                have hnb62 := NB323_328.out
                have hnc62 := NB328_323.out
                have hcz63_0 : wc.cell? ⟨gb323, 0, none⟩ = some (u324000) := (blk_cell BK323.out 0).trans rfl
                have hfz63_0 := blk_frozen BK323.out 0
                have hcz64_0 : wc.cell? ⟨gb328, 0, none⟩ = some (.int .i64 ((rd_T31 l0 x7_2).f0)) := (blk_cell BK328.out 0).trans rfl
                have hcz64_1 : wc.cell? ⟨gb328, 1, none⟩ = some (.string ((rd_T31 l0 x7_2).f1)) := (blk_cell BK328.out 1).trans rfl
                have hcz64_2 : wc.cell? ⟨gb328, 2, none⟩ = some (.string ((rd_T31 l0 x7_2).f2)) := (blk_cell BK328.out 2).trans rfl
                have hcz64_3 : wc.cell? ⟨gb328, 3, none⟩ = some (.slice A327_3 ((rd_T31 l0 x7_2).f3).length c327_3) := (blk_cell BK328.out 3).trans rfl
                have hfz64_0 := blk_frozen BK328.out 0
                have hfz64_1 := blk_frozen BK328.out 1
                have hfz64_2 := blk_frozen BK328.out 2
                have hfz64_3 := blk_frozen BK328.out 3
                obtain ⟨Ao65, co65, eo65⟩ := Kd.V_slice HO_324000.out
                subst eo65
                go_wp2_with (first | ((with_reducible refine gate_callee (f := 10) rfl ?_); refine goesL_ (some 115) rfl rfl Tryz.func10 (by kernel_rfl) rfl #[.agg #[.slice Ao65 x324000_2.length co65], .string ((rd_T31 l0 x7_2).f1)] rfl (by (try simp only [ca_]); first | done | rfl) ?_; (with_reducible refine (tree_Remove.calls (fun k_ => (k_ ≠ gb323 ∧ k_ ≠ gb328)) _ _ x324000_2 ((rd_T31 l0 x7_2).f1) t345 t348 _ ?side1 A60.out).mono ?_); (case side1 => exact HO_324000.out); rintro e w66 ⟨v346, rfl, ho0, hb⟩; refine ⟨_, rfl, ?_⟩; replace HO_6 := xa_ (Kd.V_below (xV_ HO_6.out) hb); replace HO_324000 := xa_ (Kd.V_below (xV_ HO_324000.out) hb); replace HO347 := xa_ (Kd.V_lower (Kd.V_mono (ok' := fun k_ => k_ ≠ gb323 ∧ k_ ≠ gb328) ho0 (fun k_ hk_ => ⟨Or.elim hk_ (fun hs_ => hs_.1) (fun hn_ => (Kd.freshB (xb_ BK323.out) k_ hn_)), Or.elim hk_ (fun hs_ => hs_.2) (fun hn_ => (Kd.freshB (xb_ BK328.out) k_ hn_))⟩)) (below_size (xw_ HB.out))); replace BK323 := xa_ (blk_below (xb_ BK323.out) hb); replace BK328 := xa_ (blk_below (xb_ BK328.out) hb); replace HB := xa_ (below_step (xw_ HB.out) hb); (try clear hb); (try clear hb2); (try clear hk); (try clear hi); (try clear ho0); obtain ⟨Ao67, co67, eo67⟩ := Kd.V_slice HO347.out; subst eo67; have hcz68_0 : w66.cell? ⟨gb323, 0, none⟩ = some (.slice Ao65 x324000_2.length co65) := (blk_cell BK323.out 0).trans rfl; have hfz68_0 := blk_frozen BK323.out 0) | ((with_reducible refine gate_store (t := 26) (p := 5) rfl ?_); refine store_event (t := 26) (p := 5) (v := ?vo_w69) (w1 := (w66.setCell ⟨gb323, 0, none⟩ (.slice Ao67 t345.length co67))) ?hg ?ho ?hn ?hr ?_; (case ho => rfl); (case hg => rfl); (case hn => rfl); (case hr => first | (go_simp; done) | (go_simp; rfl)); intro w69 hw; have n0_ : Aside0 (Kd.V k45 45 w69 w.heap.size (fun k_ => k_ ≠ gb323 ∧ k_ ≠ gb328) u6 x6_2) := ⟨(by rw [hw]; exact (by (with_reducible repeat (first | apply Kd.V_alloc | apply Kd.V_drewN | apply Kd.V_drew)); exact Kd.V_mono (vf_ (Kd.V_mono HO_6.out (fun k_ hk => (⟨hk, hk.1⟩ : _ ∧ k_ ≠ gb323)))) (fun _ hk => ⟨hk.1.1, hk.1.2⟩)))⟩; have n1_ : Aside0 (Kd.V k42 42 w69 w.heap.size (fun k_ => k_ ≠ gb323 ∧ k_ ≠ gb328) (.slice Ao65 x324000_2.length co65) x324000_2) := ⟨(by rw [hw]; exact (by (with_reducible repeat (first | apply Kd.V_alloc | apply Kd.V_drewN | apply Kd.V_drew)); exact Kd.V_mono (vf_ (Kd.V_mono HO_324000.out (fun k_ hk => (⟨hk, hk.1⟩ : _ ∧ k_ ≠ gb323)))) (fun _ hk => ⟨hk.1.1, hk.1.2⟩)))⟩; have n2_ : Aside0 (Kd.V k42 42 w69 w.heap.size (fun k_ => k_ ≠ gb323 ∧ k_ ≠ gb328) (.slice Ao67 t345.length co67) t345) := ⟨(by rw [hw]; exact (by (with_reducible repeat (first | apply Kd.V_alloc | apply Kd.V_drewN | apply Kd.V_drew)); exact Kd.V_mono (vf_ (Kd.V_mono HO347.out (fun k_ hk => (⟨hk, hk.1⟩ : _ ∧ k_ ≠ gb323)))) (fun _ hk => ⟨hk.1.1, hk.1.2⟩)))⟩; have n3_ : Aside0 (w69.heap[gb323]? = some (.cells #[.slice Ao67 t345.length co67] 26 (0, 0))) := ⟨(by rw [hw]; exact (by (with_reducible repeat (first | refine blk_drewN ?_ _ | refine blk_drew ?_ | refine blk_alloc ?_ _)); refine blk_put (cs := #[.slice Ao65 x324000_2.length co65]) ?_ 0 _ rfl; exact BK323.out))⟩; have n4_ : Aside0 (w69.heap[gb328]? = some (.cells #[.int .i64 ((rd_T31 l0 x7_2).f0), .string ((rd_T31 l0 x7_2).f1), .string ((rd_T31 l0 x7_2).f2), .slice A327_3 ((rd_T31 l0 x7_2).f3).length c327_3] 31 (0, 0))) := ⟨(by rw [hw]; exact (by (with_reducible repeat (first | refine blk_drewN ?_ _ | refine blk_drew ?_ | refine blk_alloc ?_ _)); refine blk_far ?_ NB328_323.out _; exact BK328.out))⟩; have n5_ : Aside0 (Below w.heap.size w w69) := ⟨(by rw [hw]; exact (by repeat (first | (with_reducible first | exact HB.out | apply below_alloc | apply pw_below_drewN | apply below_drew1 | refine below_set ?_ GE323.out | refine below_set ?_ GE328.out) | exact HB.out)))⟩; clear hw; clear HO_6; clear HO_324000; clear HO347; clear BK323; clear BK328; clear HB; have HO_6 := n0_; have HO_324000 := n1_; have HO347 := n2_; have BK323 := n3_; have BK328 := n4_; have HB := n5_; clear n0_ n1_ n2_ n3_ n4_ n5_; have hcz70_0 : w69.cell? ⟨gb328, 0, none⟩ = some (.int .i64 ((rd_T31 l0 x7_2).f0)) := (blk_cell BK328.out 0).trans rfl; have hcz70_1 : w69.cell? ⟨gb328, 1, none⟩ = some (.string ((rd_T31 l0 x7_2).f1)) := (blk_cell BK328.out 1).trans rfl; have hcz70_2 : w69.cell? ⟨gb328, 2, none⟩ = some (.string ((rd_T31 l0 x7_2).f2)) := (blk_cell BK328.out 2).trans rfl; have hcz70_3 : w69.cell? ⟨gb328, 3, none⟩ = some (.slice A327_3 ((rd_T31 l0 x7_2).f3).length c327_3) := (blk_cell BK328.out 3).trans rfl; have hfz70_0 := blk_frozen BK328.out 0; have hfz70_1 := blk_frozen BK328.out 1; have hfz70_2 := blk_frozen BK328.out 2; have hfz70_3 := blk_frozen BK328.out 3; obtain ⟨Ao71, co71, eo71⟩ := Kd.V_slice HO_6.out; subst eo71) | ((with_reducible refine gate_callee (f := 11) rfl ?_); refine goesL_ (some 122) rfl rfl Tryz.func11 (by kernel_rfl) rfl #[.slice Ao71 x6_2.length co71, .string ((rd_T31 l0 x7_2).f1)] rfl (by (try simp only [ca_]); first | done | rfl) ?_; (with_reducible refine (tallymanref7_Remove.calls kj14 (fun k_ => (k_ ≠ gb323 ∧ k_ ≠ gb328)) _ _ x6_2 ((rd_T31 l0 x7_2).f1) t349 t352 _ ?side1 A61.out).mono ?_); (case side1 => exact HO_6.out); rintro e w72 ⟨v350, rfl, ho0, hb⟩; refine ⟨_, rfl, ?_⟩; replace HO_6 := xa_ (Kd.V_below (xV_ HO_6.out) hb); replace HO_324000 := xa_ (Kd.V_below (xV_ HO_324000.out) hb); replace HO347 := xa_ (Kd.V_below (xV_ HO347.out) hb); replace HO351 := xa_ (Kd.V_lower (Kd.V_mono (ok' := fun k_ => k_ ≠ gb323 ∧ k_ ≠ gb328) ho0 (fun k_ hk_ => ⟨Or.elim hk_ (fun hs_ => hs_.1) (fun hn_ => (Kd.freshB (xb_ BK323.out) k_ hn_)), Or.elim hk_ (fun hs_ => hs_.2) (fun hn_ => (Kd.freshB (xb_ BK328.out) k_ hn_))⟩)) (below_size (xw_ HB.out))); replace BK323 := xa_ (blk_below (xb_ BK323.out) hb); replace BK328 := xa_ (blk_below (xb_ BK328.out) hb); replace HB := xa_ (below_step (xw_ HB.out) hb); (try clear hb); (try clear hb2); (try clear hk); (try clear hi); (try clear ho0)))
                go_meet
                case rel => exact ⟨_, (t349), (t348), (t352), (t345), (.slice Ao67 t345.length co67), (by first | rfl | (simp; done) | (simp [*]; done)), (by first | rfl | (simp; done) | (simp [*]; done)), H', ⟨by have := HJ4.out; have := HK2.out; have := HJ14.out; first | omega | exact Nat.le_refl _⟩, ⟨by (with_reducible repeat (first | apply Kd.V_alloc | apply Kd.V_drewN | apply Kd.V_drew)); exact HO351.out⟩, ⟨by (with_reducible repeat (first | apply Kd.V_alloc | apply Kd.V_drewN | apply Kd.V_drew)); exact HO347.out⟩, ⟨by (with_reducible repeat (first | refine blk_drewN ?_ _ | refine blk_drew ?_ | refine blk_alloc ?_ _)); exact BK323.out⟩, ⟨by (with_reducible repeat (first | refine blk_drewN ?_ _ | refine blk_drew ?_ | refine blk_alloc ?_ _)); exact BK328.out⟩, ⟨by repeat (first | (with_reducible first | exact HB.out | apply below_alloc | apply pw_below_drewN | apply below_drew1 | refine below_set ?_ GE323.out | refine below_set ?_ GE328.out) | exact HB.out)⟩⟩
               ·rw [if_neg c59] at H
                have c59b0 : (((rd_T31 l0 x7_2).f0) == 2) = false := beq_eq_false_iff_ne.mpr c59
                have c59b1 : (((rd_T31 l0 x7_2).f0) != 2) = true := bne_iff_ne.mpr c59
                replace H := Option.bind_eq_some_iff.mp H
                obtain ⟨⟨t353, t356⟩, A730, H⟩ := H
                replace H : ((tallymanref7_Move.f kj14 x6_2 ((rd_T31 l0 x7_2).f1) ((rd_T31 l0 x7_2).f2)).bind fun bt357 => (tallymanlaw8_TreePlays.j3 kj14 l0 a1 bt357.1 x7_2 t356 bt357.2 t353)) = some r := H
                have A73 := Aside0.mk A730
                clear A730
                replace H := Option.bind_eq_some_iff.mp H
                obtain ⟨⟨t357, t360⟩, A740, H⟩ := H
                replace H : (tallymanlaw8_TreePlays.j3 kj14 l0 a1 t357 x7_2 t356 t360 t353) = some r := H
                have A74 := Aside0.mk A740
                clear A740
                have H' := Aside0.mk H
                clear H
                have hnb75 := NB323_328.out
                have hnc75 := NB328_323.out
                have hcz76_0 : wc.cell? ⟨gb323, 0, none⟩ = some (u324000) := (blk_cell BK323.out 0).trans rfl
                have hfz76_0 := blk_frozen BK323.out 0
                have hcz77_0 : wc.cell? ⟨gb328, 0, none⟩ = some (.int .i64 ((rd_T31 l0 x7_2).f0)) := (blk_cell BK328.out 0).trans rfl
                have hcz77_1 : wc.cell? ⟨gb328, 1, none⟩ = some (.string ((rd_T31 l0 x7_2).f1)) := (blk_cell BK328.out 1).trans rfl
                have hcz77_2 : wc.cell? ⟨gb328, 2, none⟩ = some (.string ((rd_T31 l0 x7_2).f2)) := (blk_cell BK328.out 2).trans rfl
                have hcz77_3 : wc.cell? ⟨gb328, 3, none⟩ = some (.slice A327_3 ((rd_T31 l0 x7_2).f3).length c327_3) := (blk_cell BK328.out 3).trans rfl
                have hfz77_0 := blk_frozen BK328.out 0
                have hfz77_1 := blk_frozen BK328.out 1
                have hfz77_2 := blk_frozen BK328.out 2
                have hfz77_3 := blk_frozen BK328.out 3
                obtain ⟨Ao78, co78, eo78⟩ := Kd.V_slice HO_324000.out
                subst eo78
                go_wp2_with (first | ((with_reducible refine gate_callee (f := 12) rfl ?_); refine goesL_ (some 61) rfl rfl Tryz.func12 (by kernel_rfl) rfl #[.agg #[.slice Ao78 x324000_2.length co78], .string ((rd_T31 l0 x7_2).f1), .string ((rd_T31 l0 x7_2).f2)] rfl (by (try simp only [ca_]); first | done | rfl) ?_; (with_reducible refine (tree_Move.calls (fun k_ => (k_ ≠ gb323 ∧ k_ ≠ gb328)) _ _ x324000_2 ((rd_T31 l0 x7_2).f1) ((rd_T31 l0 x7_2).f2) t353 t356 _ ?side1 A73.out).mono ?_); (case side1 => exact HO_324000.out); rintro e w79 ⟨v354, rfl, ho0, hb⟩; refine ⟨_, rfl, ?_⟩; replace HO_6 := xa_ (Kd.V_below (xV_ HO_6.out) hb); replace HO_324000 := xa_ (Kd.V_below (xV_ HO_324000.out) hb); replace HO355 := xa_ (Kd.V_lower (Kd.V_mono (ok' := fun k_ => k_ ≠ gb323 ∧ k_ ≠ gb328) ho0 (fun k_ hk_ => ⟨Or.elim hk_ (fun hs_ => hs_.1) (fun hn_ => (Kd.freshB (xb_ BK323.out) k_ hn_)), Or.elim hk_ (fun hs_ => hs_.2) (fun hn_ => (Kd.freshB (xb_ BK328.out) k_ hn_))⟩)) (below_size (xw_ HB.out))); replace BK323 := xa_ (blk_below (xb_ BK323.out) hb); replace BK328 := xa_ (blk_below (xb_ BK328.out) hb); replace HB := xa_ (below_step (xw_ HB.out) hb); (try clear hb); (try clear hb2); (try clear hk); (try clear hi); (try clear ho0); obtain ⟨Ao80, co80, eo80⟩ := Kd.V_slice HO355.out; subst eo80; have hcz81_0 : w79.cell? ⟨gb323, 0, none⟩ = some (.slice Ao78 x324000_2.length co78) := (blk_cell BK323.out 0).trans rfl; have hfz81_0 := blk_frozen BK323.out 0) | ((with_reducible refine gate_store (t := 26) (p := 5) rfl ?_); refine store_event (t := 26) (p := 5) (v := ?vo_w82) (w1 := (w79.setCell ⟨gb323, 0, none⟩ (.slice Ao80 t353.length co80))) ?hg ?ho ?hn ?hr ?_; (case ho => rfl); (case hg => rfl); (case hn => rfl); (case hr => first | (go_simp; done) | (go_simp; rfl)); intro w82 hw; have n0_ : Aside0 (Kd.V k45 45 w82 w.heap.size (fun k_ => k_ ≠ gb323 ∧ k_ ≠ gb328) u6 x6_2) := ⟨(by rw [hw]; exact (by (with_reducible repeat (first | apply Kd.V_alloc | apply Kd.V_drewN | apply Kd.V_drew)); exact Kd.V_mono (vf_ (Kd.V_mono HO_6.out (fun k_ hk => (⟨hk, hk.1⟩ : _ ∧ k_ ≠ gb323)))) (fun _ hk => ⟨hk.1.1, hk.1.2⟩)))⟩; have n1_ : Aside0 (Kd.V k42 42 w82 w.heap.size (fun k_ => k_ ≠ gb323 ∧ k_ ≠ gb328) (.slice Ao78 x324000_2.length co78) x324000_2) := ⟨(by rw [hw]; exact (by (with_reducible repeat (first | apply Kd.V_alloc | apply Kd.V_drewN | apply Kd.V_drew)); exact Kd.V_mono (vf_ (Kd.V_mono HO_324000.out (fun k_ hk => (⟨hk, hk.1⟩ : _ ∧ k_ ≠ gb323)))) (fun _ hk => ⟨hk.1.1, hk.1.2⟩)))⟩; have n2_ : Aside0 (Kd.V k42 42 w82 w.heap.size (fun k_ => k_ ≠ gb323 ∧ k_ ≠ gb328) (.slice Ao80 t353.length co80) t353) := ⟨(by rw [hw]; exact (by (with_reducible repeat (first | apply Kd.V_alloc | apply Kd.V_drewN | apply Kd.V_drew)); exact Kd.V_mono (vf_ (Kd.V_mono HO355.out (fun k_ hk => (⟨hk, hk.1⟩ : _ ∧ k_ ≠ gb323)))) (fun _ hk => ⟨hk.1.1, hk.1.2⟩)))⟩; have n3_ : Aside0 (w82.heap[gb323]? = some (.cells #[.slice Ao80 t353.length co80] 26 (0, 0))) := ⟨(by rw [hw]; exact (by (with_reducible repeat (first | refine blk_drewN ?_ _ | refine blk_drew ?_ | refine blk_alloc ?_ _)); refine blk_put (cs := #[.slice Ao78 x324000_2.length co78]) ?_ 0 _ rfl; exact BK323.out))⟩; have n4_ : Aside0 (w82.heap[gb328]? = some (.cells #[.int .i64 ((rd_T31 l0 x7_2).f0), .string ((rd_T31 l0 x7_2).f1), .string ((rd_T31 l0 x7_2).f2), .slice A327_3 ((rd_T31 l0 x7_2).f3).length c327_3] 31 (0, 0))) := ⟨(by rw [hw]; exact (by (with_reducible repeat (first | refine blk_drewN ?_ _ | refine blk_drew ?_ | refine blk_alloc ?_ _)); refine blk_far ?_ NB328_323.out _; exact BK328.out))⟩; have n5_ : Aside0 (Below w.heap.size w w82) := ⟨(by rw [hw]; exact (by repeat (first | (with_reducible first | exact HB.out | apply below_alloc | apply pw_below_drewN | apply below_drew1 | refine below_set ?_ GE323.out | refine below_set ?_ GE328.out) | exact HB.out)))⟩; clear hw; clear HO_6; clear HO_324000; clear HO355; clear BK323; clear BK328; clear HB; have HO_6 := n0_; have HO_324000 := n1_; have HO355 := n2_; have BK323 := n3_; have BK328 := n4_; have HB := n5_; clear n0_ n1_ n2_ n3_ n4_ n5_; have hcz83_0 : w82.cell? ⟨gb328, 0, none⟩ = some (.int .i64 ((rd_T31 l0 x7_2).f0)) := (blk_cell BK328.out 0).trans rfl; have hcz83_1 : w82.cell? ⟨gb328, 1, none⟩ = some (.string ((rd_T31 l0 x7_2).f1)) := (blk_cell BK328.out 1).trans rfl; have hcz83_2 : w82.cell? ⟨gb328, 2, none⟩ = some (.string ((rd_T31 l0 x7_2).f2)) := (blk_cell BK328.out 2).trans rfl; have hcz83_3 : w82.cell? ⟨gb328, 3, none⟩ = some (.slice A327_3 ((rd_T31 l0 x7_2).f3).length c327_3) := (blk_cell BK328.out 3).trans rfl; have hfz83_0 := blk_frozen BK328.out 0; have hfz83_1 := blk_frozen BK328.out 1; have hfz83_2 := blk_frozen BK328.out 2; have hfz83_3 := blk_frozen BK328.out 3; obtain ⟨Ao84, co84, eo84⟩ := Kd.V_slice HO_6.out; subst eo84) | ((with_reducible refine gate_callee (f := 13) rfl ?_); refine goesL_ (some 70) rfl rfl Tryz.func13 (by kernel_rfl) rfl #[.slice Ao84 x6_2.length co84, .string ((rd_T31 l0 x7_2).f1), .string ((rd_T31 l0 x7_2).f2)] rfl (by (try simp only [ca_]); first | done | rfl) ?_; (with_reducible refine (tallymanref7_Move.calls kj14 (fun k_ => (k_ ≠ gb323 ∧ k_ ≠ gb328)) _ _ x6_2 ((rd_T31 l0 x7_2).f1) ((rd_T31 l0 x7_2).f2) t357 t360 _ ?side1 A74.out).mono ?_); (case side1 => exact HO_6.out); rintro e w85 ⟨v358, rfl, ho0, hb⟩; refine ⟨_, rfl, ?_⟩; replace HO_6 := xa_ (Kd.V_below (xV_ HO_6.out) hb); replace HO_324000 := xa_ (Kd.V_below (xV_ HO_324000.out) hb); replace HO355 := xa_ (Kd.V_below (xV_ HO355.out) hb); replace HO359 := xa_ (Kd.V_lower (Kd.V_mono (ok' := fun k_ => k_ ≠ gb323 ∧ k_ ≠ gb328) ho0 (fun k_ hk_ => ⟨Or.elim hk_ (fun hs_ => hs_.1) (fun hn_ => (Kd.freshB (xb_ BK323.out) k_ hn_)), Or.elim hk_ (fun hs_ => hs_.2) (fun hn_ => (Kd.freshB (xb_ BK328.out) k_ hn_))⟩)) (below_size (xw_ HB.out))); replace BK323 := xa_ (blk_below (xb_ BK323.out) hb); replace BK328 := xa_ (blk_below (xb_ BK328.out) hb); replace HB := xa_ (below_step (xw_ HB.out) hb); (try clear hb); (try clear hb2); (try clear hk); (try clear hi); (try clear ho0)))
                go_meet
                case rel => exact ⟨_, (t357), (t356), (t360), (t353), (.slice Ao80 t353.length co80), (by first | rfl | (simp; done) | (simp [*]; done)), (by first | rfl | (simp; done) | (simp [*]; done)), H', ⟨by have := HJ4.out; have := HK2.out; have := HJ14.out; first | omega | exact Nat.le_refl _⟩, ⟨by (with_reducible repeat (first | apply Kd.V_alloc | apply Kd.V_drewN | apply Kd.V_drew)); exact HO359.out⟩, ⟨by (with_reducible repeat (first | apply Kd.V_alloc | apply Kd.V_drewN | apply Kd.V_drew)); exact HO355.out⟩, ⟨by (with_reducible repeat (first | refine blk_drewN ?_ _ | refine blk_drew ?_ | refine blk_alloc ?_ _)); exact BK323.out⟩, ⟨by (with_reducible repeat (first | refine blk_drewN ?_ _ | refine blk_drew ?_ | refine blk_alloc ?_ _)); exact BK328.out⟩, ⟨by repeat (first | (with_reducible first | exact HB.out | apply below_alloc | apply pw_below_drewN | apply below_drew1 | refine below_set ?_ GE323.out | refine below_set ?_ GE328.out) | exact HB.out)⟩⟩
            case rest => as_aux_lemma =>
             clear HC28
             try clear c1
             try clear c2
             try clear p2
             try clear c3
             try clear p3
             try clear q3
             try clear hx3
             try clear c4
             try clear c5
             try clear c6
             try clear c7
             try clear c7b0
             try clear c7b1
             try clear c8
             try clear c9
             try clear c10
             try clear c11
             try clear c12
             try clear c13
             try clear c13b0
             try clear c14
             try clear c14b0
             try clear c17
             try clear c19
             try clear c19b0
             try clear c19b1
             try clear c20
             try clear c22
             try clear c22b0
             try clear c22b1
             try clear c23
             try clear c25
             try clear c27
             try clear c29
             try clear c31
             try clear c31b0
             try clear c31b1
             try clear c32
             try clear p32
             try clear q32
             try clear hx32
             try clear c34
             try clear c45
             try clear c45b0
             try clear c45b1
             try clear c48
             try clear c59
             try clear c59b0
             try clear c59b1
             try clear c62
             try clear c75
             try clear hcz10_0
             try clear hcz18_0
             try clear hcz18_1
             try clear hcz18_2
             try clear hcz18_3
             try clear hcz21_0
             try clear hcz21_1
             try clear hcz21_2
             try clear hcz21_3
             try clear hcz24_0
             try clear hcz24_1
             try clear hcz24_2
             try clear hcz24_3
             try clear hcz26_0
             try clear hcz26_1
             try clear hcz26_2
             try clear hcz26_3
             try clear hcz30_0
             try clear hcz30_1
             try clear hcz30_2
             try clear hcz30_3
             try clear hcz35_0
             try clear hcz36_0
             try clear hcz36_1
             try clear hcz36_2
             try clear hcz36_3
             try clear hcz40_0
             try clear hcz42_0
             try clear hcz42_1
             try clear hcz42_2
             try clear hcz42_3
             try clear hcz49_0
             try clear hcz50_0
             try clear hcz50_1
             try clear hcz50_2
             try clear hcz50_3
             try clear hcz54_0
             try clear hcz56_0
             try clear hcz56_1
             try clear hcz56_2
             try clear hcz56_3
             try clear hcz63_0
             try clear hcz64_0
             try clear hcz64_1
             try clear hcz64_2
             try clear hcz64_3
             try clear hcz68_0
             try clear hcz70_0
             try clear hcz70_1
             try clear hcz70_2
             try clear hcz70_3
             try clear hcz76_0
             try clear hcz77_0
             try clear hcz77_1
             try clear hcz77_2
             try clear hcz77_3
             try clear hcz81_0
             try clear hcz83_0
             try clear hcz83_1
             try clear hcz83_2
             try clear hcz83_3
             try clear hfz10_0
             try clear hfz18_0
             try clear hfz18_1
             try clear hfz18_2
             try clear hfz18_3
             try clear hfz21_0
             try clear hfz21_1
             try clear hfz21_2
             try clear hfz21_3
             try clear hfz24_0
             try clear hfz24_1
             try clear hfz24_2
             try clear hfz24_3
             try clear hfz26_0
             try clear hfz26_1
             try clear hfz26_2
             try clear hfz26_3
             try clear hfz30_0
             try clear hfz30_1
             try clear hfz30_2
             try clear hfz30_3
             try clear hfz35_0
             try clear hfz36_0
             try clear hfz36_1
             try clear hfz36_2
             try clear hfz36_3
             try clear hfz40_0
             try clear hfz42_0
             try clear hfz42_1
             try clear hfz42_2
             try clear hfz42_3
             try clear hfz49_0
             try clear hfz50_0
             try clear hfz50_1
             try clear hfz50_2
             try clear hfz50_3
             try clear hfz54_0
             try clear hfz56_0
             try clear hfz56_1
             try clear hfz56_2
             try clear hfz56_3
             try clear hfz63_0
             try clear hfz64_0
             try clear hfz64_1
             try clear hfz64_2
             try clear hfz64_3
             try clear hfz68_0
             try clear hfz70_0
             try clear hfz70_1
             try clear hfz70_2
             try clear hfz70_3
             try clear hfz76_0
             try clear hfz77_0
             try clear hfz77_1
             try clear hfz77_2
             try clear hfz77_3
             try clear hfz81_0
             try clear hfz83_0
             try clear hfz83_1
             try clear hfz83_2
             try clear hfz83_3
             try clear hx327_0
             try clear hx327_1
             try clear hx327_2
             try clear hx327_3
             try clear p2
             try clear p3
             try clear p327
             try clear q3
             try clear q327
             obtain ⟨kq, x6_27, x9_27, x10_27, x324000_27, u324000, rfl, rfl, HA, HJ27, HO_6, HO_324000, BK323, BK328, HB⟩ := hcut
             cases kq with
             | zero => exact absurd HA.out (by simp [tallymanlaw8_TreePlays.j3])
             | succ kj27 =>
              have H := HA.out
              clear HA
              simp only [tallymanlaw8_TreePlays.j3] at H
              replace H := Option.bind_eq_some_iff.mp H
              obtain ⟨⟨t361, t362, t363, t366⟩, A860, H⟩ := H
              replace H : ((tallymanref7_Find.f kj27 x6_27 a1).bind fun bt368 => (if x9_27 = x10_27 then ((tallymanlaw8_own.f kj27 x324000_27).bind fun t375 => ((tallymanref7_Alike.f kj27 t375 x6_27).bind fun t378 => (if t378 = true then ((tree_Good.f x324000_27).bind fun t379 => (if t379 = true then (if t366 = bt368.2.2.2 then (if t361.toList = bt368.1.toList then (if (t362 != bt368.2.1) = true then (some false) else (if (strOfNums t363).toList = (strOfNums bt368.2.2.1).toList then ((tree_Kids.f kj27 x324000_27 a1).bind fun t380 => ((tallymanref7_Kids.f kj27 x6_27 a1).bind fun t383 => ((tallymanlaw8_texts.f kj27 t380 t383).bind fun t386 => (if t386 = true then ((tree_Bytes.f kj27 x324000_27).bind fun t387 => ((tallymanref7_Bytes.f kj27 x6_27).bind fun t388 => (if t387 = t388 then (tallymanlaw8_TreePlays.l0 kj27 l0 a1 x6_27 (wrap64 (x7_2 + 1)) x324000_27) else (some false)))) else (some false))))) else (some false))) else (some false)) else (some false)) else (some false))) else (some false)))) else (some false))) = some r := H
              have A86 := Aside0.mk A860
              clear A860
              replace H := Option.bind_eq_some_iff.mp H
              obtain ⟨⟨t368, t369, t370, t373⟩, A870, H⟩ := H
              replace H : (if x9_27 = x10_27 then ((tallymanlaw8_own.f kj27 x324000_27).bind fun t375 => ((tallymanref7_Alike.f kj27 t375 x6_27).bind fun t378 => (if t378 = true then ((tree_Good.f x324000_27).bind fun t379 => (if t379 = true then (if t366 = t373 then (if t361.toList = t368.toList then (if (t362 != t369) = true then (some false) else (if (strOfNums t363).toList = (strOfNums t370).toList then ((tree_Kids.f kj27 x324000_27 a1).bind fun t380 => ((tallymanref7_Kids.f kj27 x6_27 a1).bind fun t383 => ((tallymanlaw8_texts.f kj27 t380 t383).bind fun t386 => (if t386 = true then ((tree_Bytes.f kj27 x324000_27).bind fun t387 => ((tallymanref7_Bytes.f kj27 x6_27).bind fun t388 => (if t387 = t388 then (tallymanlaw8_TreePlays.l0 kj27 l0 a1 x6_27 (wrap64 (x7_2 + 1)) x324000_27) else (some false)))) else (some false))))) else (some false))) else (some false)) else (some false)) else (some false))) else (some false)))) else (some false)) = some r := H
              have A87 := Aside0.mk A870
              clear A870
              by_cases c88 : x9_27 = x10_27
              ·rw [if_pos c88] at H
               have c88b0 : (x9_27 == x10_27) = true := beq_iff_eq.mpr c88
               have c88b1 : (x9_27 != x10_27) = false := bne_eq_false_iff_eq.mpr c88
               clear c88
               replace H := Option.bind_eq_some_iff.mp H
               obtain ⟨t375, A890, H⟩ := H
               replace H : ((tallymanref7_Alike.f kj27 t375 x6_27).bind fun t378 => (if t378 = true then ((tree_Good.f x324000_27).bind fun t379 => (if t379 = true then (if t366 = t373 then (if t361.toList = t368.toList then (if (t362 != t369) = true then (some false) else (if (strOfNums t363).toList = (strOfNums t370).toList then ((tree_Kids.f kj27 x324000_27 a1).bind fun t380 => ((tallymanref7_Kids.f kj27 x6_27 a1).bind fun t383 => ((tallymanlaw8_texts.f kj27 t380 t383).bind fun t386 => (if t386 = true then ((tree_Bytes.f kj27 x324000_27).bind fun t387 => ((tallymanref7_Bytes.f kj27 x6_27).bind fun t388 => (if t387 = t388 then (tallymanlaw8_TreePlays.l0 kj27 l0 a1 x6_27 (wrap64 (x7_2 + 1)) x324000_27) else (some false)))) else (some false))))) else (some false))) else (some false)) else (some false)) else (some false))) else (some false))) = some r := H
               have A89 := Aside0.mk A890
               clear A890
               replace H := Option.bind_eq_some_iff.mp H
               obtain ⟨t378, A900, H⟩ := H
               replace H : (if t378 = true then ((tree_Good.f x324000_27).bind fun t379 => (if t379 = true then (if t366 = t373 then (if t361.toList = t368.toList then (if (t362 != t369) = true then (some false) else (if (strOfNums t363).toList = (strOfNums t370).toList then ((tree_Kids.f kj27 x324000_27 a1).bind fun t380 => ((tallymanref7_Kids.f kj27 x6_27 a1).bind fun t383 => ((tallymanlaw8_texts.f kj27 t380 t383).bind fun t386 => (if t386 = true then ((tree_Bytes.f kj27 x324000_27).bind fun t387 => ((tallymanref7_Bytes.f kj27 x6_27).bind fun t388 => (if t387 = t388 then (tallymanlaw8_TreePlays.l0 kj27 l0 a1 x6_27 (wrap64 (x7_2 + 1)) x324000_27) else (some false)))) else (some false))))) else (some false))) else (some false)) else (some false)) else (some false))) else (some false)) = some r := H
               have A90 := Aside0.mk A900
               clear A900
               by_cases c91 : t378 = true
               ·subst c91
                have H1 : ((tree_Good.f x324000_27).bind fun t379 => (if t379 = true then (if t366 = t373 then (if t361.toList = t368.toList then (if (t362 != t369) = true then (some false) else (if (strOfNums t363).toList = (strOfNums t370).toList then ((tree_Kids.f kj27 x324000_27 a1).bind fun t380 => ((tallymanref7_Kids.f kj27 x6_27 a1).bind fun t383 => ((tallymanlaw8_texts.f kj27 t380 t383).bind fun t386 => (if t386 = true then ((tree_Bytes.f kj27 x324000_27).bind fun t387 => ((tallymanref7_Bytes.f kj27 x6_27).bind fun t388 => (if t387 = t388 then (tallymanlaw8_TreePlays.l0 kj27 l0 a1 x6_27 (wrap64 (x7_2 + 1)) x324000_27) else (some false)))) else (some false))))) else (some false))) else (some false)) else (some false)) else (some false))) = some r := by rw [if_pos rfl] at H; exact H
                clear H
                have H := H1
                clear H1
                replace H := Option.bind_eq_some_iff.mp H
                obtain ⟨t379, A920, H⟩ := H
                replace H : (if t379 = true then (if t366 = t373 then (if t361.toList = t368.toList then (if (t362 != t369) = true then (some false) else (if (strOfNums t363).toList = (strOfNums t370).toList then ((tree_Kids.f kj27 x324000_27 a1).bind fun t380 => ((tallymanref7_Kids.f kj27 x6_27 a1).bind fun t383 => ((tallymanlaw8_texts.f kj27 t380 t383).bind fun t386 => (if t386 = true then ((tree_Bytes.f kj27 x324000_27).bind fun t387 => ((tallymanref7_Bytes.f kj27 x6_27).bind fun t388 => (if t387 = t388 then (tallymanlaw8_TreePlays.l0 kj27 l0 a1 x6_27 (wrap64 (x7_2 + 1)) x324000_27) else (some false)))) else (some false))))) else (some false))) else (some false)) else (some false)) else (some false)) = some r := H
                have A92 := Aside0.mk A920
                clear A920
                by_cases c93 : t379 = true
                ·subst c93
                 have H1 : (if t366 = t373 then (if t361.toList = t368.toList then (if (t362 != t369) = true then (some false) else (if (strOfNums t363).toList = (strOfNums t370).toList then ((tree_Kids.f kj27 x324000_27 a1).bind fun t380 => ((tallymanref7_Kids.f kj27 x6_27 a1).bind fun t383 => ((tallymanlaw8_texts.f kj27 t380 t383).bind fun t386 => (if t386 = true then ((tree_Bytes.f kj27 x324000_27).bind fun t387 => ((tallymanref7_Bytes.f kj27 x6_27).bind fun t388 => (if t387 = t388 then (tallymanlaw8_TreePlays.l0 kj27 l0 a1 x6_27 (wrap64 (x7_2 + 1)) x324000_27) else (some false)))) else (some false))))) else (some false))) else (some false)) else (some false)) = some r := by rw [if_pos rfl] at H; exact H
                 clear H
                 have H := H1
                 clear H1
                 by_cases c94 : t366 = t373
                 ·rw [if_pos c94] at H
                  have c94b0 : (t366 == t373) = true := beq_iff_eq.mpr c94
                  have c94b1 : (t366 != t373) = false := bne_eq_false_iff_eq.mpr c94
                  clear c94
                  by_cases c95 : t361.toList = t368.toList
                  ·rw [if_pos c95] at H
                   have c95b0 : (t361.toList == t368.toList) = true := beq_iff_eq.mpr c95
                   have c95b1 : (t361.toList != t368.toList) = false := bne_eq_false_iff_eq.mpr c95
                   clear c95
                   by_cases c96 : (t362 != t369) = true
                   ·rw [if_pos c96] at H
                    have c96b0 : (t362 != t369) = true := c96
                    (try (have c96b1 : decide (t362 = t369) = false := by simpa using c96))
                    (try (have c96b2 : (t362 == t369) = false := by simpa using c96))
                    (try (have c96b3 : ¬ (t362 = t369) := by simpa using c96))
                    clear c96
                    exact absurd ((Option.some.inj H).trans HT_.out) (by decide)
                   ·rw [if_neg c96] at H
                    have c96b0 : (t362 != t369) = false := by simpa using c96
                    (try (have c96b1 : decide (t362 = t369) = true := by simpa using c96))
                    (try (have c96b2 : (t362 == t369) = true := by simpa using c96))
                    clear c96
                    by_cases c97 : (strOfNums t363).toList = (strOfNums t370).toList
                    ·rw [if_pos c97] at H
                     have c97b0 : ((strOfNums t363).toList == (strOfNums t370).toList) = true := beq_iff_eq.mpr c97
                     have c97b1 : ((strOfNums t363).toList != (strOfNums t370).toList) = false := bne_eq_false_iff_eq.mpr c97
                     clear c97
                     replace H := Option.bind_eq_some_iff.mp H
                     obtain ⟨t380, A980, H⟩ := H
                     replace H : ((tallymanref7_Kids.f kj27 x6_27 a1).bind fun t383 => ((tallymanlaw8_texts.f kj27 t380 t383).bind fun t386 => (if t386 = true then ((tree_Bytes.f kj27 x324000_27).bind fun t387 => ((tallymanref7_Bytes.f kj27 x6_27).bind fun t388 => (if t387 = t388 then (tallymanlaw8_TreePlays.l0 kj27 l0 a1 x6_27 (wrap64 (x7_2 + 1)) x324000_27) else (some false)))) else (some false)))) = some r := H
                     have A98 := Aside0.mk A980
                     clear A980
                     replace H := Option.bind_eq_some_iff.mp H
                     obtain ⟨t383, A990, H⟩ := H
                     replace H : ((tallymanlaw8_texts.f kj27 t380 t383).bind fun t386 => (if t386 = true then ((tree_Bytes.f kj27 x324000_27).bind fun t387 => ((tallymanref7_Bytes.f kj27 x6_27).bind fun t388 => (if t387 = t388 then (tallymanlaw8_TreePlays.l0 kj27 l0 a1 x6_27 (wrap64 (x7_2 + 1)) x324000_27) else (some false)))) else (some false))) = some r := H
                     have A99 := Aside0.mk A990
                     clear A990
                     replace H := Option.bind_eq_some_iff.mp H
                     obtain ⟨t386, A1000, H⟩ := H
                     replace H : (if t386 = true then ((tree_Bytes.f kj27 x324000_27).bind fun t387 => ((tallymanref7_Bytes.f kj27 x6_27).bind fun t388 => (if t387 = t388 then (tallymanlaw8_TreePlays.l0 kj27 l0 a1 x6_27 (wrap64 (x7_2 + 1)) x324000_27) else (some false)))) else (some false)) = some r := H
                     have A100 := Aside0.mk A1000
                     clear A1000
                     by_cases c101 : t386 = true
                     ·subst c101
                      have H1 : ((tree_Bytes.f kj27 x324000_27).bind fun t387 => ((tallymanref7_Bytes.f kj27 x6_27).bind fun t388 => (if t387 = t388 then (tallymanlaw8_TreePlays.l0 kj27 l0 a1 x6_27 (wrap64 (x7_2 + 1)) x324000_27) else (some false)))) = some r := by rw [if_pos rfl] at H; exact H
                      clear H
                      have H := H1
                      clear H1
                      replace H := Option.bind_eq_some_iff.mp H
                      obtain ⟨t387, A1020, H⟩ := H
                      replace H : ((tallymanref7_Bytes.f kj27 x6_27).bind fun t388 => (if t387 = t388 then (tallymanlaw8_TreePlays.l0 kj27 l0 a1 x6_27 (wrap64 (x7_2 + 1)) x324000_27) else (some false))) = some r := H
                      have A102 := Aside0.mk A1020
                      clear A1020
                      replace H := Option.bind_eq_some_iff.mp H
                      obtain ⟨t388, A1030, H⟩ := H
                      replace H : (if t387 = t388 then (tallymanlaw8_TreePlays.l0 kj27 l0 a1 x6_27 (wrap64 (x7_2 + 1)) x324000_27) else (some false)) = some r := H
                      have A103 := Aside0.mk A1030
                      clear A1030
                      by_cases c104 : t387 = t388
                      ·rw [if_pos c104] at H
                       have c104b0 : (t387 == t388) = true := beq_iff_eq.mpr c104
                       have c104b1 : (t387 != t388) = false := bne_eq_false_iff_eq.mpr c104
                       clear c104
                       have H' := Aside0.mk H
                       clear H
                       have hnb105 := NB323_328.out
                       have hnc105 := NB328_323.out
                       have hcz106_0 : wc.cell? ⟨gb323, 0, none⟩ = some (u324000) := (blk_cell BK323.out 0).trans rfl
                       have hfz106_0 := blk_frozen BK323.out 0
                       obtain ⟨Ao107, co107, eo107⟩ := Kd.V_slice HO_324000.out
                       subst eo107
                       go_wp2_with (first | ((with_reducible refine gate_callee (f := 14) rfl ?_); refine goesL_ (some 128) rfl rfl Tryz.func14 (by kernel_rfl) rfl #[.agg #[.slice Ao107 x324000_27.length co107], .string a1] rfl (by (try simp only [ca_]); first | done | rfl) ?_; (with_reducible refine (tree_Find.calls _ _ x324000_27 a1 t361 t362 t363 t366 _ ?side1 ?side2 A86.out).mono ?_); (case side1 => exact xC_ (Kd.V_reads' HO_324000.out).2.2); (case side2 => exact (Kd.V_reads' HO_324000.out).2.1); rintro e w108 ⟨v364, rfl, ho0, hb⟩; refine ⟨_, rfl, ?_⟩; replace HO_6 := xa_ (Kd.V_elder' (xV_ HO_6.out) (Kd.R_base ho0) hb); replace HO_324000 := xa_ (Kd.V_elder' (xV_ HO_324000.out) (Kd.R_base ho0) hb); replace HO365 := xa_ (Kd.R_lower ho0 (below_size (xw_ HB.out))); replace BK323 := xa_ (blk_below (xb_ BK323.out) hb); replace BK328 := xa_ (blk_below (xb_ BK328.out) hb); replace HB := xa_ (below_step (xw_ HB.out) hb); (try clear hb); (try clear hb2); (try clear hk); (try clear hi); (try clear ho0)) | ((with_reducible refine gate_dst (N := 11) rfl ?_); (try (refine gate_guard (by rfl) ?_; dsimp only)); refine box_event ?hg (N := 11) ?hd (cs := #[.string (⟨#[]⟩ : ByteArray), .bool false, .slice none 0 0]) (t := 42) ?hr ?_; (case hd => rfl); (case hg => rfl); (case hr => first | (go_simp; done) | (go_simp; rfl)); intro gb367 hg w109 hbox hb; have BK367 := xa_ (hbox); have GW367 := xa_ ((by rw [hg]; exact (below_size (xw_ HB.out)) : w.heap.size ≤ gb367)); have GE367 := xa_ ((by rw [hg]; exact (below_size (xw_ HB.out)) : w.heap.size ≤ gb367)); have NB323_367 := xa_ ((by rw [hg]; exact Nat.ne_of_lt (blk_lt (xb_ BK323.out)) : gb323 ≠ gb367)); have NB367_323 := xa_ ((by rw [hg]; exact Nat.ne_of_gt (blk_lt (xb_ BK323.out)) : gb367 ≠ gb323)); have NB328_367 := xa_ ((by rw [hg]; exact Nat.ne_of_lt (blk_lt (xb_ BK328.out)) : gb328 ≠ gb367)); have NB367_328 := xa_ ((by rw [hg]; exact Nat.ne_of_gt (blk_lt (xb_ BK328.out)) : gb367 ≠ gb328)); replace HO_6 := xa_ (Kd.V_below (Kd.V_elderB (xV_ HO_6.out) gb367 (Nat.le_of_eq hg.symm)) hb); replace HO_324000 := xa_ (Kd.V_below (Kd.V_elderB (xV_ HO_324000.out) gb367 (Nat.le_of_eq hg.symm)) hb); replace HO365 := xa_ (Kd.R_below (xR_ HO365.out) hb); replace BK323 := xa_ (blk_below (xb_ BK323.out) hb); replace BK328 := xa_ (blk_below (xb_ BK328.out) hb); replace HB := xa_ (below_step (xw_ HB.out) hb); clear hb hbox hg; have hnb110 := NB367_323.out; have hnc110 := NB323_367.out; have hnb111 := NB367_328.out; have hnc111 := NB328_367.out; have hcz112_0 : w109.cell? ⟨gb367, 0, none⟩ = some (.string (⟨#[]⟩ : ByteArray)) := (blk_cell BK367.out 0).trans rfl; have hcz112_1 : w109.cell? ⟨gb367, 1, none⟩ = some (.bool false) := (blk_cell BK367.out 1).trans rfl; have hcz112_2 : w109.cell? ⟨gb367, 2, none⟩ = some (.slice none 0 0) := (blk_cell BK367.out 2).trans rfl; have hfz112_0 := blk_frozen BK367.out 0; have hfz112_1 := blk_frozen BK367.out 1; have hfz112_2 := blk_frozen BK367.out 2; obtain ⟨Ao113, co113, eo113⟩ := Kd.R_slice HO365.out; subst eo113) | ((with_reducible refine gate_store (t := 42) (p := 11) rfl ?_); refine store_event (t := 42) (p := 11) (v := ?vo_w114) (w1 := (((w109.setCell ⟨gb367, 0, none⟩ (.string t361)).setCell ⟨gb367, 1, none⟩ (.bool t362)).setCell ⟨gb367, 2, none⟩ (.slice Ao113 t363.length co113))) ?hg ?ho ?hn ?hr ?_; (case ho => rfl); (case hg => rfl); (case hn => rfl); (case hr => first | (go_simp; done) | (go_simp; rfl)); intro w114 hw; have n0_ : Aside0 (Kd.V k45 45 w114 w.heap.size (fun k_ => some k_ ≠ (.slice Ao113 t363.length co113 : Value).ownBlock ∧ k_ ≠ gb323 ∧ k_ ≠ gb328 ∧ k_ ≠ gb367) u6 x6_27) := ⟨(by rw [hw]; exact (by (with_reducible repeat (first | apply Kd.V_alloc | apply Kd.V_drewN | apply Kd.V_drew)); exact Kd.V_mono (vf_ (vf_ (vf_ (Kd.V_mono HO_6.out (fun k_ hk => (⟨hk, hk.2⟩ : _ ∧ k_ ≠ gb367)))))) (fun _ hk => ⟨hk.1.1.2, ⟨hk.1.1.1.1, ⟨hk.1.1.1.2, hk.1.2⟩⟩⟩)))⟩; have n1_ : Aside0 (Kd.V k42 42 w114 w.heap.size (fun k_ => some k_ ≠ (.slice Ao113 t363.length co113 : Value).ownBlock ∧ k_ ≠ gb323 ∧ k_ ≠ gb328 ∧ k_ ≠ gb367) (.slice Ao107 x324000_27.length co107) x324000_27) := ⟨(by rw [hw]; exact (by (with_reducible repeat (first | apply Kd.V_alloc | apply Kd.V_drewN | apply Kd.V_drew)); exact Kd.V_mono (vf_ (vf_ (vf_ (Kd.V_mono HO_324000.out (fun k_ hk => (⟨hk, hk.2⟩ : _ ∧ k_ ≠ gb367)))))) (fun _ hk => ⟨hk.1.1.2, ⟨hk.1.1.1.1, ⟨hk.1.1.1.2, hk.1.2⟩⟩⟩)))⟩; have n2_ : Aside0 (Kd.R (Kd.int .u8) 5 w114 w.heap.size (fun _ => True) (.slice Ao113 t363.length co113) t363) := ⟨(by rw [hw]; exact (by (with_reducible repeat (first | apply Kd.R_alloc | apply Kd.R_drewN | apply Kd.R_drew)); exact Kd.R_mono (Kd.R_far (p := ⟨gb367, 2, none⟩) (Kd.R_far (p := ⟨gb367, 1, none⟩) (Kd.R_far (p := ⟨gb367, 0, none⟩) (Kd.R_types HO365.out BK367.out (by decide)) (fun _ hk => hk.2) (.string t361)) (fun _ hk => hk.2) (.bool t362)) (fun _ hk => hk.2) (.slice Ao113 t363.length co113)) (fun _ hk => trivial)))⟩; have n3_ : Aside0 (w114.heap[gb323]? = some (.cells #[.slice Ao107 x324000_27.length co107] 26 (0, 0))) := ⟨(by rw [hw]; exact (by (with_reducible repeat (first | refine blk_drewN ?_ _ | refine blk_drew ?_ | refine blk_alloc ?_ _)); refine blk_far ?_ NB323_367.out _; refine blk_far ?_ NB323_367.out _; (with_reducible repeat (first | refine blk_drewN ?_ _ | refine blk_drew ?_ | refine blk_alloc ?_ _)); refine blk_far ?_ NB323_367.out _; exact BK323.out))⟩; have n4_ : Aside0 (w114.heap[gb328]? = some (.cells #[.int .i64 ((rd_T31 l0 x7_2).f0), .string ((rd_T31 l0 x7_2).f1), .string ((rd_T31 l0 x7_2).f2), .slice A327_3 ((rd_T31 l0 x7_2).f3).length c327_3] 31 (0, 0))) := ⟨(by rw [hw]; exact (by (with_reducible repeat (first | refine blk_drewN ?_ _ | refine blk_drew ?_ | refine blk_alloc ?_ _)); refine blk_far ?_ NB328_367.out _; refine blk_far ?_ NB328_367.out _; (with_reducible repeat (first | refine blk_drewN ?_ _ | refine blk_drew ?_ | refine blk_alloc ?_ _)); refine blk_far ?_ NB328_367.out _; exact BK328.out))⟩; have n5_ : Aside0 (w114.heap[gb367]? = some (.cells #[.string t361, .bool t362, .slice Ao113 t363.length co113] 42 (0, 0))) := ⟨(by rw [hw]; exact (by (with_reducible repeat (first | refine blk_drewN ?_ _ | refine blk_drew ?_ | refine blk_alloc ?_ _)); refine blk_put (cs := #[.string t361, .bool t362, .slice none 0 0]) ?_ 2 _ rfl; refine blk_put (cs := #[.string t361, .bool false, .slice none 0 0]) ?_ 1 _ rfl; (with_reducible repeat (first | refine blk_drewN ?_ _ | refine blk_drew ?_ | refine blk_alloc ?_ _)); refine blk_put (cs := #[.string (⟨#[]⟩ : ByteArray), .bool false, .slice none 0 0]) ?_ 0 _ rfl; exact BK367.out))⟩; have n6_ : Aside0 (Below w.heap.size w w114) := ⟨(by rw [hw]; exact (by repeat (first | (with_reducible first | exact HB.out | apply below_alloc | apply pw_below_drewN | apply below_drew1 | refine below_set ?_ GE323.out | refine below_set ?_ GE328.out | refine below_set ?_ GE367.out) | exact HB.out)))⟩; clear hw; clear HO_6; clear HO_324000; clear HO365; clear BK323; clear BK328; clear BK367; clear HB; have HO_6 := n0_; have HO_324000 := n1_; have HO365 := n2_; have BK323 := n3_; have BK328 := n4_; have BK367 := n5_; have HB := n6_; clear n0_ n1_ n2_ n3_ n4_ n5_ n6_; obtain ⟨Ao115, co115, eo115⟩ := Kd.V_slice HO_6.out; subst eo115) | ((with_reducible refine gate_callee (f := 15) rfl ?_); refine goesL_ (some 134) rfl rfl Tryz.func15 (by kernel_rfl) rfl #[.slice Ao115 x6_27.length co115, .string a1] rfl (by (try simp only [ca_]); first | done | rfl) ?_; (with_reducible refine (tallymanref7_Find.calls kj27 (fun k_ => (some k_ ≠ (.slice Ao113 t363.length co113 : Value).ownBlock ∧ (k_ ≠ gb323 ∧ (k_ ≠ gb328 ∧ k_ ≠ gb367)))) _ _ x6_27 a1 t368 t369 t370 t373 _ ?side1 A87.out).mono ?_); (case side1 => exact HO_6.out); rintro e w116 ⟨v371, rfl, ho0, hb⟩; refine ⟨_, rfl, ?_⟩; have HO372 := xa_ (Kd.V_lower (Kd.V_mono (ok' := fun k_ => some k_ ≠ (.slice Ao113 t363.length co113 : Value).ownBlock ∧ k_ ≠ gb323 ∧ k_ ≠ gb328 ∧ k_ ≠ gb367) ho0 (fun k_ hk_ => ⟨Or.elim hk_ (fun hs_ => hs_.1) (fun hn_ => (Kd.fresh' (Kd.R_lt (xR_ HO365.out)) k_ hn_)), Or.elim hk_ (fun hs_ => hs_.2.1) (fun hn_ => (Kd.freshB (xb_ BK323.out) k_ hn_)), Or.elim hk_ (fun hs_ => hs_.2.2.1) (fun hn_ => (Kd.freshB (xb_ BK328.out) k_ hn_)), Or.elim hk_ (fun hs_ => hs_.2.2.2) (fun hn_ => (Kd.freshB (xb_ BK367.out) k_ hn_))⟩)) (below_size (xw_ HB.out))); replace HO_6 := xa_ (Kd.V_below (xV_ HO_6.out) hb); replace HO_324000 := xa_ (Kd.V_below (xV_ HO_324000.out) hb); replace HO365 := xa_ (Kd.R_below (xR_ HO365.out) hb); replace BK323 := xa_ (blk_below (xb_ BK323.out) hb); replace BK328 := xa_ (blk_below (xb_ BK328.out) hb); replace BK367 := xa_ (blk_below (xb_ BK367.out) hb); replace HB := xa_ (below_step (xw_ HB.out) hb); (try clear hb); (try clear hb2); (try clear hk); (try clear hi); (try clear ho0)) | ((with_reducible refine gate_dst (N := 13) rfl ?_); (try (refine gate_guard (by rfl) ?_; dsimp only)); refine box_event ?hg (N := 13) ?hd (cs := #[.string (⟨#[]⟩ : ByteArray), .bool false, .slice none 0 0]) (t := 45) ?hr ?_; (case hd => rfl); (case hg => rfl); (case hr => first | (go_simp; done) | (go_simp; rfl)); intro gb374 hg w117 hbox hb; have BK374 := xa_ (hbox); have GW374 := xa_ ((by rw [hg]; exact (below_size (xw_ HB.out)) : w.heap.size ≤ gb374)); have GE374 := xa_ ((by rw [hg]; exact (below_size (xw_ HB.out)) : w.heap.size ≤ gb374)); have NB323_374 := xa_ ((by rw [hg]; exact Nat.ne_of_lt (blk_lt (xb_ BK323.out)) : gb323 ≠ gb374)); have NB374_323 := xa_ ((by rw [hg]; exact Nat.ne_of_gt (blk_lt (xb_ BK323.out)) : gb374 ≠ gb323)); have NB328_374 := xa_ ((by rw [hg]; exact Nat.ne_of_lt (blk_lt (xb_ BK328.out)) : gb328 ≠ gb374)); have NB374_328 := xa_ ((by rw [hg]; exact Nat.ne_of_gt (blk_lt (xb_ BK328.out)) : gb374 ≠ gb328)); have NB367_374 := xa_ ((by rw [hg]; exact Nat.ne_of_lt (blk_lt (xb_ BK367.out)) : gb367 ≠ gb374)); have NB374_367 := xa_ ((by rw [hg]; exact Nat.ne_of_gt (blk_lt (xb_ BK367.out)) : gb374 ≠ gb367)); replace HO_6 := xa_ (Kd.V_below (Kd.V_elderB (xV_ HO_6.out) gb374 (Nat.le_of_eq hg.symm)) hb); replace HO_324000 := xa_ (Kd.V_below (Kd.V_elderB (xV_ HO_324000.out) gb374 (Nat.le_of_eq hg.symm)) hb); replace HO365 := xa_ (Kd.R_below (xR_ HO365.out) hb); replace HO372 := xa_ (Kd.V_below (Kd.V_elderB (xV_ HO372.out) gb374 (Nat.le_of_eq hg.symm)) hb); replace BK323 := xa_ (blk_below (xb_ BK323.out) hb); replace BK328 := xa_ (blk_below (xb_ BK328.out) hb); replace BK367 := xa_ (blk_below (xb_ BK367.out) hb); replace HB := xa_ (below_step (xw_ HB.out) hb); clear hb hbox hg; have hnb118 := NB374_323.out; have hnc118 := NB323_374.out; have hnb119 := NB374_328.out; have hnc119 := NB328_374.out; have hnb120 := NB374_367.out; have hnc120 := NB367_374.out; have hcz121_0 : w117.cell? ⟨gb374, 0, none⟩ = some (.string (⟨#[]⟩ : ByteArray)) := (blk_cell BK374.out 0).trans rfl; have hcz121_1 : w117.cell? ⟨gb374, 1, none⟩ = some (.bool false) := (blk_cell BK374.out 1).trans rfl; have hcz121_2 : w117.cell? ⟨gb374, 2, none⟩ = some (.slice none 0 0) := (blk_cell BK374.out 2).trans rfl; have hfz121_0 := blk_frozen BK374.out 0; have hfz121_1 := blk_frozen BK374.out 1; have hfz121_2 := blk_frozen BK374.out 2; obtain ⟨Ao122, co122, eo122⟩ := Kd.V_slice HO372.out; subst eo122) | ((with_reducible refine gate_store (t := 45) (p := 13) rfl ?_); refine store_event (t := 45) (p := 13) (v := ?vo_w123) (w1 := (((w117.setCell ⟨gb374, 0, none⟩ (.string t368)).setCell ⟨gb374, 1, none⟩ (.bool t369)).setCell ⟨gb374, 2, none⟩ (.slice Ao122 t370.length co122))) ?hg ?ho ?hn ?hr ?_; (case ho => rfl); (case hg => rfl); (case hn => rfl); (case hr => first | (go_simp; done) | (go_simp; rfl)); intro w123 hw; have n0_ : Aside0 (Kd.V k45 45 w123 w.heap.size (fun k_ => some k_ ≠ (.slice Ao113 t363.length co113 : Value).ownBlock ∧ k_ ≠ gb323 ∧ k_ ≠ gb328 ∧ k_ ≠ gb367 ∧ k_ ≠ gb374) (.slice Ao115 x6_27.length co115) x6_27) := ⟨(by rw [hw]; exact (by (with_reducible repeat (first | apply Kd.V_alloc | apply Kd.V_drewN | apply Kd.V_drew)); exact Kd.V_mono (vf_ (vf_ (vf_ (Kd.V_mono HO_6.out (fun k_ hk => (⟨hk, hk.2⟩ : _ ∧ k_ ≠ gb374)))))) (fun _ hk => ⟨hk.1.1.1, ⟨hk.1.1.2.1, ⟨hk.1.1.2.2.1, ⟨hk.1.1.2.2.2, hk.1.2⟩⟩⟩⟩)))⟩; have n1_ : Aside0 (Kd.V k42 42 w123 w.heap.size (fun k_ => some k_ ≠ (.slice Ao113 t363.length co113 : Value).ownBlock ∧ k_ ≠ gb323 ∧ k_ ≠ gb328 ∧ k_ ≠ gb367 ∧ k_ ≠ gb374) (.slice Ao107 x324000_27.length co107) x324000_27) := ⟨(by rw [hw]; exact (by (with_reducible repeat (first | apply Kd.V_alloc | apply Kd.V_drewN | apply Kd.V_drew)); exact Kd.V_mono (vf_ (vf_ (vf_ (Kd.V_mono HO_324000.out (fun k_ hk => (⟨hk, hk.2⟩ : _ ∧ k_ ≠ gb374)))))) (fun _ hk => ⟨hk.1.1.1, ⟨hk.1.1.2.1, ⟨hk.1.1.2.2.1, ⟨hk.1.1.2.2.2, hk.1.2⟩⟩⟩⟩)))⟩; have n2_ : Aside0 (Kd.R (Kd.int .u8) 5 w123 w.heap.size (fun _ => True) (.slice Ao113 t363.length co113) t363) := ⟨(by rw [hw]; exact (by (with_reducible repeat (first | apply Kd.R_alloc | apply Kd.R_drewN | apply Kd.R_drew)); exact Kd.R_mono (Kd.R_far (p := ⟨gb374, 2, none⟩) (Kd.R_far (p := ⟨gb374, 1, none⟩) (Kd.R_far (p := ⟨gb374, 0, none⟩) (Kd.R_types HO365.out BK374.out (by decide)) (fun _ hk => hk.2) (.string t368)) (fun _ hk => hk.2) (.bool t369)) (fun _ hk => hk.2) (.slice Ao122 t370.length co122)) (fun _ hk => trivial)))⟩; have n3_ : Aside0 (Kd.V (Kd.int .u8) 5 w123 w.heap.size (fun k_ => some k_ ≠ (.slice Ao113 t363.length co113 : Value).ownBlock ∧ k_ ≠ gb323 ∧ k_ ≠ gb328 ∧ k_ ≠ gb367 ∧ k_ ≠ gb374) (.slice Ao122 t370.length co122) t370) := ⟨(by rw [hw]; exact (by (with_reducible repeat (first | apply Kd.V_alloc | apply Kd.V_drewN | apply Kd.V_drew)); exact Kd.V_mono (vf_ (vf_ (vf_ (Kd.V_mono HO372.out (fun k_ hk => (⟨hk, hk.2⟩ : _ ∧ k_ ≠ gb374)))))) (fun _ hk => ⟨hk.1.1.1, ⟨hk.1.1.2.1, ⟨hk.1.1.2.2.1, ⟨hk.1.1.2.2.2, hk.1.2⟩⟩⟩⟩)))⟩; have n4_ : Aside0 (w123.heap[gb323]? = some (.cells #[.slice Ao107 x324000_27.length co107] 26 (0, 0))) := ⟨(by rw [hw]; exact (by (with_reducible repeat (first | refine blk_drewN ?_ _ | refine blk_drew ?_ | refine blk_alloc ?_ _)); refine blk_far ?_ NB323_374.out _; refine blk_far ?_ NB323_374.out _; (with_reducible repeat (first | refine blk_drewN ?_ _ | refine blk_drew ?_ | refine blk_alloc ?_ _)); refine blk_far ?_ NB323_374.out _; exact BK323.out))⟩; have n5_ : Aside0 (w123.heap[gb328]? = some (.cells #[.int .i64 ((rd_T31 l0 x7_2).f0), .string ((rd_T31 l0 x7_2).f1), .string ((rd_T31 l0 x7_2).f2), .slice A327_3 ((rd_T31 l0 x7_2).f3).length c327_3] 31 (0, 0))) := ⟨(by rw [hw]; exact (by (with_reducible repeat (first | refine blk_drewN ?_ _ | refine blk_drew ?_ | refine blk_alloc ?_ _)); refine blk_far ?_ NB328_374.out _; refine blk_far ?_ NB328_374.out _; (with_reducible repeat (first | refine blk_drewN ?_ _ | refine blk_drew ?_ | refine blk_alloc ?_ _)); refine blk_far ?_ NB328_374.out _; exact BK328.out))⟩; have n6_ : Aside0 (w123.heap[gb367]? = some (.cells #[.string t361, .bool t362, .slice Ao113 t363.length co113] 42 (0, 0))) := ⟨(by rw [hw]; exact (by (with_reducible repeat (first | refine blk_drewN ?_ _ | refine blk_drew ?_ | refine blk_alloc ?_ _)); refine blk_far ?_ NB367_374.out _; refine blk_far ?_ NB367_374.out _; (with_reducible repeat (first | refine blk_drewN ?_ _ | refine blk_drew ?_ | refine blk_alloc ?_ _)); refine blk_far ?_ NB367_374.out _; exact BK367.out))⟩; have n7_ : Aside0 (w123.heap[gb374]? = some (.cells #[.string t368, .bool t369, .slice Ao122 t370.length co122] 45 (0, 0))) := ⟨(by rw [hw]; exact (by (with_reducible repeat (first | refine blk_drewN ?_ _ | refine blk_drew ?_ | refine blk_alloc ?_ _)); refine blk_put (cs := #[.string t368, .bool t369, .slice none 0 0]) ?_ 2 _ rfl; refine blk_put (cs := #[.string t368, .bool false, .slice none 0 0]) ?_ 1 _ rfl; (with_reducible repeat (first | refine blk_drewN ?_ _ | refine blk_drew ?_ | refine blk_alloc ?_ _)); refine blk_put (cs := #[.string (⟨#[]⟩ : ByteArray), .bool false, .slice none 0 0]) ?_ 0 _ rfl; exact BK374.out))⟩; have n8_ : Aside0 (Below w.heap.size w w123) := ⟨(by rw [hw]; exact (by repeat (first | (with_reducible first | exact HB.out | apply below_alloc | apply pw_below_drewN | apply below_drew1 | refine below_set ?_ GE323.out | refine below_set ?_ GE328.out | refine below_set ?_ GE367.out | refine below_set ?_ GE374.out) | exact HB.out)))⟩; clear hw; clear HO_6; clear HO_324000; clear HO365; clear HO372; clear BK323; clear BK328; clear BK367; clear BK374; clear HB; have HO_6 := n0_; have HO_324000 := n1_; have HO365 := n2_; have HO372 := n3_; have BK323 := n4_; have BK328 := n5_; have BK367 := n6_; have BK374 := n7_; have HB := n8_; clear n0_ n1_ n2_ n3_ n4_ n5_ n6_ n7_ n8_; have hcz124_0 : w123.cell? ⟨gb323, 0, none⟩ = some (.slice Ao107 x324000_27.length co107) := (blk_cell BK323.out 0).trans rfl; have hfz124_0 := blk_frozen BK323.out 0) | (go_at_call 17; (with_reducible refine (tallymanlaw8_own.calls kj27 (fun k_ => (some k_ ≠ (.slice Ao113 t363.length co113 : Value).ownBlock ∧ (k_ ≠ gb323 ∧ (k_ ≠ gb328 ∧ (k_ ≠ gb367 ∧ k_ ≠ gb374))))) _ _ x324000_27 t375 _ ?side1 A89.out).mono ?_); (case side1 => exact HO_324000.out); rintro e w125 ⟨v376, rfl, ho0, hb⟩; have HO377 := xa_ (Kd.N_lower (Kd.N_mono (ok' := fun k_ => some k_ ≠ (.slice Ao113 t363.length co113 : Value).ownBlock ∧ k_ ≠ gb323 ∧ k_ ≠ gb328 ∧ k_ ≠ gb367 ∧ k_ ≠ gb374) ho0 (fun k_ hk_ => ⟨Or.elim hk_ (fun hs_ => hs_.1) (fun hn_ => (Kd.fresh' (Kd.R_lt (xR_ HO365.out)) k_ hn_)), Or.elim hk_ (fun hs_ => hs_.2.1) (fun hn_ => (Kd.freshB (xb_ BK323.out) k_ hn_)), Or.elim hk_ (fun hs_ => hs_.2.2.1) (fun hn_ => (Kd.freshB (xb_ BK328.out) k_ hn_)), Or.elim hk_ (fun hs_ => hs_.2.2.2.1) (fun hn_ => (Kd.freshB (xb_ BK367.out) k_ hn_)), Or.elim hk_ (fun hs_ => hs_.2.2.2.2) (fun hn_ => (Kd.freshB (xb_ BK374.out) k_ hn_))⟩)) (below_size (by repeat (first | (with_reducible first | exact HB.out | apply below_alloc | apply pw_below_drewN | apply below_drew1 | refine below_set ?_ GE323.out | refine below_set ?_ GE328.out | refine below_set ?_ GE367.out | refine below_set ?_ GE374.out) | exact HB.out)))); replace HO_6 := xa_ (Kd.V_elder' (xV_ HO_6.out) (Kd.N_base ho0) hb); replace HO_324000 := xa_ (Kd.V_elder' (xV_ HO_324000.out) (Kd.N_base ho0) hb); replace HO365 := xa_ (Kd.R_below (xR_ HO365.out) hb); replace HO372 := xa_ (Kd.V_elder' (xV_ HO372.out) (Kd.N_base ho0) hb); replace BK323 := xa_ (blk_below (xb_ BK323.out) hb); replace BK328 := xa_ (blk_below (xb_ BK328.out) hb); replace BK367 := xa_ (blk_below (xb_ BK367.out) hb); replace BK374 := xa_ (blk_below (xb_ BK374.out) hb); replace HB := xa_ (below_step (by repeat (first | (with_reducible first | exact HB.out | apply below_alloc | apply pw_below_drewN | apply below_drew1 | refine below_set ?_ GE323.out | refine below_set ?_ GE328.out | refine below_set ?_ GE367.out | refine below_set ?_ GE374.out) | exact HB.out)) hb); (try clear hb); (try clear hb2); (try clear hk); (try clear hi); (try clear ho0); obtain ⟨Ao126, co126, eo126⟩ := Kd.N_slice HO377.out; subst eo126) | (go_at_call 16; (with_reducible refine (tallymanref7_Alike.calls kj27 _ _ t375 _ _ x6_27 true _ ?side1 ?side2 ?side3 ?side4 A90.out).mono ?_); (case side1 => exact xC_ (Kd.N_reads' HO377.out).2.2); (case side2 => exact (Kd.N_reads' HO377.out).2.1); (case side3 => exact xC_ (Kd.V_reads' HO_6.out).2.2); (case side4 => exact (Kd.V_reads' HO_6.out).2.1); rintro e w' ⟨rfl, ⟨nd, rfl⟩⟩; have hcz127_0 : w125.cell? ⟨gb323, 0, none⟩ = some (.slice Ao107 x324000_27.length co107) := (blk_cell BK323.out 0).trans rfl; have hfz127_0 := blk_frozen BK323.out 0) | (go_at_call 18; (with_reducible refine (tree_Good.calls _ _ x324000_27 true _ ?side1 ?side2 A92.out).mono ?_); (case side1 => exact xC_ (Kd.V_reads' HO_324000.out).2.2); (case side2 => exact (Kd.V_reads' HO_324000.out).2.1); rintro e w128 ⟨rfl, hb⟩; replace HO_6 := xa_ (Kd.V_below (xV_ HO_6.out) hb); replace HO_324000 := xa_ (Kd.V_below (xV_ HO_324000.out) hb); replace HO365 := xa_ (Kd.R_below (xR_ HO365.out) hb); replace HO372 := xa_ (Kd.V_below (xV_ HO372.out) hb); replace HO377 := xa_ (Kd.N_below (xN_ HO377.out) hb); replace BK323 := xa_ (blk_below (xb_ BK323.out) hb); replace BK328 := xa_ (blk_below (xb_ BK328.out) hb); replace BK367 := xa_ (blk_below (xb_ BK367.out) hb); replace BK374 := xa_ (blk_below (xb_ BK374.out) hb); replace HB := xa_ (below_step (by repeat (first | (with_reducible first | exact HB.out | apply below_alloc | apply pw_below_drewN | apply below_drew1 | refine below_set ?_ GE323.out | refine below_set ?_ GE328.out | refine below_set ?_ GE367.out | refine below_set ?_ GE374.out) | exact HB.out)) hb); (try clear hb); (try clear hb2); (try clear hk); (try clear hi); have hcz129_0 : w128.cell? ⟨gb367, 0, none⟩ = some (.string t361) := (blk_cell BK367.out 0).trans rfl; have hcz129_1 : w128.cell? ⟨gb367, 1, none⟩ = some (.bool t362) := (blk_cell BK367.out 1).trans rfl; have hcz129_2 : w128.cell? ⟨gb367, 2, none⟩ = some (.slice Ao113 t363.length co113) := (blk_cell BK367.out 2).trans rfl; have hfz129_0 := blk_frozen BK367.out 0; have hfz129_1 := blk_frozen BK367.out 1; have hfz129_2 := blk_frozen BK367.out 2; have hcz130_0 : w128.cell? ⟨gb374, 0, none⟩ = some (.string t368) := (blk_cell BK374.out 0).trans rfl; have hcz130_1 : w128.cell? ⟨gb374, 1, none⟩ = some (.bool t369) := (blk_cell BK374.out 1).trans rfl; have hcz130_2 : w128.cell? ⟨gb374, 2, none⟩ = some (.slice Ao122 t370.length co122) := (blk_cell BK374.out 2).trans rfl; have hfz130_0 := blk_frozen BK374.out 0; have hfz130_1 := blk_frozen BK374.out 1; have hfz130_2 := blk_frozen BK374.out 2; have hcv131 := own_string (P := Tryz.prog) Tryz.underlying29 Tryz.underlying5 Tryz.underlying9 (Kd.own_of_R HO365.out); have hcv132 := fun n_ : Nat => own_string (P := Tryz.prog) Tryz.underlying29 Tryz.underlying5 Tryz.underlying9 (Kd.own_of_R (Kd.R_drewN HO365.out n_)); have hcv133 := Kd.C_string (P := Tryz.prog) (A := Ao122) (c := co122) Tryz.underlying29 Tryz.underlying5 Tryz.underlying9 (Kd.V_reads' HO372.out).2.2; have hcv134 := fun n_ : Nat => Kd.C_string (P := Tryz.prog) (A := Ao122) (c := co122) Tryz.underlying29 Tryz.underlying5 Tryz.underlying9 (Kd.C_drewN (Kd.V_reads' HO372.out).2.2 n_); have hcz135_0 : w128.cell? ⟨gb323, 0, none⟩ = some (.slice Ao107 x324000_27.length co107) := (blk_cell BK323.out 0).trans rfl; have hfz135_0 := blk_frozen BK323.out 0) | (go_at_call 20; (with_reducible refine (tree_Kids.calls kj27 _ _ x324000_27 a1 t380 _ ?side1 ?side2 A98.out).mono ?_); (case side1 => exact xC_ (Kd.V_reads' HO_324000.out).2.2); (case side2 => exact (Kd.V_reads' HO_324000.out).2.1); rintro e w136 ⟨v381, rfl, ho0, hb⟩; replace HO_6 := xa_ (Kd.V_elder' (xV_ HO_6.out) (Kd.R_base ho0) hb); replace HO_324000 := xa_ (Kd.V_elder' (xV_ HO_324000.out) (Kd.R_base ho0) hb); replace HO365 := xa_ (Kd.R_below (xR_ HO365.out) hb); replace HO372 := xa_ (Kd.V_elder' (xV_ HO372.out) (Kd.R_base ho0) hb); replace HO377 := xa_ (Kd.N_elder' (xN_ HO377.out) (Kd.R_base ho0) hb); replace HO382 := xa_ (Kd.R_lower ho0 (below_size (by repeat (first | (with_reducible first | exact HB.out | apply below_alloc | apply pw_below_drewN | apply below_drew1 | refine below_set ?_ GE323.out | refine below_set ?_ GE328.out | refine below_set ?_ GE367.out | refine below_set ?_ GE374.out) | exact HB.out)))); replace BK323 := xa_ (blk_below (xb_ BK323.out) hb); replace BK328 := xa_ (blk_below (xb_ BK328.out) hb); replace BK367 := xa_ (blk_below (xb_ BK367.out) hb); replace BK374 := xa_ (blk_below (xb_ BK374.out) hb); replace HB := xa_ (below_step (by repeat (first | (with_reducible first | exact HB.out | apply below_alloc | apply pw_below_drewN | apply below_drew1 | refine below_set ?_ GE323.out | refine below_set ?_ GE328.out | refine below_set ?_ GE367.out | refine below_set ?_ GE374.out) | exact HB.out)) hb); (try clear hb); (try clear hb2); (try clear hk); (try clear hi); (try clear ho0)) | (go_at_call 21; (with_reducible refine (tallymanref7_Kids.calls kj27 _ _ x6_27 a1 t383 _ ?side1 ?side2 A99.out).mono ?_); (case side1 => exact xC_ (Kd.V_reads' HO_6.out).2.2); (case side2 => exact (Kd.V_reads' HO_6.out).2.1); rintro e w137 ⟨v384, rfl, ho0, hb⟩; have HO385 := xa_ (Kd.R_lower (Kd.R_new' ho0 (Kd.R_lt (xR_ HO382.out))) (below_size (by repeat (first | (with_reducible first | exact HB.out | apply below_alloc | apply pw_below_drewN | apply below_drew1 | refine below_set ?_ GE323.out | refine below_set ?_ GE328.out | refine below_set ?_ GE367.out | refine below_set ?_ GE374.out) | exact HB.out)))); replace HO_6 := xa_ (Kd.V_elder' (xV_ HO_6.out) (Kd.R_base ho0) hb); replace HO_324000 := xa_ (Kd.V_elder' (xV_ HO_324000.out) (Kd.R_base ho0) hb); replace HO365 := xa_ (Kd.R_below (xR_ HO365.out) hb); replace HO372 := xa_ (Kd.V_elder' (xV_ HO372.out) (Kd.R_base ho0) hb); replace HO377 := xa_ (Kd.N_elder' (xN_ HO377.out) (Kd.R_base ho0) hb); replace HO382 := xa_ (Kd.R_elder' (xR_ HO382.out) (Kd.R_base ho0) hb); replace BK323 := xa_ (blk_below (xb_ BK323.out) hb); replace BK328 := xa_ (blk_below (xb_ BK328.out) hb); replace BK367 := xa_ (blk_below (xb_ BK367.out) hb); replace BK374 := xa_ (blk_below (xb_ BK374.out) hb); replace HB := xa_ (below_step (by repeat (first | (with_reducible first | exact HB.out | apply below_alloc | apply pw_below_drewN | apply below_drew1 | refine below_set ?_ GE323.out | refine below_set ?_ GE328.out | refine below_set ?_ GE367.out | refine below_set ?_ GE374.out) | exact HB.out)) hb); (try clear hb); (try clear hb2); (try clear hk); (try clear hi); (try clear ho0); obtain ⟨Ao138, co138, eo138⟩ := Kd.R_slice HO382.out; subst eo138; obtain ⟨Ao139, co139, eo139⟩ := Kd.R_slice HO385.out; subst eo139) | (go_at_call 19; (with_reducible refine (tallymanlaw8_texts.calls kj27 _ _ t380 _ _ t383 true _ ?side1 ?side2 ?side3 ?side4 A100.out).mono ?_); (case side1 => exact xC_ (Kd.R_reads' HO382.out).2.2); (case side2 => exact (Kd.R_reads' HO382.out).2.1); (case side3 => exact xC_ (Kd.R_reads' HO385.out).2.2); (case side4 => exact (Kd.R_reads' HO385.out).2.1); rintro e w' ⟨rfl, ⟨nd, rfl⟩⟩; have hcz140_0 : w137.cell? ⟨gb323, 0, none⟩ = some (.slice Ao107 x324000_27.length co107) := (blk_cell BK323.out 0).trans rfl; have hfz140_0 := blk_frozen BK323.out 0) | (go_at_call 22; (with_reducible refine (tree_Bytes.calls kj27 _ _ x324000_27 t387 _ ?side1 ?side2 A102.out).mono ?_); (case side1 => exact xC_ (Kd.V_reads' HO_324000.out).2.2); (case side2 => exact (Kd.V_reads' HO_324000.out).2.1); rintro e w141 ⟨rfl, hb⟩; replace HO_6 := xa_ (Kd.V_below (xV_ HO_6.out) hb); replace HO_324000 := xa_ (Kd.V_below (xV_ HO_324000.out) hb); replace HO365 := xa_ (Kd.R_below (xR_ HO365.out) hb); replace HO372 := xa_ (Kd.V_below (xV_ HO372.out) hb); replace HO377 := xa_ (Kd.N_below (xN_ HO377.out) hb); replace HO382 := xa_ (Kd.R_below (xR_ HO382.out) hb); replace HO385 := xa_ (Kd.R_below (xR_ HO385.out) hb); replace BK323 := xa_ (blk_below (xb_ BK323.out) hb); replace BK328 := xa_ (blk_below (xb_ BK328.out) hb); replace BK367 := xa_ (blk_below (xb_ BK367.out) hb); replace BK374 := xa_ (blk_below (xb_ BK374.out) hb); replace HB := xa_ (below_step (by repeat (first | (with_reducible first | exact HB.out | apply below_alloc | apply pw_below_drewN | apply below_drew1 | refine below_set ?_ GE323.out | refine below_set ?_ GE328.out | refine below_set ?_ GE367.out | refine below_set ?_ GE374.out) | exact HB.out)) hb); (try clear hb); (try clear hb2); (try clear hk); (try clear hi)) | (go_at_call 23; (with_reducible refine (tallymanref7_Bytes.calls kj27 _ _ x6_27 t388 _ ?side1 ?side2 A103.out).mono ?_); (case side1 => exact xC_ (Kd.V_reads' HO_6.out).2.2); (case side2 => exact (Kd.V_reads' HO_6.out).2.1); rintro e w' ⟨rfl, ⟨nd, rfl⟩⟩))
                       go_roundg kj27
                       case measure => have := HJ4.out; have := HK2.out; have := HJ14.out; have := HJ27.out; omega
                       case rel => exact ⟨(x6_27), (wrap64 (x7_2 + 1)), (x324000_27), (.slice Ao107 x324000_27.length co107), (by first | rfl | (simp; done) | (simp [*]; done)), H', ⟨by have := HJ4.out; have := HK2.out; have := HJ14.out; have := HJ27.out; omega⟩, ⟨by (with_reducible repeat (first | apply Kd.V_alloc | apply Kd.V_drewN | apply Kd.V_drew)); exact Kd.V_mono HO_6.out (fun _ hk => hk.1.1.1.2.1)⟩, ⟨by (with_reducible repeat (first | apply Kd.V_alloc | apply Kd.V_drewN | apply Kd.V_drew)); exact Kd.V_mono HO_324000.out (fun _ hk => hk.1.1.1.2.1)⟩, ⟨by (with_reducible repeat (first | refine blk_drewN ?_ _ | refine blk_drew ?_ | refine blk_alloc ?_ _)); exact BK323.out⟩, ⟨by repeat (first | (with_reducible first | exact HB.out | apply below_alloc | apply pw_below_drewN | apply below_drew1 | refine below_set ?_ GE323.out | refine below_set ?_ GE328.out | refine below_set ?_ GE367.out | refine below_set ?_ GE374.out) | exact HB.out)⟩⟩
                      ·rw [if_neg c104] at H
                       have c104b0 : (t387 == t388) = false := beq_eq_false_iff_ne.mpr c104
                       have c104b1 : (t387 != t388) = true := bne_iff_ne.mpr c104
                       exact absurd ((Option.some.inj H).trans HT_.out) (by decide)
                     ·replace c101 := Bool.eq_false_iff.mpr c101
                      subst c101
                      have H1 : (some false) = some r := by rw [if_neg (show ¬ (false = true) by decide)] at H; exact H
                      clear H
                      have H := H1
                      clear H1
                      exact absurd ((Option.some.inj H).trans HT_.out) (by decide)
                    ·rw [if_neg c97] at H
                     have c97b0 : ((strOfNums t363).toList == (strOfNums t370).toList) = false := beq_eq_false_iff_ne.mpr c97
                     have c97b1 : ((strOfNums t363).toList != (strOfNums t370).toList) = true := bne_iff_ne.mpr c97
                     exact absurd ((Option.some.inj H).trans HT_.out) (by decide)
                  ·rw [if_neg c95] at H
                   have c95b0 : (t361.toList == t368.toList) = false := beq_eq_false_iff_ne.mpr c95
                   have c95b1 : (t361.toList != t368.toList) = true := bne_iff_ne.mpr c95
                   exact absurd ((Option.some.inj H).trans HT_.out) (by decide)
                 ·rw [if_neg c94] at H
                  have c94b0 : (t366 == t373) = false := beq_eq_false_iff_ne.mpr c94
                  have c94b1 : (t366 != t373) = true := bne_iff_ne.mpr c94
                  exact absurd ((Option.some.inj H).trans HT_.out) (by decide)
                ·replace c93 := Bool.eq_false_iff.mpr c93
                 subst c93
                 have H1 : (some false) = some r := by rw [if_neg (show ¬ (false = true) by decide)] at H; exact H
                 clear H
                 have H := H1
                 clear H1
                 exact absurd ((Option.some.inj H).trans HT_.out) (by decide)
               ·replace c91 := Bool.eq_false_iff.mpr c91
                subst c91
                have H1 : (some false) = some r := by rw [if_neg (show ¬ (false = true) by decide)] at H; exact H
                clear H
                have H := H1
                clear H1
                exact absurd ((Option.some.inj H).trans HT_.out) (by decide)
              ·rw [if_neg c88] at H
               have c88b0 : (x9_27 == x10_27) = false := beq_eq_false_iff_ne.mpr c88
               have c88b1 : (x9_27 != x10_27) = true := bne_iff_ne.mpr c88
               exact absurd ((Option.some.inj H).trans HT_.out) (by decide)
        ·rw [if_neg c14] at H
         exact absurd H (by simp)
       ·rw [if_neg c13] at H
        have c13b0 : decide (x7_2 < (l0.length : Int)) = false := decide_eq_false c13
        clear c13
        replace H := Option.bind_eq_some_iff.mp H
        obtain ⟨t389, A1420, H⟩ := H
        replace H : ((tallymanlaw8_own.f k2 t389).bind fun t392 => ((tallymanref7_Clean.f k2 x6_2).bind fun t395 => ((tallymanref7_Alike.f k2 t392 t395).bind fun t398 => (if t398 = true then ((tree_Same.f x324000_2 x324000_2).bind fun t399 => (some t399)) else (some false))))) = some r := H
        have A142 := Aside0.mk A1420
        clear A1420
        replace H := Option.bind_eq_some_iff.mp H
        obtain ⟨t392, A1430, H⟩ := H
        replace H : ((tallymanref7_Clean.f k2 x6_2).bind fun t395 => ((tallymanref7_Alike.f k2 t392 t395).bind fun t398 => (if t398 = true then ((tree_Same.f x324000_2 x324000_2).bind fun t399 => (some t399)) else (some false)))) = some r := H
        have A143 := Aside0.mk A1430
        clear A1430
        replace H := Option.bind_eq_some_iff.mp H
        obtain ⟨t395, A1440, H⟩ := H
        replace H : ((tallymanref7_Alike.f k2 t392 t395).bind fun t398 => (if t398 = true then ((tree_Same.f x324000_2 x324000_2).bind fun t399 => (some t399)) else (some false))) = some r := H
        have A144 := Aside0.mk A1440
        clear A1440
        replace H := Option.bind_eq_some_iff.mp H
        obtain ⟨t398, A1450, H⟩ := H
        replace H : (if t398 = true then ((tree_Same.f x324000_2 x324000_2).bind fun t399 => (some t399)) else (some false)) = some r := H
        have A145 := Aside0.mk A1450
        clear A1450
        by_cases c146 : t398 = true
        ·subst c146
         have H1 : ((tree_Same.f x324000_2 x324000_2).bind fun t399 => (some t399)) = some r := by rw [if_pos rfl] at H; exact H
         clear H
         have H := H1
         clear H1
         replace H := Option.bind_eq_some_iff.mp H
         obtain ⟨t399, A1470, H⟩ := H
         replace H : (some t399) = some r := H
         have A147 := Aside0.mk A1470
         clear A1470
         obtain rfl := Option.some.inj H
         have hcz148_0 : wr.cell? ⟨gb323, 0, none⟩ = some (u324000) := (blk_cell BK323.out 0).trans rfl
         have hfz148_0 := blk_frozen BK323.out 0
         obtain ⟨Ao149, co149, eo149⟩ := Kd.V_slice HO_324000.out
         subst eo149
         go_wp2_with (first | ((with_reducible refine gate_callee (f := 24) rfl ?_); refine goesL_ (some 198) rfl rfl Tryz.func24 (by kernel_rfl) rfl #[.agg #[.slice Ao149 x324000_2.length co149]] rfl (by (try simp only [ca_]); first | done | rfl) ?_; (with_reducible refine (tree_Clean.calls (fun k_ => k_ ≠ gb323) _ _ x324000_2 t389 _ ?side1 A142.out).mono ?_); (case side1 => exact HO_324000.out); rintro e w150 ⟨v390, rfl, ho0, hb⟩; refine ⟨_, rfl, ?_⟩; replace HO_6 := xa_ (Kd.V_below (xV_ HO_6.out) hb); replace HO_324000 := xa_ (Kd.V_below (xV_ HO_324000.out) hb); replace HO391 := xa_ (Kd.V_lower (Kd.V_mono (ok' := fun k_ => k_ ≠ gb323) ho0 (fun k_ hk_ => Or.elim hk_ (fun hs_ => hs_) (fun hn_ => (Kd.freshB (xb_ BK323.out) k_ hn_)))) (below_size (xw_ HB.out))); replace BK323 := xa_ (blk_below (xb_ BK323.out) hb); replace HB := xa_ (below_step (xw_ HB.out) hb); (try clear hb); (try clear hb2); (try clear hk); (try clear hi); (try clear ho0); obtain ⟨Ao151, co151, eo151⟩ := Kd.V_slice HO391.out; subst eo151) | ((with_reducible refine gate_callee (f := 17) rfl ?_); refine goesL_ (some 199) rfl rfl Tryz.func17 (by kernel_rfl) rfl #[.agg #[.slice Ao151 t389.length co151]] rfl (by (try simp only [ca_]); first | done | rfl) ?_; (with_reducible refine (tallymanlaw8_own.calls k2 (fun k_ => k_ ≠ gb323) _ _ t389 t392 _ ?side1 A143.out).mono ?_); (case side1 => exact HO391.out); rintro e w152 ⟨v393, rfl, ho0, hb⟩; refine ⟨_, rfl, ?_⟩; replace HO_6 := xa_ (Kd.V_elder' (xV_ HO_6.out) (Kd.N_base ho0) hb); replace HO_324000 := xa_ (Kd.V_elder' (xV_ HO_324000.out) (Kd.N_base ho0) hb); replace HO391 := xa_ (Kd.V_elder' (xV_ HO391.out) (Kd.N_base ho0) hb); replace HO394 := xa_ (Kd.N_lower (Kd.N_mono (ok' := fun k_ => k_ ≠ gb323) ho0 (fun k_ hk_ => Or.elim hk_ (fun hs_ => hs_) (fun hn_ => (Kd.freshB (xb_ BK323.out) k_ hn_)))) (below_size (xw_ HB.out))); replace BK323 := xa_ (blk_below (xb_ BK323.out) hb); replace HB := xa_ (below_step (xw_ HB.out) hb); (try clear hb); (try clear hb2); (try clear hk); (try clear hi); (try clear ho0); obtain ⟨Ao153, co153, eo153⟩ := Kd.V_slice HO_6.out; subst eo153) | ((with_reducible refine gate_callee (f := 25) rfl ?_); refine goesL_ (some 201) rfl rfl Tryz.func25 (by kernel_rfl) rfl #[.slice Ao153 x6_2.length co153] rfl (by (try simp only [ca_]); first | done | rfl) ?_; (with_reducible refine (tallymanref7_Clean.calls k2 (fun k_ => (k_ ≠ gb323 ∧ some k_ ≠ (v393 : Value).ownBlock)) _ _ x6_2 t395 _ ?side1 A144.out).mono ?_); (case side1 => exact HO_6.out); rintro e w154 ⟨v396, rfl, ho0, hb⟩; refine ⟨_, rfl, ?_⟩; have HO397 := xa_ (Kd.V_lower (Kd.V_mono (ok' := fun k_ => some k_ ≠ (v393 : Value).ownBlock ∧ k_ ≠ gb323) ho0 (fun k_ hk_ => ⟨Or.elim hk_ (fun hs_ => hs_.2) (fun hn_ => (Kd.fresh' (Kd.N_lt (xN_ HO394.out)) k_ hn_)), Or.elim hk_ (fun hs_ => hs_.1) (fun hn_ => (Kd.freshB (xb_ BK323.out) k_ hn_))⟩)) (below_size (xw_ HB.out))); replace HO_6 := xa_ (Kd.V_below (xV_ HO_6.out) hb); replace HO_324000 := xa_ (Kd.V_below (xV_ HO_324000.out) hb); replace HO391 := xa_ (Kd.V_below (xV_ HO391.out) hb); replace HO394 := xa_ (Kd.N_below (xN_ HO394.out) hb); replace BK323 := xa_ (blk_below (xb_ BK323.out) hb); replace HB := xa_ (below_step (xw_ HB.out) hb); (try clear hb); (try clear hb2); (try clear hk); (try clear hi); (try clear ho0); obtain ⟨Ao155, co155, eo155⟩ := Kd.N_slice HO394.out; subst eo155; obtain ⟨Ao156, co156, eo156⟩ := Kd.V_slice HO397.out; subst eo156) | ((with_reducible refine gate_callee (f := 16) rfl ?_); refine goesL_ (some 202) rfl rfl Tryz.func16 (by kernel_rfl) rfl #[.slice Ao155 t392.length co155, .slice Ao156 t395.length co156] rfl (by (try simp only [ca_]); first | done | rfl) ?_; (with_reducible refine (tallymanref7_Alike.calls k2 _ _ t392 _ _ t395 true _ ?side1 ?side2 ?side3 ?side4 A145.out).mono ?_); (case side1 => exact xC_ (Kd.N_reads' HO394.out).2.2); (case side2 => exact (Kd.N_reads' HO394.out).2.1); (case side3 => exact xC_ (Kd.V_reads' HO397.out).2.2); (case side4 => exact (Kd.V_reads' HO397.out).2.1); rintro e w' ⟨rfl, ⟨nd, rfl⟩⟩; refine ⟨_, rfl, ?_⟩; have hcz157_0 : w154.cell? ⟨gb323, 0, none⟩ = some (.slice Ao149 x324000_2.length co149) := (blk_cell BK323.out 0).trans rfl; have hfz157_0 := blk_frozen BK323.out 0) | (go_at_call 26; (with_reducible refine (tree_Same.calls _ _ x324000_2 _ _ x324000_2 t399 _ ?side1 ?side2 ?side3 ?side4 A147.out).mono ?_); (case side1 => exact xC_ (Kd.V_reads' HO_324000.out).2.2); (case side2 => exact (Kd.V_reads' HO_324000.out).2.1); (case side3 => exact xC_ (Kd.V_reads' HO_324000.out).2.2); (case side4 => exact (Kd.V_reads' HO_324000.out).2.1); rintro e w158 ⟨rfl, hb⟩; replace HO_6 := xa_ (Kd.V_below (xV_ HO_6.out) hb); replace HO_324000 := xa_ (Kd.V_below (xV_ HO_324000.out) hb); replace HO391 := xa_ (Kd.V_below (xV_ HO391.out) hb); replace HO394 := xa_ (Kd.N_below (xN_ HO394.out) hb); replace HO397 := xa_ (Kd.V_below (xV_ HO397.out) hb); replace BK323 := xa_ (blk_below (xb_ BK323.out) hb); replace HB := xa_ (below_step (xw_ HB.out) hb); (try clear hb); (try clear hb2); (try clear hk); (try clear hi)))
         go_ret
         exact ⟨by first | rfl | (simp [*, errW_none, errW_some] <;> rfl), by repeat (first | (with_reducible first | exact HB.out | apply below_alloc | apply pw_below_drewN | apply below_drew1 | refine below_set ?_ GE323.out) | exact HB.out)⟩
        ·replace c146 := Bool.eq_false_iff.mpr c146
         subst c146
         have H1 : (some false) = some r := by rw [if_neg (show ¬ (false = true) by decide)] at H; exact H
         clear H
         have H := H1
         clear H1
         exact absurd ((Option.some.inj H).trans HT_.out) (by decide)
 ·replace c4 := Bool.eq_false_iff.mpr c4
  subst c4
  have H1 : (some false) = some r := by rw [if_neg (show ¬ (false = true) by decide)] at H; exact H
  clear H
  have H := H1
  clear H1
  exact absurd ((Option.some.inj H).trans HT_.out) (by decide)
def tallymanlaw8_TreePlays.Pure : Prop := ∀ (l0 : List (S31)) (a1 : ByteArray), (l0.length ≤ maxLen ∧ ∀ x0_ ∈ l0, ((Lit.int .i64 x0_.f0).wf = true ∧ x0_.f1.size ≤ maxLen ∧ x0_.f2.size ≤ maxLen ∧ (x0_.f3.length ≤ maxLen ∧ ∀ x1_ ∈ x0_.f3, (Lit.int .u8 x1_).wf = true))) → a1.size ≤ maxLen → ∃ k, tallymanlaw8_TreePlays.f k l0 a1 = some true
end Go.Proofs.YtidlldfghkaeeaaGreatDoor.P
