/- Put together by pack2.py: Own53, RefNames, RefUnder, RefCmp, Spx, Srt, PthSort, RefSort, Px0, EntRow, DirMap, TreeList, PthUp, TreeGood -/
import Derived.Test.YtidlldfghkaeeaaDoorZtLaidKEtc
import Derived.Sort.Grow
import Derived.Lib.SliceRun
import Derived.Shelf.Slices.Cells
import Derived.Shelf.SlSortCmp.NoneTotal
import Derived.Ground.SlsfProg
import Derived.Test.YtidlldfghkaeeaaDoorProg
import Derived.Below
import Derived.Deep.Draws
import Derived.Deep.AppendLies
import Derived.Maps.AppendAt
import Derived.OwnWalk
import Derived.Laws.BytesArg
import Derived.Laws.MakeOwn
import Derived.Laws.OwnMore
import Derived.Deep.OwnRows
import Derived.Tactics
import Derived.Lib.ConvBytes
import Derived.Laws.Slices
import Derived.WalkKit
import Derived.KernelRfl
import Derived.RowKit3
import Derived.Deep.LoopGhost
import Derived.Deep.QuietTactic
import Derived.BigQuiet
import Derived.WideLaws
import Derived.Deep.DeepCutAuto
import Derived.Deep.CutBlock
import Derived.Deep.RegionHeld3
import Derived.Laws.Rows
import Derived.Lib.AppendStr
import Derived.ArgAppend
import Derived.Laws.IdiomCopy
import Derived.OrdersHeld
import Derived.Laws.BitsLemmas
import Derived.RowKit
import Derived.Lib.SlBytesConst
import Derived.Test.YtidlldfghkaeeaaDoorZtW0
import Derived.Laws.StructEq
import Derived.Lib.AppendZerosOnto
import Derived.Lib.Overlaps
import Derived.Laws.CopyRow
import Derived.Maps.Own
import Derived.Maps.OwnOps
import Derived.Maps.Views
import Derived.StringKeys
section
namespace Go.Proofs.YtidlldfghkaeeaaDoor.P
open Go.RowKit Go.Proofs.YtidlldfghkaeeaaDoorW.PrintWords Go.Proofs.YtidlldfghkaeeaaDoorW.PrintLast Go.Proofs.YtidlldfghkaeeaaDoorW.PrintMore
attribute [local go_sem] max2_int min2_int max_two min_two max_three min_three max_four min_four
set_option linter.unusedVariables false
set_option linter.unusedSimpArgs false

/-! ### ref7_names: function 100 -/
def ref7_names.l0 : Nat → ByteArray → List ByteArray → Int → Int → Option (List ByteArray)
 | 0, _, _, _, _ => none
 | k + 1, x0, x3, x4, x5 => if x5 ≤ (x0.size : Int) then (if x5 = (x0.size : Int) then (if 0 ≤ x4 then (if x4 ≤ x5 then (if x3.length < 8796093022208 then (ref7_names.l0 k x0 (x3 ++ [x0.extract (x4 : Int).toNat (x5 : Int).toNat]) (wrap64 (x5 + 1)) (wrap64 (x5 + 1))) else (none)) else (none)) else (none)) else (if 0 ≤ x5 then (if x5 < (x0.size : Int) then (if (bt x0 x5) = 47 then (if 0 ≤ x4 then (if x4 ≤ x5 then (if x3.length < 8796093022208 then (ref7_names.l0 k x0 (x3 ++ [x0.extract (x4 : Int).toNat (x5 : Int).toNat]) (wrap64 (x5 + 1)) (wrap64 (x5 + 1))) else (none)) else (none)) else (none)) else (ref7_names.l0 k x0 x3 x4 (wrap64 (x5 + 1)))) else (none)) else (none))) else (some x3)
def ref7_names.f (k : Nat) (a0 : ByteArray) : Option (List ByteArray) := ref7_names.l0 k a0 ([] : List ByteArray) 0 0
/-! ### ref7_Good: function 53 -/
mutual
def ref7_Good.l0 : Nat → List ByteArray → Int → Option (Bool)
 | 0, _, _ => none
 | k + 1, x3, x4 => if x4 < (x3.length : Int) then (if 0 ≤ x4 then (if ((rdOf ByteArray.empty x3 x4).size : Int) < 1 then (ref7_Good.j1 k x3 x4 true) else (if ((rdOf ByteArray.empty x3 x4).size : Int) > 16 then (ref7_Good.j1 k x3 x4 true) else (if (rdOf ByteArray.empty x3 x4).toList = ([46] : List UInt8) then (ref7_Good.j1 k x3 x4 true) else (ref7_Good.j1 k x3 x4 ((rdOf ByteArray.empty x3 x4).toList == ([46, 46] : List UInt8)))))) else (none)) else (some (decide ((x3.length : Int) ≤ 4)))
def ref7_Good.j1 : Nat → List ByteArray → Int → Bool → Option (Bool)
 | 0, _, _, _ => none
 | k + 1, x3, x4, x42 => if x42 = true then (some false) else (ref7_Good.l1 k x3 x4 0)
def ref7_Good.l1 : Nat → List ByteArray → Int → Int → Option (Bool)
 | 0, _, _, _ => none
 | k + 1, x3, x4, x5 => if 0 ≤ x4 then (if x4 < (x3.length : Int) then (if x5 < ((rdOf ByteArray.empty x3 x4).size : Int) then (if 0 ≤ x5 then (if (bt (rdOf ByteArray.empty x3 x4) x5) < 97 then (if (bt (rdOf ByteArray.empty x3 x4) x5) < 48 then (if (bt (rdOf ByteArray.empty x3 x4) x5) = 46 then (ref7_Good.l1 k x3 x4 (wrap64 (x5 + 1))) else (if (bt (rdOf ByteArray.empty x3 x4) x5) = 45 then (ref7_Good.l1 k x3 x4 (wrap64 (x5 + 1))) else (if (bt (rdOf ByteArray.empty x3 x4) x5) = 95 then (ref7_Good.l1 k x3 x4 (wrap64 (x5 + 1))) else (some false)))) else (if (bt (rdOf ByteArray.empty x3 x4) x5) > 57 then (if (bt (rdOf ByteArray.empty x3 x4) x5) = 46 then (ref7_Good.l1 k x3 x4 (wrap64 (x5 + 1))) else (if (bt (rdOf ByteArray.empty x3 x4) x5) = 45 then (ref7_Good.l1 k x3 x4 (wrap64 (x5 + 1))) else (if (bt (rdOf ByteArray.empty x3 x4) x5) = 95 then (ref7_Good.l1 k x3 x4 (wrap64 (x5 + 1))) else (some false)))) else (ref7_Good.l1 k x3 x4 (wrap64 (x5 + 1))))) else (if (bt (rdOf ByteArray.empty x3 x4) x5) > 122 then (if (bt (rdOf ByteArray.empty x3 x4) x5) < 48 then (if (bt (rdOf ByteArray.empty x3 x4) x5) = 46 then (ref7_Good.l1 k x3 x4 (wrap64 (x5 + 1))) else (if (bt (rdOf ByteArray.empty x3 x4) x5) = 45 then (ref7_Good.l1 k x3 x4 (wrap64 (x5 + 1))) else (if (bt (rdOf ByteArray.empty x3 x4) x5) = 95 then (ref7_Good.l1 k x3 x4 (wrap64 (x5 + 1))) else (some false)))) else (if (bt (rdOf ByteArray.empty x3 x4) x5) > 57 then (if (bt (rdOf ByteArray.empty x3 x4) x5) = 46 then (ref7_Good.l1 k x3 x4 (wrap64 (x5 + 1))) else (if (bt (rdOf ByteArray.empty x3 x4) x5) = 45 then (ref7_Good.l1 k x3 x4 (wrap64 (x5 + 1))) else (if (bt (rdOf ByteArray.empty x3 x4) x5) = 95 then (ref7_Good.l1 k x3 x4 (wrap64 (x5 + 1))) else (some false)))) else (ref7_Good.l1 k x3 x4 (wrap64 (x5 + 1))))) else (ref7_Good.l1 k x3 x4 (wrap64 (x5 + 1))))) else (none)) else (ref7_Good.l0 k x3 (wrap64 (x4 + 1)))) else (none)) else (none)
end
def ref7_Good.f (k : Nat) (a0 : ByteArray) : Option (Bool) := (ref7_names.f k a0).bind fun t199 => (ref7_Good.l0 k t199 0)
end Go.Proofs.YtidlldfghkaeeaaDoor.P
end
section
namespace Go.Proofs.YtidlldfghkaeeaaDoor.P
open Go.RowKit Go.Proofs.YtidlldfghkaeeaaDoorW.PrintWords Go.Proofs.YtidlldfghkaeeaaDoorW.PrintLast
set_option linter.unusedVariables false
set_option linter.unusedSimpArgs false

def mkB (l : List UInt8) : ByteArray := ⟨l.toArray⟩
end Go.Proofs.YtidlldfghkaeeaaDoor.P
end
section
namespace Go.Proofs.YtidlldfghkaeeaaDoor.P
open Go.RowKit Go.Proofs.YtidlldfghkaeeaaDoorW.PrintWords Go.Proofs.YtidlldfghkaeeaaDoorW.PrintLast Go.Proofs.YtidlldfghkaeeaaDoorW.PrintMore
set_option linter.unusedVariables false
set_option linter.unusedSimpArgs false

def tallymanref7_names.f (a0 : ByteArray) : Option (List ByteArray) := if a0.size < 4294967280 then some ((sp a0.data.toList).map mkB) else none
def tallymanref7_Good.f (a0 : ByteArray) : Option Bool := if a0.size < 4294967280 then some (decide (Gd a0.data.toList)) else none
def tallymanref7_Under.f (a0 a1 : ByteArray) : Option Bool := if a0.size < 4294967280 then if a1.size < 4294967280 then some (decide (Gd a0.data.toList ∧ Gd a1.data.toList ∧ (a1.data.toList ++ [47]) <+: a0.data.toList)) else none else none
end Go.Proofs.YtidlldfghkaeeaaDoor.P
end
section
namespace Go.Proofs.YtidlldfghkaeeaaDoor.P
open Go.RowKit Go.Proofs.YtidlldfghkaeeaaDoorW.PrintWords Go.Proofs.YtidlldfghkaeeaaDoorW.PrintLast Go.Proofs.YtidlldfghkaeeaaDoorW.PrintMore
set_option linter.unusedVariables false
set_option linter.unusedSimpArgs false

def tallymanref7_Cmp.f (a0 a1 : ByteArray) : Option Int := if a0.size < 4294967280 then if a1.size < 4294967280 then some (cL (sp a0.data.toList) (sp a1.data.toList)) else none else none
end Go.Proofs.YtidlldfghkaeeaaDoor.P
end
section
namespace Go.Proofs.YtidlldfghkaeeaaDoor.P
open Go.RowKit Go.Proofs.YtidlldfghkaeeaaDoorW.PrintWords Go.Proofs.YtidlldfghkaeeaaDoorW.PrintLast Go.Proofs.YtidlldfghkaeeaaDoorW.PrintMore
set_option linter.unusedVariables false
set_option linter.unusedSimpArgs false
theorem strings_Split.exact (a0 a1 : ByteArray) (r : List ByteArray) (w : World) (h : strings_Split.f a0 a1 = some r) :
    Calls Tryd.prog 85 #[.string a0, .string a1] w fun e w' => e = .returned (.slice (some ⟨w.heap.size, 0, none⟩) r.length r.length) ∧ w' = w.alloc (.cells (r.map Value.string).toArray 9) := by
  unfold strings_Split.f at h
  split at h
  · rename_i hs
    obtain rfl := sep_eq hs
    split at h
    · rename_i hz
      obtain rfl := Option.some.inj h
      have hle := Lib.countB_le ⟨#[47]⟩ (Nat.le_refl _) a0.size a0 (Nat.le_refl _)
      have hlen := Lib.splitB_all ⟨#[47]⟩ (Nat.le_refl _) 0 _ a0 rfl
      have hI : ∀ (x : ByteArray) (c : Array Value), x.size ≤ a0.size → Calls Tryd.prog 106 #[.string x, .string ⟨#[47]⟩] (w.alloc (.cells c 9)) fun e w' => e = .returned (.int .i64 (Lib.indexB x ⟨#[47]⟩)) ∧ w' = w.alloc (.cells c 9) := fun x c _ => by
        have c1 : Calls Tryd.prog 106 #[.string x, .string ⟨#[47]⟩] (w.alloc (.cells c 9)) _ := Any.strings_Index_one Tryd.lays143 x 47 _
        refine c1.mono ?_
        rintro e w' ⟨rfl, rfl⟩
        exact ⟨by rw [show Lib.indexB x ⟨#[47]⟩ = Lib.index x.data.toList [47] from rfl, Lib.index_one], rfl⟩
      have hC : Calls Tryd.prog 89 #[.string a0, .string ⟨#[47]⟩] w fun e w' => e = .returned (.int .i64 (Lib.countB a0 ⟨#[47]⟩)) ∧ w' = w := by
        have c1 : Calls Tryd.prog 89 #[.string a0, .string ⟨#[47]⟩] w _ := Any.strings_Count_one Tryd.lays138 a0 47 w
        refine c1.mono ?_
        rintro e w' ⟨rfl, rfl⟩
        exact ⟨by rw [show Lib.countB a0 ⟨#[47]⟩ = Lib.count a0.data.toList [47] from rfl, Lib.count_one]; rfl, rfl⟩
      have c : Calls Tryd.prog 107 #[.string a0, .string ⟨#[47]⟩, .int .i64 (0 : Nat), .int .i64 (-1)] w _ := Any.strings_genSplit_core Tryd.lays221 info9s a0 ⟨#[47]⟩ 0 (-1) (Lib.countB a0 ⟨#[47]⟩ + 1) w hz (Nat.le_refl _) (Nat.zero_le _) hI hC (by decide) (by decide) (by rw [if_pos (by decide)]; omega)
      rw [Nat.add_sub_cancel, hlen] at c
      have e2 : Lib.cellsOf (Lib.splitB ⟨#[47]⟩ 0 (Lib.countB a0 ⟨#[47]⟩) a0) (Lib.countB a0 ⟨#[47]⟩ + 1) = ((Lib.splitB ⟨#[47]⟩ 0 (Lib.countB a0 ⟨#[47]⟩) a0).map Value.string).toArray := by rw [← hlen]; exact Lib.cellsOf_full _
      rw [e2] at c
      replace c : Calls Tryd.prog 107 #[.string a0, .string ⟨#[47]⟩, .int .i64 (0 : Nat), .int .i64 (-1)] w fun e w' => e = .returned (.slice (some ⟨w.heap.size, 0, none⟩) (Lib.countB a0 ⟨#[47]⟩ + 1) (Lib.countB a0 ⟨#[47]⟩ + 1)) ∧ w' = w.alloc (.cells ((Lib.splitB ⟨#[47]⟩ 0 (Lib.countB a0 ⟨#[47]⟩) a0).map Value.string).toArray 9) := c
      rw [← hlen] at c
      generalize Lib.splitB ⟨#[47]⟩ 0 (Lib.countB a0 ⟨#[47]⟩) a0 = ps at *
      generalize w.alloc (.cells (ps.map Value.string).toArray 9) = w2 at *
      clear hI hC e2 hlen hle hs h hz
      go_enter Tryd.func85, Tryd.ntmps85
      go_wp2_with (go_at_call 107; refine c.mono ?_; rintro e w' ⟨rfl, rfl⟩)
      go_ret
      exact ⟨rfl, rfl⟩
    · cases h
  · cases h

theorem path_Cmp.exact (a b : ByteArray) (w : World) (ha : a.size < 4294967281) (hb : b.size < 4294967281) :
    Calls Tryd.prog 51 #[.string a, .string b] w fun e w' => e = .returned (.int .i64 (cL (sp a.data.toList) (sp b.data.toList))) ∧ ∃ q os, w' = Go.Sort.grow (w.drewN q) os := by
  have hl : (pieces a).length ≤ a.size + 1 := by
    have h := congrArg List.length (pieces_sp a)
    rw [List.length_map, sp_len] at h
    have := List.count_le_length (a := (47 : UInt8)) (l := a.data.toList)
    rw [← D_size] at this
    omega
  have h := Compare_l0 (pieces a) (pieces b) (by omega) (pieces a).length 0 (a.size + 1) (by omega) (Nat.zero_le _) (by omega)
  rw [List.drop_zero, List.drop_zero, show Ds (pieces a) = sp a.data.toList from pieces_sp a, show Ds (pieces b) = sp b.data.toList from pieces_sp b] at h
  have hsa : strings_Split.f a ⟨#[47]⟩ = some (pieces a) := by
    unfold strings_Split.f
    rw [if_pos rfl, if_pos ha]
    rfl
  have hsb : strings_Split.f b ⟨#[47]⟩ = some (pieces b) := by
    unfold strings_Split.f
    rw [if_pos rfl, if_pos hb]
    rfl
  have hlx : (pieces a).length ≤ 9223372036854775807 := by omega
  have hly : (pieces b).length ≤ 9223372036854775807 := by
    have h := congrArg List.length (pieces_sp b)
    rw [List.length_map, sp_len] at h
    have := List.count_le_length (a := (47 : UInt8)) (l := b.data.toList)
    rw [← D_size] at this
    omega
  have c1 := fun w => strings_Split.exact a ⟨#[47]⟩ (pieces a) w hsa
  have c2 := fun w => strings_Split.exact b ⟨#[47]⟩ (pieces b) w hsb
  generalize cL (sp a.data.toList) (sp b.data.toList) = r at *
  generalize pieces a = xs at *
  generalize pieces b = ys at *
  clear hsa hsb ha hb hl
  have c3 := fun A1 c1 A2 c2 w h1 h2 h3 h4 => slices_Compare_string_string.calls (a.size + 2) A1 c1 xs A2 c2 ys r w h1 h2 h3 h4 h
  go_enter Tryd.func51, Tryd.ntmps51
  have HX := Aside0.mk hlx
  have HY := Aside0.mk hly
  have H3 := Aside0.mk c3
  have H2 := Aside0.mk c2
  clear hlx hly c3 h c2
  go_wp2_with (fail)
  refine (c1 w).mono ?_
  clear c1
  rintro e w2 ⟨rfl, rfl⟩
  dsimp only
  have hR1 := R_block (W := w.alloc (.cells (xs.map Value.string).toArray 9)) (b := w.heap.size) (B := w.heap.size) (xs := xs) (blk_new _ _) (Nat.le_refl _) HX.out
  have h2 := H2.out (w.alloc (.cells (xs.map Value.string).toArray 9))
  have hR2 := R_block (W := (w.alloc (.cells (xs.map Value.string).toArray 9)).alloc (.cells (ys.map Value.string).toArray 9)) (b := (w.alloc (.cells (xs.map Value.string).toArray 9)).heap.size) (B := w.heap.size) (xs := ys) (blk_new _ _) (by show w.heap.size ≤ (w.heap.push _).size; rw [Array.size_push]; omega) HY.out
  have hR1' := Kd.R_alloc hR1 (.cells (ys.map Value.string).toArray 9)
  have h3 := H3.out _ _ _ _ _ (Kd.R_reads' hR1').2.2 (Nat.le_refl _) (Kd.R_reads' hR2).2.2 (Nat.le_refl _)
  have hg : ∀ n, ((w.alloc (.cells (xs.map Value.string).toArray 9)).alloc (.cells (ys.map Value.string).toArray 9)).drewN n = Go.Sort.grow (w.drewN n) (#[.cells (xs.map Value.string).toArray 9] ++ #[.cells (ys.map Value.string).toArray 9]) := fun n => by
    rw [Go.Sort.alloc_eq_grow, Go.Sort.alloc_eq_grow, Go.Sort.grow_grow]
    rfl
  clear hR1 hR2 hR1'
  generalize (w.alloc (.cells (xs.map Value.string).toArray 9)).alloc (.cells (ys.map Value.string).toArray 9) = w3 at *
  generalize (w.alloc (.cells (xs.map Value.string).toArray 9)) = w2 at *
  have HG := Aside0.mk hg
  clear hg
  go_wp2_with (first | (go_at_call 85; refine h2.mono ?_; rintro e w4 ⟨rfl, rfl⟩) | (go_at_call 91; refine h3.mono ?_; rintro e w5 ⟨rfl, ⟨nd, rfl⟩⟩))
  go_ret
  exact ⟨rfl, _, _, HG.out _⟩
end Go.Proofs.YtidlldfghkaeeaaDoor.P
end
section
namespace Go.Proofs.YtidlldfghkaeeaaDoor.P
open Go.RowKit Go.Proofs.YtidlldfghkaeeaaDoorW.PrintWords Go.Proofs.YtidlldfghkaeeaaDoorW.PrintLast Go.Proofs.YtidlldfghkaeeaaDoorW.PrintMore
set_option linter.unusedVariables false
set_option linter.unusedSimpArgs false

/-- A text that path.Cmp takes. -/
abbrev Tx := {s : ByteArray // s.size < 4294967281}
instance : Inhabited Tx := ⟨⟨ByteArray.empty, by decide⟩⟩
theorem cL_ntrans {xs ys zs} (h1 : cL xs ys < 0) (h2 : cL ys zs < 0) : cL xs zs < 0 := by
  have h3 := cL_trans xs ys zs (by omega) (by omega)
  by_cases h : cL xs zs = 0
  · obtain rfl := cL_eq.1 h
    have := cL_anti xs ys
    omega
  · omega
/-- The order's test, as the sort uses it. -/
def leP (x y : ByteArray) : Bool := !decide (cL (sp y.data.toList) (sp x.data.toList) < 0)
theorem below_grow {B : Nat} {w W : World} (h : Below B w W) (hB : B ≤ W.heap.size) (os : Array Obj) : Below B w (Go.Sort.grow W os) := by
  refine ⟨h.os, h.tape, h.output, Nat.le_trans h.size (by simp), fun k hk => ?_⟩
  rw [← h.block k hk]
  exact Array.getElem?_append_left (by omega)
/-- Of neighbours that are alike, one stays. -/
def dk {α : Type} [DecidableEq α] : Option α → List α → List α
  | _, [] => []
  | p, x :: xs => if p = some x then dk p xs else x :: dk (some x) xs
def gd (x : ByteArray) : Bool := decide (GPieces (pieces x))
/-- Sorted, name by name: each put in its place. -/
def ins (x : ByteArray) : List ByteArray → List ByteArray
  | [] => [x]
  | y :: ys => if leP x y = true then x :: y :: ys else y :: ins x ys
def isort : List ByteArray → List ByteArray
  | [] => []
  | x :: xs => ins x (isort xs)
/-- path.Sort. -/
def path_Sort.f (l0 : List ByteArray) : Option (List ByteArray) := if l0.length < 8796093022208 then if l0.all (fun x => decide (x.size < 4294967281)) then some (dk none (isort (l0.filter gd))) else none else none
/-- path.Cmp. -/
def path_Cmp.f (a0 a1 : ByteArray) : Option Int := if a0.size < 4294967281 then if a1.size < 4294967281 then some (cL (sp a0.data.toList) (sp a1.data.toList)) else none else none
theorem path_Cmp.calls (a0 a1 : ByteArray) (r : Int) (w : World) (h : path_Cmp.f a0 a1 = some r) :
    Calls Tryd.prog 51 #[.string a0, .string a1] w fun e w' => e = .returned (.int .i64 r) ∧ Below w.heap.size w w' := by
  unfold path_Cmp.f at h
  split at h
  · rename_i h1
    split at h
    · rename_i h2
      obtain rfl := Option.some.inj h
      refine (path_Cmp.exact a0 a1 w h1 h2).mono ?_
      rintro e w' ⟨rfl, q, os, rfl⟩
      exact ⟨rfl, below_grow (pw_below_drewN (Below.refl _ _) q) (Nat.le_refl _) os⟩
    · cases h
  · cases h
end Go.Proofs.YtidlldfghkaeeaaDoor.P
end
section
namespace Go.Proofs.YtidlldfghkaeeaaDoor.P
open Go.RowKit Go.Proofs.YtidlldfghkaeeaaDoorW.PrintWords Go.Proofs.YtidlldfghkaeeaaDoorW.PrintLast
set_option linter.unusedVariables false
set_option linter.unusedSimpArgs false

/-- What path.Sort makes. -/
def srt (l : List ByteArray) : List ByteArray := dk none (isort (l.filter gd))
end Go.Proofs.YtidlldfghkaeeaaDoor.P
end
section
namespace Go.Proofs.YtidlldfghkaeeaaDoor.P
open Go.RowKit Go.Proofs.YtidlldfghkaeeaaDoorW.PrintWords Go.Proofs.YtidlldfghkaeeaaDoorW.PrintLast Go.Proofs.YtidlldfghkaeeaaDoorW.PrintMore
set_option linter.unusedVariables false
set_option linter.unusedSimpArgs false

section
variable {ops : Array Oper} {op : Oper} {a : Act} {Q : Exit → Act → World → Prop} {Kc : Act → World → Prop}
end
theorem cell_lt2 {w : World} {a : Addr} {v : Value} (h : w.cell? a = some v) : a.block < w.heap.size := World.block_lt_of_cell? w a h
def tallymanref7_Sort.f (l0 : List ByteArray) : Option (List ByteArray) := if l0.length ≤ 1000 then if l0.all (fun x => decide (x.size < 4294967280)) then some (srt l0) else none else none
end Go.Proofs.YtidlldfghkaeeaaDoor.P
end
section
namespace Go.Proofs.YtidlldfghkaeeaaDoor.P
open Go.RowKit Go.Proofs.YtidlldfghkaeeaaDoorW.PrintWords Go.Proofs.YtidlldfghkaeeaaDoorW.PrintLast Go.Proofs.YtidlldfghkaeeaaDoorW.PrintMore
attribute [local go_sem] max2_int min2_int max_two min_two max_three min_three max_four min_four   -- for this text's walks alone
set_option linter.unusedVariables false
set_option linter.unusedSimpArgs false



theorem C_of_block {W : World} {g : Nat} {xs : List Int} {e : TypeId} {fr : Nat × Nat} (k : IntKind) (h : W.heap[g]? = some (.cells (nums k xs).toArray e fr)) (hm : xs.length ≤ 9223372036854775807) :
    (Kd.int k).C W (some ⟨g, 0, none⟩) xs.length xs := by
  refine Kd.C_of_reads (d := (0 : Int)) (h1 := fun _ => rfl) ?_
  refine ⟨rfl, hm, fun _ => ⟨_, rfl, fun j hj => ?_⟩⟩
  have ha : ((⟨g, 0, none⟩ : Addr).add j) = ⟨g, j, none⟩ := by
    unfold Addr.add
    by_cases h0 : j = 0
    · subst h0; simp
    · simp [h0]
  rw [ha]
  simp [World.cell?, h, nums, List.getElem?_eq_getElem hj]
theorem V_mlit {P : Program} {ops : Array Oper} {rest : List Oper} {o : Oper} {a : Act} {Q : Exit → Act → World → Prop} {W : World} {C : Array Value} {xs : List Int} {n : Nat} {N : Tmp} (hgd : o.guard = none) (_hd : o.dst = some N) (src : Operand) {t e : TypeId}
    (hop : o.op = .convert t t src) (hx : a.eval src = .slice (some ⟨W.heap.size, 0, none⟩) n n) (ht : P.underlying t = some (.slice e)) (he : P.underlying e = some (.int .u8)) (hC : C = (nums .u8 xs).toArray) (hn : xs.length = n) (hm : xs.length ≤ 9223372036854775807)
    (h : ∀ v1 w1, Kd.V (Kd.int .u8) e w1 W.heap.size (fun k => W.heap.size ≤ k) v1 xs → Below W.heap.size W w1 → W.grownBy w1 none → (∃ b, v1.ownBlock = some b ∧ W.heap.size ≤ b) → wpList P ops Q rest (a.put o.dst v1) w1) :
    wpList P ops Q (o :: rest) a (W.alloc (.cells C e)) := by
  subst hn
  have hb : ∀ fr, (W.alloc (.cells C e fr)).heap[W.heap.size]? = some (.cells C e fr) := fun fr => by
    show (W.heap.push (.cells C e fr))[W.heap.size]? = _
    simp
  have hsz : ∀ fr, (W.alloc (.cells C e fr)).heap.size = W.heap.size + 1 := fun fr => by show (W.heap.push _).size = _; simp
  refine Kd.event_run hgd (v := .slice (some ⟨W.heap.size, 0, none⟩) xs.length xs.length) (w1 := W.alloc (.cells C e (C.size, C.size + 1))) ?_ (h _ _ ⟨some ⟨W.heap.size, 0, none⟩, xs.length, rfl, Nat.le_refl _, fun W' hW' => ?_⟩ ((Below.refl _ _).alloc (Nat.le_refl _) _) (World.grownBy_alloc W _ none) ⟨W.heap.size, by simp [Value.ownBlock], Nat.le_refl _⟩)
  · have := Lib.run_convert_bytes_const (P := P) W t e C xs.length xs.length ht he
    unfold execOp
    simp only [hop, hx]
    simp [this]
  · have hk := hW' W.heap.size (Nat.le_refl _) (by rw [hsz]; omega)
    rw [hb] at hk
    subst hC
    exact C_of_block .u8 hk hm

theorem C_none_nil {α : Type} {d : Kd α} {w : World} {n : Nat} {l : List α} (h : Kd.C d w none n l) : l = [] := by
  obtain ⟨h1, _, h3⟩ := h
  rcases Nat.eq_zero_or_pos n with h0 | h0
  · exact List.length_eq_zero_iff.1 (h1.trans h0)
  · obtain ⟨ad, e, _⟩ := h3 h0
    cases e

theorem info5 : (Tryd.prog.info? 5).map (fun i => (i.zero, i.size, i.bytes)) = some (some (.int .u8 0), 1, 1) := by kernel_rfl
theorem info9 : (Tryd.prog.info? 9).map (fun i => (i.zero, i.size, i.bytes)) = some (some (.string ⟨#[]⟩), 1, 16) := by kernel_rfl
theorem info30 : (Tryd.prog.info? 30).map (fun i => (i.zero, i.size, i.bytes)) = some (some (.agg #[(.string ⟨#[]⟩), (.bool false), (.slice none 0 0)]), 3, 48) := by kernel_rfl
/-! #### struct type 30 -/
structure S30 where
  f0 : ByteArray
  f1 : Bool
  f2 : (List Int)
def z30 : S30 := ⟨(⟨#[]⟩ : ByteArray), false, ([] : List Int)⟩
def k30 : Kd S30 := Kd.iso (Kd.pair Kd.string (Kd.pair Kd.bool (Kd.slice 5 (Kd.int .u8)))) (fun x : S30 => (x.f0, x.f1, x.f2))
theorem k30_open {w : World} {x : S30} {cs : List Value} (h : k30.K w x cs) : ∃ A2 c2, cs = [.string x.f0, .bool x.f1, .slice A2 x.f2.length c2] ∧ x.f2.length ≤ c2 ∧ (Kd.int .u8).C w A2 x.f2.length x.f2 := by
  obtain ⟨_, _, rfl, rfl, ⟨_, _, rfl, rfl, ⟨A2, c2, rfl, l2, g2⟩⟩⟩ := h
  exact ⟨A2, c2, rfl, l2, g2⟩
theorem k30_mk (w : World) (x : S30) {A2 : Option Addr} {c2 : Nat} (l2 : x.f2.length ≤ c2) (g2 : (Kd.int .u8).C w A2 x.f2.length x.f2) : k30.K w x [.string x.f0, .bool x.f1, .slice A2 x.f2.length c2] := ⟨[.string x.f0], [.bool x.f1, .slice A2 x.f2.length c2], rfl, rfl, ⟨[.bool x.f1], [.slice A2 x.f2.length c2], rfl, rfl, ⟨A2, c2, rfl, l2, g2⟩⟩⟩
theorem k30_mkM (w : World) (base : Nat) (ok : Nat → Prop) (x : S30) {v2 : Value} (g2 : (Kd.int .u8).R 5 w base ok v2 x.f2) : k30.M w base ok x [.string x.f0, .bool x.f1, v2] := ⟨[.string x.f0], [.bool x.f1, v2], rfl, rfl, ⟨[.bool x.f1], [v2], rfl, rfl, ⟨v2, rfl, g2⟩⟩⟩
theorem k30_openF {W : World} {ok : Nat → Prop} {x : S30} {cs : List Value} (h : Kd.FK k30 W ok x cs) : ∃ A2 c2, cs = [.string x.f0, .bool x.f1, .slice A2 x.f2.length c2] ∧ x.f2.length ≤ c2 ∧ Kd.F (Kd.int .u8) W ok A2 x.f2.length x.f2 := by
  obtain ⟨A2, c2, rfl, l2, _⟩ := k30_open (Kd.FK_now h)
  exact ⟨A2, c2, rfl, l2, (fun W' hW => by obtain ⟨A2_, c2_, he, l2_, g2_⟩ := k30_open (h W' hW); injection (Option.some.inj (show some (Value.slice A2 x.f2.length c2) = some (Value.slice A2_ x.f2.length c2_) from congrArg (fun l => l[2]?) he)) with ha_ _ _; rw [ha_]; exact g2_)⟩
theorem k30_mkF (W : World) (ok : Nat → Prop) (x : S30) {A2 : Option Addr} {c2 : Nat} (l2 : x.f2.length ≤ c2) (g2 : Kd.F (Kd.int .u8) W ok A2 x.f2.length x.f2) : Kd.FK k30 W ok x [.string x.f0, .bool x.f1, .slice A2 x.f2.length c2] := fun W2 hW => k30_mk W2 x l2 (g2 W2 hW)
def rd_T30 (xs : List S30) (i : Int) : S30 := xs.getD i.toNat z30
theorem at_T30 {w : World} {A : Option Addr} {n : Nat} {xs : List S30} (h : Kd.C k30 w A n xs) (i : Int) (h0 : 0 ≤ i) (h1 : i < n) : ∃ ad A2 c2, A = some ad ∧ w.cell? (ad.add (i.toNat * 3)) = some (.string (rd_T30 xs i).f0) ∧ w.cell? ⟨(ad.add (i.toNat * 3)).block, (ad.add (i.toNat * 3)).off + 1, none⟩ = some (.bool (rd_T30 xs i).f1) ∧ w.cell? ⟨(ad.add (i.toNat * 3)).block, (ad.add (i.toNat * 3)).off + 2, none⟩ = some (.slice A2 (rd_T30 xs i).f2.length c2) ∧ (rd_T30 xs i).f2.length ≤ c2 ∧ (Kd.int .u8).C w A2 (rd_T30 xs i).f2.length (rd_T30 xs i).f2 := by
  obtain ⟨ad, c, e, _, hK, hc0⟩ := Kd.C_get h z30 i h0 h1
  have hc : ∀ j u, c[j]? = some u → w.cell? (ad.add (i.toNat * 3 + j)) = some u := hc0
  obtain ⟨A2, c2, rfl, l2, g2⟩ := k30_open hK
  exact ⟨ad, A2, c2, e, hc 0 _ rfl, by rw [← add_field _ _ 1 (by omega)]; exact hc 1 _ rfl, by rw [← add_field _ _ 2 (by omega)]; exact hc 2 _ rfl, l2, g2⟩

/-! #### struct type 94 -/
structure S94 where
  f0 : ByteArray
  f1 : Bool
  f2 : (List Int)
end Go.Proofs.YtidlldfghkaeeaaDoor.P
end
section
namespace Go.Proofs.YtidlldfghkaeeaaDoor.P
open Go.RowKit Go.Proofs.YtidlldfghkaeeaaDoorW.PrintWords Go.Proofs.YtidlldfghkaeeaaDoorW.PrintLast Go.Proofs.YtidlldfghkaeeaaDoorW.PrintMore
set_option linter.unusedVariables false
set_option linter.unusedSimpArgs false

theorem infoE : (Tryd.prog.info? 30).map (fun i => (i.zero, i.size, i.bytes)) = some (some (.agg #[.string ⟨#[]⟩, .bool false, .slice none 0 0]), 3, 48) := by kernel_rfl
theorem sizeE : (Tryd.prog.info? 30).map (·.size) = some 3 := by kernel_rfl
/-- An element's three cells. -/
def Rw (r : List Value) : Prop := r.length = 3 ∧ ∀ u ∈ r, u.oneCell' = true
theorem flat_len : ∀ {rows : List (List Value)}, (∀ r ∈ rows, r.length = 3) → rows.flatten.length = rows.length * 3
  | [], _ => rfl
  | r :: rows, h => by
    have h1 := h r List.mem_cons_self
    have h2 := flat_len (rows := rows) fun x hx => h x (List.mem_cons_of_mem _ hx)
    rw [List.flatten_cons, List.length_append, h1, h2, List.length_cons]
    omega
theorem flat_take : ∀ {rows : List (List Value)} (i : Nat), (∀ r ∈ rows, r.length = 3) → rows.flatten.take (i * 3) = (rows.take i).flatten
  | rows, 0, _ => by simp
  | [], i + 1, _ => by simp
  | r :: rows, i + 1, h => by
    have h1 := h r List.mem_cons_self
    rw [List.flatten_cons, List.take_succ_cons, List.flatten_cons, List.take_append, List.take_of_length_le (by omega), show (i + 1) * 3 - r.length = i * 3 by omega, flat_take i fun x hx => h x (List.mem_cons_of_mem _ hx)]
theorem flat_drop : ∀ {rows : List (List Value)} (i : Nat), (∀ r ∈ rows, r.length = 3) → rows.flatten.drop (i * 3) = (rows.drop i).flatten
  | rows, 0, _ => by simp
  | [], i + 1, _ => by simp
  | r :: rows, i + 1, h => by
    have h1 := h r List.mem_cons_self
    rw [List.flatten_cons, List.drop_succ_cons, List.drop_append, List.drop_eq_nil_of_le (by omega), List.nil_append, show (i + 1) * 3 - r.length = i * 3 by omega, flat_drop i fun x hx => h x (List.mem_cons_of_mem _ hx)]
theorem reps_flat : ∀ {rows : List (List Value)} {inner : List Value}, Reps (fun x cs => cs = x ∧ cs.length = 3 ∧ ∀ u ∈ cs, u.oneCell' = true) 3 rows inner → inner = rows.flatten ∧ ∀ r ∈ rows, Rw r
  | [], inner, h => by
    have := h.1
    rw [List.length_nil, Nat.zero_mul] at this
    exact ⟨List.length_eq_zero_iff.1 this, by simp⟩
  | r :: rows, inner, h => by
    have h0 := h.2 0 r rfl
    rw [Nat.zero_mul, List.drop_zero] at h0
    have h1 : Reps (fun x cs => cs = x ∧ cs.length = 3 ∧ ∀ u ∈ cs, u.oneCell' = true) 3 rows (inner.drop 3) := by
      refine ⟨by rw [List.length_drop, h.1, List.length_cons]; omega, fun j p hj => ?_⟩
      have := h.2 (j + 1) p (by simpa using hj)
      rwa [show (j + 1) * 3 = 3 + j * 3 by omega, ← List.drop_drop] at this
    obtain ⟨e, hr⟩ := reps_flat h1
    refine ⟨?_, fun x hx => ?_⟩
    · rw [List.flatten_cons, ← e, ← h0.1, List.take_append_drop]
    · rcases List.mem_cons.1 hx with rfl | hx
      · exact ⟨by rw [← h0.1]; exact h0.2.1, by rw [← h0.1]; exact h0.2.2⟩
      · exact hr x hx
theorem flat_reps {rows : List (List Value)} (h : ∀ r ∈ rows, Rw r) : Reps (fun x cs => cs = x ∧ cs.length = 3 ∧ ∀ u ∈ cs, u.oneCell' = true) 3 rows rows.flatten := by
  have h3 : ∀ r ∈ rows, r.length = 3 := fun r hr => (h r hr).1
  refine ⟨flat_len h3, fun j p hj => ?_⟩
  obtain ⟨hl, hp⟩ := List.getElem?_eq_some_iff.1 hj
  have hm : p ∈ rows := hp ▸ List.getElem_mem hl
  have hpw := h p hm
  have e : (rows.flatten.drop (j * 3)).take 3 = p := by
    rw [flat_drop j h3, List.drop_eq_getElem_cons hl, hp, List.flatten_cons, List.take_append, List.take_of_length_le (by rw [hpw.1]; exact Nat.le_refl _), hpw.1]
    simp
  rw [e]
  exact ⟨rfl, hpw⟩
/-- A row of entries, its block written out. -/
structure NB (W : World) (base : Nat) (ok : Nat → Prop) (g n cap : Nat) (rows : List (List Value)) (tail : List Value) (xs : List S30) : Prop where
  hb : W.heap[g]? = some (.cells (rows.flatten ++ tail).toArray 30 (0, 0))
  hg : base ≤ g
  hok : ok g
  hn : n = xs.length
  hc : n ≤ cap
  hm : cap ≤ maxLen
  hl : rows.length = n
  hw : ∀ r ∈ rows, Rw r
  ht : tail.length = (cap - n) * 3
  hf : ∀ (j : Nat) (x : S30) (c : List Value), xs[j]? = some x → rows[j]? = some c → Kd.FK k30 W (fun k => ok k ∧ k ≠ g) x c
theorem N_NB {W : World} {base : Nat} {ok : Nat → Prop} {g n cap : Nat} {xs : List S30} (h : Kd.N k30 30 W base ok (.slice (some ⟨g, 0, none⟩) n cap) xs) : ∃ rows tail, NB W base ok g n cap rows tail xs := by
  have hn := (Kd.N_reads' h).1
  obtain ⟨h0, rows, hl, hR, hf⟩ := h
  obtain ⟨_, inner, ⟨hil, hv⟩, hr⟩ := hR
  obtain ⟨e, hw⟩ := reps_flat hr
  rcases hv with ⟨hv, _⟩ | ⟨g', cap', cur, hv, hB, hb, h1, h2, h3, h4⟩
  · cases hv
  · injection hv with hg _ hc
    injection hg with hg
    injection hg with hg
    subst hg
    subst hc
    refine ⟨rows, cur.toList.drop (rows.length * 3), ?_, hB, h0 _ rfl, hn, by omega, h2, by omega, hw, ?_, fun j x c hx hc => Kd.FK_mono (hf j x c hx hc) fun k hk => ⟨hk.1, fun e => hk.2 (by rw [e]; rfl)⟩⟩
    · rw [← e, ← h4]
      have : cur.toList.take (rows.length * (Kd.raw k30.sz).sz) ++ cur.toList.drop (rows.length * 3) = cur.toList := List.take_append_drop _ _
      rw [this]
      exact hb
    · have : cur.size = cap * 3 := h3
      rw [List.length_drop, Array.length_toList, this]
      omega
theorem NB_N {W : World} {base : Nat} {ok : Nat → Prop} {g n cap : Nat} {rows : List (List Value)} {tail : List Value} {xs : List S30} (h : NB W base ok g n cap rows tail xs) : Kd.N k30 30 W base ok (.slice (some ⟨g, 0, none⟩) n cap) xs := by
  have h3 : ∀ r ∈ rows, r.length = 3 := fun r hr => (h.hw r hr).1
  have hfl := flat_len h3
  have hl := h.hl
  have hc := h.hc
  refine ⟨fun k hk => ?_, rows, by rw [h.hl, h.hn], ⟨fun k hk => hk.symm, rows.flatten, ⟨hfl, .inr ⟨g, cap, _, by rw [h.hl], h.hg, h.hb, by omega, h.hm, ?_, ?_⟩⟩, flat_reps h.hw⟩, fun j x c hx hc => Kd.FK_mono (h.hf j x c hx hc) fun k hk => ⟨hk.1, fun e => hk.2 ?_⟩⟩
  · have : k = g := by simpa [Value.ownBlock] using hk.symm
    rw [this]
    exact h.hok
  · rw [List.size_toArray, List.length_append, hfl, h.ht, hl]
    show n * 3 + (cap - n) * 3 = cap * 3
    omega
  · show (rows.flatten ++ tail).take (rows.length * 3) = rows.flatten
    rw [← hfl]
    exact List.take_left
  · have : g = k := by simpa [Value.ownBlock] using e.symm
    exact this.symm
/-- Go's copy, at elements of three cells, into a block of one's own. -/
theorem run_copy3 (w : World) (ty : TypeId) (g o dLen dCap : Nat) (a : Addr) (sLen sCap : Nat) (cur : Array Value) (cs : List Value)
    (hg : w.heap[g]? = some (.cells cur 30 (0, 0))) (hn : cs.length = Nat.min sLen dLen * 3)
    (hsrc : ∀ j v, cs[j]? = some v → w.cell? (a.add j) = some v) (hfit : o + cs.length ≤ cur.size) (h1 : ∀ v ∈ cs, v.oneCell' = true) :
    (Builtin.copy_ #[22, 22] ty #[.slice (some ⟨g, o, none⟩) dLen dCap, .slice (some a) sLen sCap]).run Tryd.prog w =
      .ok (goInt (Nat.min sLen dLen)) (w.setRow g (cur.toList.take o ++ cs ++ cur.toList.drop (o + cs.length)).toArray) := by
  have hl := run_loadCells_list (P := Tryd.prog) w a cs hsrc
  have hst := run_storeCells_at Tryd.prog g o 30 cs 0 cur w hg (by simpa using hfit) h1
  have hs := sizeE
  cases hq : Tryd.prog.info? 30 with
  | none => simp [hq] at hs
  | some i =>
    have hi : i.size = 3 := by simpa [hq] using hs
    simp [Builtin.copy_, run_underlying Tryd.underlying22, Builtin.lenOf, Builtin.firstCells, sizeOf, typeInfo, hq, hi, ← hn, hl, hst]
/-- Slices of a row of entries. -/
theorem run_low (W : World) (g n c m : Nat) (hm : m < c) (hn : m ≤ n) : (Instr.slice 22 (.slice (some ⟨g, 0, none⟩) n c) (some (.int .i64 (m : Int))) none none).run Tryd.prog W = .ok (.slice (some ⟨g, m * 3, none⟩) (n - m) (c - m)) W := by
  have hs := sizeE
  cases hq : Tryd.prog.info? 30 with
  | none => simp [hq] at hs
  | some i =>
    have hi : i.size = 3 := by simpa [hq] using hs
    have hel : Tryd.prog.elem 22 = 30 := by simp [Program.elem, Tryd.underlying22]
    have hu : Tryd.prog.underlying 22 = some (.slice (Tryd.prog.elem 22)) := by rw [hel]; exact Tryd.underlying22
    rw [run_slice_l W 22 _ n c hu .i64 (m : Int) (Int.natCast_nonneg _) (by omega), hel]
    simp [sizeOf, typeInfo, hq, hi, sliced, Result.andThen, show ¬ c = m by omega, add_at]
theorem run_high (W : World) (A : Option Addr) (n c m : Nat) (hm : m ≤ c) : (Instr.slice 22 (.slice A n c) none (some (.int .i64 (m : Int))) none).run Tryd.prog W = .ok (.slice A m c) W := by
  have hs := sizeE
  cases hq : Tryd.prog.info? 30 with
  | none => simp [hq] at hs
  | some i =>
    have hi : i.size = 3 := by simpa [hq] using hs
    have hel : Tryd.prog.elem 22 = 30 := by simp [Program.elem, Tryd.underlying22]
    have hu : Tryd.prog.underlying 22 = some (.slice (Tryd.prog.elem 22)) := by rw [hel]; exact Tryd.underlying22
    rw [run_slice_h W 22 A n c hu .i64 (m : Int) (by omega) (by omega), hel]
    have h0 : (fun x : Addr => x.add 0) = id := funext fun x => by simp [Addr.add]
    simp [sizeOf, typeInfo, hq, hi, sliced, Result.andThen, h0]
end Go.Proofs.YtidlldfghkaeeaaDoor.P
end
section
namespace Go.Proofs.YtidlldfghkaeeaaDoor.P
open Go.RowKit Go.Proofs.YtidlldfghkaeeaaDoorW.PrintWords Go.Proofs.YtidlldfghkaeeaaDoorW.PrintLast Go.Proofs.YtidlldfghkaeeaaDoorW.PrintMore
set_option linter.unusedVariables false
set_option linter.unusedSimpArgs false

theorem ks : Go.Maps.Keyed Tryd.prog 9 := Go.Maps.string_keyed Tryd.underlying9
/-- The block's map tells g of the texts that a map may hold. -/
def MapIs (W : World) (b n : Nat) (g : ByteArray → Bool) : Prop := ∃ D : DataW Unit, W.ownsMap Tryd.prog 9 (plainElem Tryd.prog 4) b n D ∧ ∀ s : ByteArray, D.atKey (.string s.data.toList) (.lit (.bool false)) = .lit (.bool (g s))
theorem MapIs.keep {W W' : World} {b n : Nat} {g : ByteArray → Bool} (h : MapIs W b n g) (hk : W'.heap[b]? = W.heap[b]?) : MapIs W' b n g := by
  obtain ⟨D, ⟨es, clock, hb, F, hs, hD⟩, h2⟩ := h
  exact ⟨D, ⟨es, clock, hk.trans hb, F, hs, hD⟩, h2⟩
theorem MapIs.lt {W : World} {b n : Nat} {g : ByteArray → Bool} (h : MapIs W b n g) : b < W.heap.size := by
  obtain ⟨D, h1, _⟩ := h
  exact h1.lt
theorem MapIs.below {W W' : World} {b n : Nat} {g : ByteArray → Bool} (h : MapIs W b n g) (hb : Below W.heap.size W W') : MapIs W' b n g := h.keep (hb.block b h.lt)
theorem MapIs.made (W : World) : MapIs (W.alloc (.map #[] 0)) W.heap.size 0 (fun _ => false) := ⟨_, World.ownsMap_made W _ _ _, fun s => rfl⟩
theorem MapIs.congr {W : World} {b n : Nat} {g g' : ByteArray → Bool} (h : MapIs W b n g) (hg : ∀ s, g s = g' s) : MapIs W b n g' := by
  obtain ⟨D, h1, h2⟩ := h
  exact ⟨D, h1, fun s => by rw [h2, hg]⟩
theorem MapIs.look {W : World} {b n : Nat} {g : ByteArray → Bool} (h : MapIs W b n g) {s : ByteArray} (hs : s.size ≤ maxLen) : (Instr.lookup 82 (.map (some b)) (.string s) false).run Tryd.prog W = .ok (.bool (g s)) W := by
  obtain ⟨D, h1, h2⟩ := h
  have hz : (zeroValue 4).run Tryd.prog W = .ok (.bool false) W := by
    have h4 : (Tryd.prog.info? 4).map (·.zero) = some (some (.bool false)) := by kernel_rfl
    cases hq : Tryd.prog.info? 4 with
    | none => simp [hq] at h4
    | some i =>
      have hi : i.zero = some (.bool false) := by simpa [hq] using h4
      simp [zeroValue, typeInfo, hq, hi]
  obtain ⟨v, ps, hrun, hv⟩ := h1.lookup ks Tryd.underlying82 hz (plainElem_bool Tryd.underlying4 false) (Go.WideMaps.keyOf_string_mk Tryd.underlying9 hs)
  rw [h2] at hv
  rw [hrun]
  have hu := Tryd.underlying4
  cases v <;> simp [plainElem, hu] at hv
  rw [hv.1]
theorem MapIs.update {W : World} {b n : Nat} {g : ByteArray → Bool} (h : MapIs W b n g) {s : ByteArray} (hs : s.size ≤ maxLen) (hn : n < maxLen) (x : Bool) : ∃ W', (Instr.mapUpdate 82 (.map (some b)) (.string s) (.bool x)).run Tryd.prog W = .ok () W' ∧ MapIs W' b (n + 1) (fun z => if z = s then x else g z) ∧ W.grownBy W' (some b) := by
  obtain ⟨D, h1, h2⟩ := h
  obtain ⟨W', hrun, hown, hg⟩ := h1.update ks Tryd.underlying82 hn (Go.WideMaps.keyOf_string_mk Tryd.underlying9 hs) (plainElem_bool Tryd.underlying4 x)
  refine ⟨W', hrun, ⟨_, hown, fun z => ?_⟩, hg⟩
  have hm : Go.Maps.IsMap D := by
    obtain ⟨es, clock, _, _, _, rfl⟩ := h1
    exact ⟨_, rfl⟩
  by_cases hz : z = s
  · subst hz
    show _ = DataW.lit (Lit.bool (if z = z then x else g z))
    rw [if_pos rfl]
    exact Go.Maps.atKey_put_same (k := .string z.data.toList) hm (show Go.WideAt.IsKeyLit (.string z.data.toList) from trivial) _ _
  · show _ = DataW.lit (Lit.bool (if z = s then x else g z))
    have hne : (Lit.string z.data.toList) ≠ .string s.data.toList := by
      intro e
      injection e with e
      exact hz (ByteArray.ext (Array.toList_inj.1 e))
    rw [if_neg hz, Go.Maps.atKey_put_other hne, h2]
section
variable {ops : Array Oper} {op : Oper} {rest : List Oper} {a : Act} {Q : Exit → Act → World → Prop}
theorem insert_dir {W : World} {b n : Nat} {g : ByteArray → Bool} (h : MapIs W b n g) (hgd : op.guard = none) (m x v : Operand) (hop : op.op = Op.insert 82 m x v) {s : ByteArray} {y : Bool} (hm : a.eval m = .map (some b)) (hx : a.eval x = .string s) (hv : a.eval v = .bool y) (hs : s.size ≤ maxLen) (hn : n < maxLen)
    (hK : ∀ W', MapIs W' b (n + 1) (fun z => if z = s then y else g z) → W.grownBy W' (some b) → wpList Tryd.prog ops Q rest (a.put op.dst undef) W') : wpList Tryd.prog ops Q (op :: rest) a W := by
  refine wpList_plain hgd fun K' hK' => ?_
  obtain ⟨W', hrun, r1, r2⟩ := h.update hs hn y
  unfold Oper.wp
  simp [execOp, hop, hm, hx, hv, hrun, Result.andThen]
  exact hK' _ _ (hK W' r1 r2)
theorem update_dir {W : World} {b n : Nat} {g : ByteArray → Bool} (h : MapIs W b n g) (hgd : op.guard = none) (m x v : Operand) (hop : op.op = Op.mapUpdate 82 m x v) {s : ByteArray} {y : Bool} (hm : a.eval m = .map (some b)) (hx : a.eval x = .string s) (hv : a.eval v = .bool y) (hs : s.size ≤ maxLen) (hn : n < maxLen)
    (hK : ∀ W', MapIs W' b (n + 1) (fun z => if z = s then y else g z) → W.grownBy W' (some b) → wpList Tryd.prog ops Q rest (a.put op.dst undef) W') : wpList Tryd.prog ops Q (op :: rest) a W := by
  refine wpList_plain hgd fun K' hK' => ?_
  obtain ⟨W', hrun, r1, r2⟩ := h.update hs hn y
  unfold Oper.wp
  simp [execOp, hop, hm, hx, hv, hrun, Result.andThen]
  exact hK' _ _ (hK W' r1 r2)
end
end Go.Proofs.YtidlldfghkaeeaaDoor.P
end
section
namespace Go.Proofs.YtidlldfghkaeeaaDoor.P
open Go.RowKit
set_option linter.unusedVariables false
set_option linter.unusedSimpArgs false

/-- Ahead of, in the order of paths. -/
def ltP (a b : ByteArray) : Prop := cL (sp a.data.toList) (sp b.data.toList) < 0
instance (a b : ByteArray) : Decidable (ltP a b) := by unfold ltP; exact inferInstance
theorem ltP_irr (a : ByteArray) : ¬ ltP a a := by
  unfold ltP
  rw [cL_eq.2 rfl]
  omega
theorem ltP_trans {a b c : ByteArray} (h1 : ltP a b) (h2 : ltP b c) : ltP a c := cL_ntrans h1 h2
theorem ltP_asym {a b : ByteArray} (h1 : ltP a b) : ¬ ltP b a := fun h2 => ltP_irr a (ltP_trans h1 h2)
theorem ltP_tri (a b : ByteArray) : ltP a b ∨ a = b ∨ ltP b a := by
  unfold ltP
  rw [cL_anti (sp a.data.toList) (sp b.data.toList)]
  by_cases h : cL (sp a.data.toList) (sp b.data.toList) = 0
  · exact .inr (.inl (ByteArray.ext (Array.toList_inj.1 (sp_inj (cL_eq.1 h)))))
  · omega
theorem ltP_ne {a b : ByteArray} (h : ltP a b) : a ≠ b := fun e => ltP_irr b (e ▸ h)
section
variable {α : Type} (key : α → ByteArray)
def Srt (l : List α) : Prop := l.Pairwise fun a b => ltP (key a) (key b)
def lowB (p : ByteArray) : List α → Nat
  | [] => 0
  | x :: l => if ltP (key x) p then lowB p l + 1 else 0
variable {key}
theorem lowB_le (p : ByteArray) : ∀ l : List α, lowB key p l ≤ l.length
  | [] => Nat.le_refl _
  | x :: l => by
    unfold lowB
    have := lowB_le p l
    split
    · rw [List.length_cons]; omega
    · omega
theorem lowB_lt {p : ByteArray} : ∀ {l : List α} {i : Nat} (h : i < lowB key p l) (hi : i < l.length), ltP (key l[i]) p
  | x :: l, i, h, hi => by
    unfold lowB at h
    split at h
    · rename_i hx
      cases i with
      | zero => exact hx
      | succ i => exact lowB_lt (l := l) (by omega) _
    · omega
theorem lowB_ge {p : ByteArray} : ∀ {l : List α} {i : Nat} (hs : Srt key l) (h : lowB key p l ≤ i) (hi : i < l.length), ¬ ltP (key l[i]) p
  | x :: l, i, hs, h, hi => by
    unfold lowB at h
    have h1 := List.pairwise_cons.1 hs
    split at h
    · rename_i hx
      cases i with
      | zero => omega
      | succ i => exact lowB_ge (l := l) h1.2 (by omega) _
    · rename_i hx
      cases i with
      | zero => exact hx
      | succ i => exact fun hc => hx (ltP_trans (h1.1 _ (List.getElem_mem _)) hc)
/-- A bound that parts the row is the bound. -/
theorem lowB_uniq {p : ByteArray} {l : List α} {i : Nat} (hs : Srt key l) (hl : i ≤ l.length) (h1 : ∀ j (hj : j < l.length), j < i → ltP (key l[j]) p) (h2 : ∀ j (hj : j < l.length), i ≤ j → ¬ ltP (key l[j]) p) : i = lowB key p l := by
  have hb := lowB_le (key := key) p l
  rcases Nat.lt_trichotomy i (lowB key p l) with h | h | h
  · exact absurd (lowB_lt h (by omega)) (h2 i (by omega) (Nat.le_refl _))
  · exact h
  · exact absurd (h1 _ (by omega) h) (lowB_ge hs (Nat.le_refl _) (by omega))
theorem lowB_at {p : ByteArray} {l : List α} (hs : Srt key l) : (∃ h : lowB key p l < l.length, key l[lowB key p l] = p) ↔ ∃ e ∈ l, key e = p := by
  constructor
  · rintro ⟨h, e⟩
    exact ⟨_, List.getElem_mem h, e⟩
  · rintro ⟨e, he, hk⟩
    obtain ⟨j, hj, rfl⟩ := List.mem_iff_getElem.1 he
    have h0 : ¬ j < lowB key p l := fun h => ltP_irr p (hk ▸ lowB_lt h hj)
    have h1 : lowB key p l < l.length := by omega
    refine ⟨h1, ?_⟩
    rcases Nat.lt_or_ge (lowB key p l) j with h2 | h2
    · have h3 := List.pairwise_iff_getElem.1 hs _ _ h1 hj h2
      rw [hk] at h3
      exact absurd h3 (lowB_ge hs (Nat.le_refl _) h1)
    · obtain rfl : j = lowB key p l := by omega
      exact hk
theorem srt_key {l : List α} (hs : Srt key l) {a b : α} (ha : a ∈ l) (hb : b ∈ l) (h : key a = key b) : a = b := by
  obtain ⟨i, hi, rfl⟩ := List.mem_iff_getElem.1 ha
  obtain ⟨j, hj, rfl⟩ := List.mem_iff_getElem.1 hb
  rcases Nat.lt_trichotomy i j with h1 | h1 | h1
  · exact absurd h (ltP_ne (List.pairwise_iff_getElem.1 hs _ _ hi hj h1))
  · subst h1; rfl
  · exact absurd h.symm (ltP_ne (List.pairwise_iff_getElem.1 hs _ _ hj hi h1))
theorem srt_ext {l1 l2 : List α} (h1 : Srt key l1) (h2 : Srt key l2) (hm : ∀ x, x ∈ l1 ↔ x ∈ l2) : l1 = l2 := by
  have n1 : l1.Nodup := h1.imp fun {a b} h (e : a = b) => ltP_irr (key b) (by rw [e] at h; exact h)
  have n2 : l2.Nodup := h2.imp fun {a b} h (e : a = b) => ltP_irr (key b) (by rw [e] at h; exact h)
  exact List.Perm.eq_of_pairwise (le := fun a b => ltP (key a) (key b)) (fun _ _ _ _ h1 h2 => absurd h2 (ltP_asym h1)) h1 h2 ((List.perm_ext_iff_of_nodup n1 n2).2 hm)
variable (key)
/-- Put in its place, in place of one of that path. -/
def insE (e : α) : List α → List α
  | [] => [e]
  | x :: l => if ltP (key x) (key e) then x :: insE e l else if key x = key e then e :: l else e :: x :: l
/-- All but that of a path. -/
def delE (p : ByteArray) (l : List α) : List α := l.filter fun e => decide (key e ≠ p)
variable {key}
theorem insE_set {e : α} : ∀ {l : List α} {i : Nat} (h : i = lowB key (key e) l) (hi : i < l.length) (hk : key l[i] = key e), l.set i e = insE key e l
  | x :: l, i, h, hi, hk => by
    unfold lowB at h
    unfold insE
    split at h
    · rename_i hx
      subst h
      rw [if_pos hx, List.set_cons_succ]
      rw [insE_set (l := l) rfl (by simpa using hi) (by simpa using hk)]
    · rename_i hx
      subst h
      rw [if_neg hx, if_pos (show key x = key e from hk)]
      rfl
theorem insE_new {e : α} : ∀ {l : List α} {i : Nat} (h : i = lowB key (key e) l) (hk : ∀ hi : i < l.length, key l[i] ≠ key e), l.take i ++ e :: l.drop i = insE key e l
  | [], i, h, hk => by
    simp [insE]
  | x :: l, i, h, hk => by
    unfold lowB at h
    unfold insE
    split at h
    · rename_i hx
      subst h
      rw [if_pos hx, List.take_succ_cons, List.drop_succ_cons, List.cons_append]
      rw [insE_new (l := l) rfl (fun hi => hk (Nat.succ_lt_succ hi))]
    · rename_i hx
      subst h
      rw [if_neg hx, if_neg (show ¬ key x = key e from hk (Nat.succ_pos _))]
      rfl
theorem insE_mem {e y : α} : ∀ {l : List α} (hs : Srt key l), y ∈ insE key e l ↔ y = e ∨ (y ∈ l ∧ key y ≠ key e)
  | [], _ => by simp [insE]
  | x :: l, hs => by
    have h1 := List.pairwise_cons.1 hs
    have ih := insE_mem (e := e) (y := y) h1.2
    unfold insE
    split
    · rename_i hx
      rw [List.mem_cons, ih, List.mem_cons]
      constructor
      · rintro (rfl | h | h)
        · exact .inr ⟨.inl rfl, ltP_ne hx⟩
        · exact .inl h
        · exact .inr ⟨.inr h.1, h.2⟩
      · rintro (h | ⟨rfl | h, h2⟩)
        · exact .inr (.inl h)
        · exact .inl rfl
        · exact .inr (.inr ⟨h, h2⟩)
    · rename_i hx
      split
      · rename_i hk
        rw [List.mem_cons, List.mem_cons]
        constructor
        · rintro (h | h)
          · exact .inl h
          · exact .inr ⟨.inr h, fun e2 => ltP_ne (h1.1 y h) (hk.trans e2.symm)⟩
        · rintro (h | ⟨rfl | h, h2⟩)
          · exact .inl h
          · exact absurd hk h2
          · exact .inr h
      · rename_i hk
        rw [List.mem_cons, List.mem_cons]
        have hlt : ltP (key e) (key x) := by
          rcases ltP_tri (key x) (key e) with h | h | h
          · exact absurd h hx
          · exact absurd h hk
          · exact h
        constructor
        · rintro (h | rfl | h)
          · exact .inl h
          · exact .inr ⟨.inl rfl, hk⟩
          · exact .inr ⟨.inr h, fun e2 => ltP_irr (key e) (by have h3 := ltP_trans hlt (h1.1 y h); rwa [e2] at h3)⟩
        · rintro (h | ⟨h, h2⟩)
          · exact .inl h
          · exact .inr h
theorem insE_srt {e : α} : ∀ {l : List α} (hs : Srt key l), Srt key (insE key e l)
  | [], _ => by
    unfold insE
    exact List.pairwise_singleton _ _
  | x :: l, hs => by
    have h1 := List.pairwise_cons.1 hs
    unfold insE
    split
    · rename_i hx
      refine List.pairwise_cons.2 ⟨fun y hy => ?_, insE_srt h1.2⟩
      rcases (insE_mem h1.2).1 hy with rfl | hy
      · exact hx
      · exact h1.1 y hy.1
    · rename_i hx
      split
      · rename_i hk
        exact List.pairwise_cons.2 ⟨fun y hy => by rw [← hk]; exact h1.1 y hy, h1.2⟩
      · rename_i hk
        have hlt : ltP (key e) (key x) := by
          rcases ltP_tri (key x) (key e) with h | h | h
          · exact absurd h hx
          · exact absurd h hk
          · exact h
        refine List.pairwise_cons.2 ⟨fun y hy => ?_, hs⟩
        rcases List.mem_cons.1 hy with rfl | hy
        · exact hlt
        · exact ltP_trans hlt (h1.1 y hy)
theorem delE_mem {p : ByteArray} {l : List α} {y : α} : y ∈ delE key p l ↔ y ∈ l ∧ key y ≠ p := by
  unfold delE
  rw [List.mem_filter, decide_eq_true_eq]
theorem delE_srt {p : ByteArray} {l : List α} (hs : Srt key l) : Srt key (delE key p l) := hs.sublist List.filter_sublist
theorem erase_del {p : ByteArray} {l : List α} {i : Nat} (hs : Srt key l) (hi : i < l.length) (hk : key l[i] = p) : l.take i ++ l.drop (i + 1) = delE key p l := by
  refine srt_ext (key := key) ?_ (delE_srt hs) fun y => ?_
  · refine hs.sublist ?_
    conv => rhs; rw [← List.take_append_drop i l]
    exact List.Sublist.append (List.Sublist.refl _) (by rw [show i + 1 = i + 1 from rfl, ← List.drop_drop]; exact List.drop_sublist _ _)
  · rw [delE_mem]
    have hl : l = l.take i ++ l[i] :: l.drop (i + 1) := by rw [← List.drop_eq_getElem_cons hi, List.take_append_drop]
    have hp := List.pairwise_append.1 (hl ▸ hs : Srt key (l.take i ++ l[i] :: l.drop (i + 1)))
    have hp2 := List.pairwise_cons.1 hp.2.1
    constructor
    · intro h
      rcases List.mem_append.1 h with h | h
      · exact ⟨List.mem_of_mem_take h, fun e => ltP_irr p (by have := hp.2.2 y h _ List.mem_cons_self; rwa [e, hk] at this)⟩
      · exact ⟨List.mem_of_mem_drop h, fun e => ltP_irr p (by have := hp2.1 y h; rwa [e, hk] at this)⟩
    · rintro ⟨h, h2⟩
      rw [hl] at h
      rcases List.mem_append.1 h with h | h
      · exact List.mem_append_left _ h
      · rcases List.mem_cons.1 h with h | h
        · exact absurd (h ▸ hk) h2
        · exact List.mem_append_right _ h
end
end Go.Proofs.YtidlldfghkaeeaaDoor.P
end
section
namespace Go.Proofs.YtidlldfghkaeeaaDoor.P
open Go.RowKit
set_option linter.unusedVariables false
set_option linter.unusedSimpArgs false

theorem jn_snoc : ∀ (xs : List (List UInt8)) (y : List UInt8), xs ≠ [] → jn (xs ++ [y]) = jn xs ++ 47 :: y
  | [], _, h => absurd rfl h
  | [x], y, _ => rfl
  | x :: z :: xs, y, _ => by
    have := jn_snoc (z :: xs) y (by simp)
    rw [List.cons_append] at this
    rw [List.cons_append, List.cons_append, jn, jn, this]
    simp
/-- What a path is in. -/
def upL (p : List UInt8) : List UInt8 := jn (sp p).dropLast
def upB (p : ByteArray) : ByteArray := ⟨(upL p.data.toList).toArray⟩
theorem upB_data (p : ByteArray) : (upB p).data.toList = upL p.data.toList := rfl
theorem sp_jn : ∀ (xs : List (List UInt8)), xs ≠ [] → (∀ x ∈ xs, 47 ∉ x) → sp (jn xs) = xs
  | [], h, _ => absurd rfl h
  | [x], _, h => sp_none x (h x List.mem_cons_self)
  | x :: y :: xs, _, h => by
    rw [jn, sp_app, sp_jn (y :: xs) (by simp) (fun z hz => h z (List.mem_cons_of_mem _ hz)), sp_none x (h x List.mem_cons_self)]
    rfl
theorem upL_one {p : List UInt8} (h : 47 ∉ p) : upL p = [] := by
  unfold upL
  rw [sp_none p h]
  rfl
theorem upL_more {u x : List UInt8} (h : 47 ∉ x) : upL (u ++ 47 :: x) = u := by
  unfold upL
  rw [sp_app, sp_none x h, List.dropLast_concat, jn_sp]
/-- A path is one name, or what it is in, and a name. -/
theorem up_cases {p : List UInt8} (hg : Gd p) : (upL p = [] ∧ 47 ∉ p ∧ p ≠ []) ∨ ∃ x, 47 ∉ x ∧ x ≠ [] ∧ p = upL p ++ 47 :: x ∧ sp p = sp (upL p) ++ [x] ∧ upL p ≠ [] ∧ Gd (upL p) := by
  have hs : ∀ x ∈ sp p, 47 ∉ x := fun x hx => sp_mem p x hx
  have hne := sp_ne p
  obtain ⟨ys, y, e⟩ : ∃ ys y, sp p = ys ++ [y] := ⟨_, _, (List.dropLast_concat_getLast hne).symm⟩
  have hup : upL p = jn ys := by
    unfold upL
    rw [e, List.dropLast_concat]
  have hy := hg.2 y (by rw [e]; simp)
  cases ys with
  | nil =>
    refine .inl ⟨hup, ?_, ?_⟩
    · have h1 := hs y (by rw [e]; simp)
      have h2 : p = y := by rw [← jn_sp p, e]; rfl
      rwa [h2]
    · rintro rfl
      have h2 : ([] : List UInt8) ∈ sp [] := by simp [sp]
      exact (hg.2 _ h2).1 rfl
  | cons z zs =>
    have hsu : sp (upL p) = z :: zs := by
      rw [hup]
      exact sp_jn _ (by simp) fun x hx => hs x (by rw [e]; exact List.mem_append_left _ hx)
    refine .inr ⟨y, hs y (by rw [e]; simp), hy.1, ?_, by rw [hsu, e], ?_, ?_⟩
    · rw [hup, ← jn_snoc _ _ (by simp), ← e, jn_sp]
    · intro h0
      rw [h0] at hsu
      have : z = [] := by
        have h3 : sp [] = [[]] := rfl
        rw [h3] at hsu
        injection hsu with h4 _
        exact h4.symm
      exact (hg.2 z (by rw [e]; simp)).1 this
    · refine ⟨?_, fun x hx => hg.2 x ?_⟩
      · have := hg.1
        rw [e, List.length_append, List.length_singleton] at this
        rw [hsu]
        omega
      · rw [hsu] at hx
        rw [e]
        exact List.mem_append_left _ hx
theorem jn_len : ∀ xs : List (List UInt8), (∀ x ∈ xs, x.length ≤ 16) → (jn xs).length ≤ 17 * xs.length
  | [], _ => Nat.le_refl _
  | [x], h => by
    have := h x List.mem_cons_self
    simp only [jn, List.length_singleton]
    omega
  | x :: y :: xs, h => by
    have h1 := h x List.mem_cons_self
    have h2 := jn_len (y :: xs) (fun z hz => h z (List.mem_cons_of_mem _ hz))
    simp only [jn, List.length_append, List.length_cons] at h2 ⊢
    omega
theorem gd_len {p : List UInt8} (hg : Gd p) : p.length ≤ 68 := by
  have h := jn_len (sp p) (fun x hx => (hg.2 x hx).2.1)
  rw [jn_sp] at h
  have := hg.1
  omega
end Go.Proofs.YtidlldfghkaeeaaDoor.P
end
section
namespace Go.Proofs.YtidlldfghkaeeaaDoor.P
open Go.RowKit
set_option linter.unusedVariables false
set_option linter.unusedSimpArgs false

theorem up_lt {p : ByteArray} (hg : Gd p.data.toList) : ltP (upB p) p := by
  unfold ltP
  rw [upB_data]
  rcases up_cases hg with ⟨h1, h2, h3⟩ | ⟨x, _, _, _, h2, _⟩
  · rw [h1, sp_none _ h2]
    have : c1 [] p.data.toList = -1 := by
      refine c1_lt.2 ?_
      cases e : p.data.toList with
      | nil => exact absurd e h3
      | cons a l => rfl
    simp [sp, cL, this]
  · rw [h2, cL_longer]
    decide
section
variable {α : Type} (pth : α → ByteArray) (dir : α → Bool) (byt : α → List Int)
/-- All bytes. -/
def nB (l : List α) : Nat := (l.map fun e => (byt e).length).sum
/-- An entry that may be, among these. -/
def okE (l : List α) (e : α) : Prop := Gd (pth e).data.toList ∧ (dir e = true → byt e = []) ∧ (byt e).length ≤ 2048 ∧ (upL (pth e).data.toList = [] ∨ ∃ d ∈ l, pth d = upB (pth e) ∧ dir d = true)
/-- A tree. -/
def GT (l : List α) : Prop := l.length ≤ 40 ∧ nB byt l ≤ 16384 ∧ Srt pth l ∧ ∀ e ∈ l, okE pth dir byt l e
end
section
variable {α : Type} {pth : α → ByteArray} {dir : α → Bool} {byt : α → List Int}
theorem nB_cons (x : α) (l : List α) : nB byt (x :: l) = (byt x).length + nB byt l := by simp [nB]
theorem nB_filter (f : α → Bool) (l : List α) : nB byt (l.filter f) ≤ nB byt l := by
  induction l with
  | nil => exact Nat.le_refl _
  | cons x l ih =>
    rw [List.filter_cons]
    split
    · rw [nB_cons, nB_cons]; omega
    · rw [nB_cons]; omega
theorem GT_nil : GT pth dir byt ([] : List α) := ⟨by simp, by simp [nB], List.Pairwise.nil, by simp⟩
/-- Whether something may stand in a path's Up. -/
def room (pth : α → ByteArray) (dir : α → Bool) (l : List α) (p : ByteArray) : Int :=
  if upL p.data.toList = [] then 0 else match l.find? (fun e => decide (pth e = upB p)) with
    | none => 1
    | some d => if dir d = true then 0 else 4
end
end Go.Proofs.YtidlldfghkaeeaaDoor.P
end
