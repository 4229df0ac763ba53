/- Put together by pack.py: Spx -/
import Derived.Test.YtidlldfghkaeeaaDoorZmOrd
import Derived.Sort.Grow
namespace Go.Proofs.YtidlldfghkaeeaaDoor.P
open Go.RowKit Go.Proofs.YtidlldfghkaeeaaDoorW.PrintWords Go.Proofs.YtidlldfghkaeeaaDoorW.PrintLast Go.Proofs.YtidlldfghkaeeaaDoorW.PrintMore
set_option linter.unusedVariables false
set_option linter.unusedSimpArgs false
theorem strings_Split.exact (a0 a1 : ByteArray) (r : List ByteArray) (w : World) (h : strings_Split.f a0 a1 = some r) :
    Calls Tryd.prog 85 #[.string a0, .string a1] w fun e w' => e = .returned (.slice (some ⟨w.heap.size, 0, none⟩) r.length r.length) ∧ w' = w.alloc (.cells (r.map Value.string).toArray 9) := by
  unfold strings_Split.f at h
  split at h
  · rename_i hs
    obtain rfl := sep_eq hs
    split at h
    · rename_i hz
      obtain rfl := Option.some.inj h
      have hle := Lib.countB_le ⟨#[47]⟩ (Nat.le_refl _) a0.size a0 (Nat.le_refl _)
      have hlen := Lib.splitB_all ⟨#[47]⟩ (Nat.le_refl _) 0 _ a0 rfl
      have hI : ∀ (x : ByteArray) (c : Array Value), x.size ≤ a0.size → Calls Tryd.prog 106 #[.string x, .string ⟨#[47]⟩] (w.alloc (.cells c 9)) fun e w' => e = .returned (.int .i64 (Lib.indexB x ⟨#[47]⟩)) ∧ w' = w.alloc (.cells c 9) := fun x c _ => by
        have c1 : Calls Tryd.prog 106 #[.string x, .string ⟨#[47]⟩] (w.alloc (.cells c 9)) _ := Any.strings_Index_one Tryd.lays143 x 47 _
        refine c1.mono ?_
        rintro e w' ⟨rfl, rfl⟩
        exact ⟨by rw [show Lib.indexB x ⟨#[47]⟩ = Lib.index x.data.toList [47] from rfl, Lib.index_one], rfl⟩
      have hC : Calls Tryd.prog 89 #[.string a0, .string ⟨#[47]⟩] w fun e w' => e = .returned (.int .i64 (Lib.countB a0 ⟨#[47]⟩)) ∧ w' = w := by
        have c1 : Calls Tryd.prog 89 #[.string a0, .string ⟨#[47]⟩] w _ := Any.strings_Count_one Tryd.lays138 a0 47 w
        refine c1.mono ?_
        rintro e w' ⟨rfl, rfl⟩
        exact ⟨by rw [show Lib.countB a0 ⟨#[47]⟩ = Lib.count a0.data.toList [47] from rfl, Lib.count_one]; rfl, rfl⟩
      have c : Calls Tryd.prog 107 #[.string a0, .string ⟨#[47]⟩, .int .i64 (0 : Nat), .int .i64 (-1)] w _ := Any.strings_genSplit_core Tryd.lays221 info9s a0 ⟨#[47]⟩ 0 (-1) (Lib.countB a0 ⟨#[47]⟩ + 1) w hz (Nat.le_refl _) (Nat.zero_le _) hI hC (by decide) (by decide) (by rw [if_pos (by decide)]; omega)
      rw [Nat.add_sub_cancel, hlen] at c
      have e2 : Lib.cellsOf (Lib.splitB ⟨#[47]⟩ 0 (Lib.countB a0 ⟨#[47]⟩) a0) (Lib.countB a0 ⟨#[47]⟩ + 1) = ((Lib.splitB ⟨#[47]⟩ 0 (Lib.countB a0 ⟨#[47]⟩) a0).map Value.string).toArray := by rw [← hlen]; exact Lib.cellsOf_full _
      rw [e2] at c
      replace c : Calls Tryd.prog 107 #[.string a0, .string ⟨#[47]⟩, .int .i64 (0 : Nat), .int .i64 (-1)] w fun e w' => e = .returned (.slice (some ⟨w.heap.size, 0, none⟩) (Lib.countB a0 ⟨#[47]⟩ + 1) (Lib.countB a0 ⟨#[47]⟩ + 1)) ∧ w' = w.alloc (.cells ((Lib.splitB ⟨#[47]⟩ 0 (Lib.countB a0 ⟨#[47]⟩) a0).map Value.string).toArray 9) := c
      rw [← hlen] at c
      generalize Lib.splitB ⟨#[47]⟩ 0 (Lib.countB a0 ⟨#[47]⟩) a0 = ps at *
      generalize w.alloc (.cells (ps.map Value.string).toArray 9) = w2 at *
      clear hI hC e2 hlen hle hs h hz
      go_enter Tryd.func85, Tryd.ntmps85
      go_wp2_with (go_at_call 107; refine c.mono ?_; rintro e w' ⟨rfl, rfl⟩)
      go_ret
      exact ⟨rfl, rfl⟩
    · cases h
  · cases h

theorem path_Cmp.exact (a b : ByteArray) (w : World) (ha : a.size < 4294967281) (hb : b.size < 4294967281) :
    Calls Tryd.prog 51 #[.string a, .string b] w fun e w' => e = .returned (.int .i64 (cL (sp a.data.toList) (sp b.data.toList))) ∧ ∃ q os, w' = Go.Sort.grow (w.drewN q) os := by
  have hl : (pieces a).length ≤ a.size + 1 := by
    have h := congrArg List.length (pieces_sp a)
    rw [List.length_map, sp_len] at h
    have := List.count_le_length (a := (47 : UInt8)) (l := a.data.toList)
    rw [← D_size] at this
    omega
  have h := Compare_l0 (pieces a) (pieces b) (by omega) (pieces a).length 0 (a.size + 1) (by omega) (Nat.zero_le _) (by omega)
  rw [List.drop_zero, List.drop_zero, show Ds (pieces a) = sp a.data.toList from pieces_sp a, show Ds (pieces b) = sp b.data.toList from pieces_sp b] at h
  have hsa : strings_Split.f a ⟨#[47]⟩ = some (pieces a) := by
    unfold strings_Split.f
    rw [if_pos rfl, if_pos ha]
    rfl
  have hsb : strings_Split.f b ⟨#[47]⟩ = some (pieces b) := by
    unfold strings_Split.f
    rw [if_pos rfl, if_pos hb]
    rfl
  have hlx : (pieces a).length ≤ 9223372036854775807 := by omega
  have hly : (pieces b).length ≤ 9223372036854775807 := by
    have h := congrArg List.length (pieces_sp b)
    rw [List.length_map, sp_len] at h
    have := List.count_le_length (a := (47 : UInt8)) (l := b.data.toList)
    rw [← D_size] at this
    omega
  have c1 := fun w => strings_Split.exact a ⟨#[47]⟩ (pieces a) w hsa
  have c2 := fun w => strings_Split.exact b ⟨#[47]⟩ (pieces b) w hsb
  generalize cL (sp a.data.toList) (sp b.data.toList) = r at *
  generalize pieces a = xs at *
  generalize pieces b = ys at *
  clear hsa hsb ha hb hl
  have c3 := fun A1 c1 A2 c2 w h1 h2 h3 h4 => slices_Compare_string_string.calls (a.size + 2) A1 c1 xs A2 c2 ys r w h1 h2 h3 h4 h
  go_enter Tryd.func51, Tryd.ntmps51
  have HX := Aside0.mk hlx
  have HY := Aside0.mk hly
  have H3 := Aside0.mk c3
  have H2 := Aside0.mk c2
  clear hlx hly c3 h c2
  go_wp2_with (fail)
  refine (c1 w).mono ?_
  clear c1
  rintro e w2 ⟨rfl, rfl⟩
  dsimp only
  have hR1 := R_block (W := w.alloc (.cells (xs.map Value.string).toArray 9)) (b := w.heap.size) (B := w.heap.size) (xs := xs) (blk_new _ _) (Nat.le_refl _) HX.out
  have h2 := H2.out (w.alloc (.cells (xs.map Value.string).toArray 9))
  have hR2 := R_block (W := (w.alloc (.cells (xs.map Value.string).toArray 9)).alloc (.cells (ys.map Value.string).toArray 9)) (b := (w.alloc (.cells (xs.map Value.string).toArray 9)).heap.size) (B := w.heap.size) (xs := ys) (blk_new _ _) (by show w.heap.size ≤ (w.heap.push _).size; rw [Array.size_push]; omega) HY.out
  have hR1' := Kd.R_alloc hR1 (.cells (ys.map Value.string).toArray 9)
  have h3 := H3.out _ _ _ _ _ (Kd.R_reads' hR1').2.2 (Nat.le_refl _) (Kd.R_reads' hR2).2.2 (Nat.le_refl _)
  have hg : ∀ n, ((w.alloc (.cells (xs.map Value.string).toArray 9)).alloc (.cells (ys.map Value.string).toArray 9)).drewN n = Go.Sort.grow (w.drewN n) (#[.cells (xs.map Value.string).toArray 9] ++ #[.cells (ys.map Value.string).toArray 9]) := fun n => by
    rw [Go.Sort.alloc_eq_grow, Go.Sort.alloc_eq_grow, Go.Sort.grow_grow]
    rfl
  clear hR1 hR2 hR1'
  generalize (w.alloc (.cells (xs.map Value.string).toArray 9)).alloc (.cells (ys.map Value.string).toArray 9) = w3 at *
  generalize (w.alloc (.cells (xs.map Value.string).toArray 9)) = w2 at *
  have HG := Aside0.mk hg
  clear hg
  go_wp2_with (first | (go_at_call 85; refine h2.mono ?_; rintro e w4 ⟨rfl, rfl⟩) | (go_at_call 91; refine h3.mono ?_; rintro e w5 ⟨rfl, ⟨nd, rfl⟩⟩))
  go_ret
  exact ⟨rfl, _, _, HG.out _⟩
end Go.Proofs.YtidlldfghkaeeaaDoor.P
