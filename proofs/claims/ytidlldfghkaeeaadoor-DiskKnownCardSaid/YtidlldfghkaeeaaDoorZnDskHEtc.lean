/- Put together by pack2.py: DskH, DskN, DskV, TreeAwk, DskW, DskO -/
import Derived.Test.YtidlldfghkaeeaaDoorZnDskGEtc
import Derived.Test.YtidlldfghkaeeaaDoorZnPfSlicesContainsIntIntEtc
import Derived.Test.YtidlldfghkaeeaaDoorZnPfTreeMakeEtc
section
namespace Go.Proofs.YtidlldfghkaeeaaDoor.P
open Go.RowKit Go.Proofs.YtidlldfghkaeeaaDoorW.PrintWords Go.Proofs.YtidlldfghkaeeaaDoorW.PrintLast Go.Proofs.YtidlldfghkaeeaaDoorW.PrintMore
set_option linter.unusedVariables false
set_option linter.unusedSimpArgs false
attribute [local go_sem] max2_int min2_int max_two min_two
/-- A disk behind a fall. -/
def fallD (s : Dk) (keep : List Int) (torn : Int) : Dk := { s with now := fallN keep torn s.waits s.last s.waits.length, last := fallN keep torn s.waits s.last s.waits.length, waits := [], off := true, fuse := 0 }
set_option maxHeartbeats 8000000 in
set_option maxRecDepth 100000 in
theorem begin_fall (W : World) (B g : Nat) (s : Dk) (vn vl vw vk : Value) (h : At W B g s vn vl vw vk) (hf : s.fuse = 1) (ho : s.off = false) (hw : s.waits.length ≤ 100000) (hgl : GT30 s.last) (hz : ∀ x ∈ s.waits, okG x) (hkl : s.keep.length ≤ 100000) :
    Calls Tryd.prog 79 #[.pointer (some ⟨g, 0, none⟩)] W fun e w' => ∃ vl', e = .returned (.bool false) ∧ At w' B g (fallD s s.keep s.torn) vl' vl' (.slice none 0 0) vk ∧ Kept W w' (fun k => k = g) ∧ Below B W w' := by
  have hu101 := Tryd.underlying101
  have HH := Aside0.mk h
  have fz := h.frozen
  obtain ⟨Ak, ck, hvk, _⟩ := h.k
  subst hvk
  obtain ⟨c0, c1, c2, c3, c4, c5, c6, c7, c8⟩ := h.cells
  rw [ho] at c4
  rw [hf] at c6
  have p2 : wrap64 ((1 : Int) - 1) = 0 := by unfold wrap64; omega
  have HO : Aside0 (({ s with fuse := 0 } : Dk).off = false) := ⟨ho⟩
  have HWW : Aside0 (({ s with fuse := 0 } : Dk).waits.length ≤ 100000) := ⟨hw⟩
  have HGL : Aside0 (GT30 ({ s with fuse := 0 } : Dk).last) := ⟨hgl⟩
  have HZ : Aside0 (∀ x ∈ ({ s with fuse := 0 } : Dk).waits, okG x) := ⟨hz⟩
  have HKL := Aside0.mk hkl
  clear h hf ho hw hgl hz hkl
  go_enter Tryd.func79, Tryd.ntmps79
  go_wp2_with (fail)
  have hk1 := blk_put HH.out.hg 6 (.int .i64 0) (cs' := #[.int .i64 s.q, vn, vl, vw, .bool s.off, .int .i64 s.count, .int .i64 0, .slice Ak s.keep.length ck, .int .i64 s.torn]) rfl
  have hK := Ke_set (Kept.refl W (fun k => k = g)) 6 (.int .i64 0)
  have hX1 : At (W.setCell ⟨g, 6, none⟩ (.int .i64 0)) B g { s with fuse := 0 } vn vl vw (.slice Ak s.keep.length ck) := At.turn hK HH.out.hB hk1 HH.out.n HH.out.l HH.out.w HH.out.k
  have HXE := Aside0.mk (hX1.below (below_drew (Below.refl _ _)))
  have HKE : Aside0 (Kept W (W.setCell ⟨g, 6, none⟩ (.int .i64 0)).drew (fun k => k = g)) := ⟨hK.drew⟩
  have HBE : Aside0 (Below B W (W.setCell ⟨g, 6, none⟩ (.int .i64 0)).drew) := ⟨(Be_set (Below.refl B W) HH.out.hB 6 (.int .i64 0)).drew⟩
  have md7 := HXE.out.cells.2.2.2.2.2.2.2.1
  have md8 := HXE.out.cells.2.2.2.2.2.2.2.2
  clear hk1 hK hX1 fz c0 c1 c2 c3 c4 c5 c6 c7 c8
  refine start_ (n := 10) (S := fun w' => w'.cell? ⟨g, 7, none⟩ = some (.slice Ak s.keep.length ck) ∧ w'.cell? ⟨g, 8, none⟩ = some (.int .i64 s.torn)) (ds := []) #[false, false, false, false, false, false, false, false, false, false] (by kernel_rfl) rfl rfl ⟨md7, md8⟩ (fun hHeld => ?_)
  generalize (W.setCell ⟨g, 6, none⟩ (.int .i64 0)).drew = we at md7 md8 HXE HKE HBE hHeld ⊢
  refine pure_ (i := 0) (N := some 27) (v := ?_) (a' := ?_) #[true, false, false, false, false, false, false, false, false, false] rfl rfl (by kernel_rfl) (fun _ _ _ h => h) (Or.inl ⟨by rfl, ?_⟩) ?_ ?_
  rotate_left
  · intro w'
    go_simp
    with_reducible rfl
  rotate_left
  · simp only [Act.put, List.setIfInBounds_toArray, List.set_cons_zero, List.set_cons_succ, i64_w, i32_w]
    rfl
  refine pure_ (i := 1) (N := some 28) (v := ?_) (a' := ?_) #[true, true, false, false, false, false, false, false, false, false] rfl rfl (by kernel_rfl) (fun _ _ _ h => h) (Or.inl ⟨by rfl, ?_⟩) ?_ ?_
  rotate_left
  · intro w'
    go_simp
    with_reducible rfl
  rotate_left
  · simp only [Act.put, List.setIfInBounds_toArray, List.set_cons_zero, List.set_cons_succ, i64_w, i32_w]
    rfl
  refine pure_ (i := 2) (N := some 29) (v := ?_) (a' := ?_) #[true, true, true, false, false, false, false, false, false, false] rfl rfl (by kernel_rfl) (fun _ _ _ h => h) (Or.inl ⟨by rfl, ?_⟩) ?_ ?_
  rotate_left
  · intro w'
    go_simp
    with_reducible rfl
  rotate_left
  · simp only [Act.put, List.setIfInBounds_toArray, List.set_cons_zero, List.set_cons_succ, i64_w, i32_w]
    rfl
  refine pure_ (i := 3) (N := some 30) (v := ?_) (a' := ?_) #[true, true, true, true, false, false, false, false, false, false] rfl rfl (by kernel_rfl) (fun _ _ _ h => h) (Or.inl ⟨by rfl, ?_⟩) ?_ ?_
  rotate_left
  · intro w'
    go_simp
    with_reducible rfl
  rotate_left
  · simp only [Act.put, List.setIfInBounds_toArray, List.set_cons_zero, List.set_cons_succ, i64_w, i32_w]
    rfl
  refine pure_ (i := 5) (N := some 32) (v := ?_) (a' := ?_) #[true, true, true, true, false, true, false, false, false, false] rfl rfl (by kernel_rfl) (fun _ _ _ h => h) (Or.inl ⟨by rfl, ?_⟩) ?_ ?_
  rotate_left
  · intro w'
    go_simp
    with_reducible rfl
  rotate_left
  · simp only [Act.put, List.setIfInBounds_toArray, List.set_cons_zero, List.set_cons_succ, i64_w, i32_w]
    rfl
  refine pure_ (i := 6) (N := some 33) (v := ?_) (a' := ?_) #[true, true, true, true, false, true, true, false, false, false] rfl rfl (by kernel_rfl) (fun _ _ _ h => h) (Or.inl ⟨by rfl, ?_⟩) ?_ ?_
  rotate_left
  · intro w'
    go_simp
    with_reducible rfl
  rotate_left
  · simp only [Act.put, List.setIfInBounds_toArray, List.set_cons_zero, List.set_cons_succ, i64_w, i32_w]
    rfl
  refine pure_ (i := 7) (N := some 34) (v := ?_) (a' := ?_) #[true, true, true, true, false, true, true, true, false, false] rfl rfl (by kernel_rfl) (fun _ _ _ h => h) (Or.inl ⟨by rfl, ?_⟩) ?_ ?_
  rotate_left
  · intro w'
    go_simp
    with_reducible rfl
  rotate_left
  · simp only [Act.put, List.setIfInBounds_toArray, List.set_cons_zero, List.set_cons_succ, i64_w, i32_w]
    rfl
  refine take_ (i := 4) (N := some 31) (v := ?_) (a' := ?_) #[true, true, true, true, true, true, true, true, false, false] rfl rfl (by kernel_rfl) (fun _ _ _ h => h) (Or.inl ⟨by rfl, ?_⟩) hHeld ?_ ?_
  rotate_left
  · rintro w' ⟨s0, s1⟩
    go_simp
    with_reducible rfl
  rotate_left
  · simp only [Act.put, List.setIfInBounds_toArray, List.set_cons_zero, List.set_cons_succ, i64_w, i32_w]
    rfl
  refine take_ (i := 8) (N := some 35) (v := ?_) (a' := ?_) #[true, true, true, true, true, true, true, true, true, false] rfl rfl (by kernel_rfl) (fun _ _ _ h => h) (Or.inl ⟨by rfl, ?_⟩) hHeld ?_ ?_
  rotate_left
  · rintro w' ⟨s0, s1⟩
    go_simp
    with_reducible rfl
  rotate_left
  · simp only [Act.put, List.setIfInBounds_toArray, List.set_cons_zero, List.set_cons_succ, i64_w, i32_w]
    rfl
  refine one_ (i := 9) (N := some 36) #[true, true, true, true, true, true, true, true, true, true] rfl rfl (by kernel_rfl) (by decide) (fun K hK => ?_)
  refine goes_ Tryd.func57 (by kernel_rfl) rfl #[.pointer (some ⟨g, 0, none⟩), .slice Ak s.keep.length ck, .int .i64 s.torn] (by rfl) rfl rfl (by simp only [List.map_toArray, List.map_cons, List.map_nil]; rfl) ?_
  with_reducible refine (Crash_calls we B g { s with fuse := 0 } vn vl vw (.slice Ak s.keep.length ck) Ak ck s.keep s.torn HXE.out HWW.out HO.out HGL.out HZ.out (fun W' hK => (Kd.V_reads' (Kd.V_kept HXE.out.k hK fun k h => h.2.1)).2.2) (Kd.V_reads' HXE.out.k).2.1 HKL.out).mono ?_
  rintro e wF ⟨vl', rfl, hXF, hKF, hBF⟩
  refine ⟨_, rfl, ?_⟩
  refine hK.out _ _ ⟨hXF.cells.2.2.2.2.2.2.2.1, hXF.cells.2.2.2.2.2.2.2.2⟩ (fun hHeld => ?_)
  clear hK K
  refine norm_ (a' := ?_) ?_ ?_
  rotate_left
  · show Act.put _ (some 36) _ = _
    simp only [Act.put, List.setIfInBounds_toArray, List.set_cons_zero, List.set_cons_succ, i64_w, i32_w]
    rfl
  refine done_ (by kernel_rfl) ?_
  have c4 := hXF.cells.2.2.2.2.1
  have HXF := Aside0.mk hXF
  have HKF := Aside0.mk (HKE.out.then_ hKF fun k h => .inl h)
  have HBF := Aside0.mk (HBE.out.trans hBF)
  clear hXF hKF hBF hHeld md7 md8
  go_wp2_with (fail)
  go_ret
  first
    | exact ⟨_, rfl, HXF.out, HKF.out, HBF.out⟩
    | exact ⟨rfl, ⟨_, HXF.out⟩, HKF.out, HBF.out⟩
set_option maxHeartbeats 8000000 in
set_option maxRecDepth 100000 in
theorem Do_fall (W : World) (B g : Nat) (s : Dk) (vn vl vw vk : Value) (c : S61) (A3 : Option Addr) (c3 : Nat) (h : At W B g s vn vl vw vk) (hf : s.fuse = 1) (ho : s.off = false) (hw : s.waits.length ≤ 100000) (hgl : GT30 s.last) (hz : ∀ x ∈ s.waits, okG x) (hkl : s.keep.length ≤ 100000) :
    Calls Tryd.prog 34 #[.pointer (some ⟨g, 0, none⟩), .agg #[.int .i64 c.f0, .string c.f1, .string c.f2, .slice A3 c.f3.length c3]] W fun e w' => ∃ vl', e = .returned (.int .i64 15) ∧ At w' B g (fallD s s.keep s.torn) vl' vl' (.slice none 0 0) vk ∧ Kept W w' (fun k => k = g) ∧ Below B W w' := by
  have hu101 := Tryd.underlying101
  have hu61 := Tryd.underlying61
  have hb0 := below_alloc (Below.refl W.heap.size W) (.cells #[.int .i64 c.f0, .string c.f1, .string c.f2, .slice A3 c.f3.length c3] 61)
  have h1 := h.below hb0
  have HB0 := Aside0.mk (h.thenB (Below.refl B W) hb0)
  have HK0 : Aside0 (Kept W (W.alloc (.cells #[.int .i64 c.f0, .string c.f1, .string c.f2, .slice A3 c.f3.length c3] 61)) (fun k => k = g)) := ⟨Kept.of_below hb0 _⟩
  have hbg := begin_fall _ B g s vn vl vw vk h1 hf ho hw hgl hz hkl
  clear h h1 hb0 hf ho hw hgl hz hkl
  go_enter Tryd.func34, Tryd.ntmps34
  go_wp2_with (fail)
  refine hbg.mono ?_
  rintro e W2 ⟨vl', rfl, hX2, hK2, hB2⟩
  have HX2 := Aside0.mk hX2
  have HK2 := Aside0.mk (HK0.out.then_ hK2 fun k h => .inl h)
  have HB2 := Aside0.mk (HB0.out.trans hB2)
  clear hX2 hK2 hB2
  dsimp only
  go_wp2_with (fail)
  go_ret
  first
    | exact ⟨_, rfl, HX2.out, HK2.out, HB2.out⟩
    | exact ⟨rfl, ⟨_, HX2.out⟩, HK2.out, HB2.out⟩
set_option maxHeartbeats 8000000 in
set_option maxRecDepth 100000 in
theorem Sync_off (W : World) (B g : Nat) (s : Dk) (vn vl vw vk : Value) (h : At W B g s vn vl vw vk) (hf : s.fuse ≤ 0) (ho : s.off = true) :
    Calls Tryd.prog 58 #[.pointer (some ⟨g, 0, none⟩)] W fun e w' => e = .returned (.int .i64 15) ∧ w' = W := by
  have hbg := begin_calls W B g s vn vl vw vk h hf
  rw [ho] at hbg
  clear h
  go_enter Tryd.func58, Tryd.ntmps58
  go_wp2_with (fail)
  refine hbg.mono ?_
  rintro e W1 ⟨rfl, rfl⟩
  dsimp only
  go_wp2_with (fail)
  go_ret
  exact ⟨rfl, rfl⟩
end Go.Proofs.YtidlldfghkaeeaaDoor.P
end
section
namespace Go.Proofs.YtidlldfghkaeeaaDoor.P
open Go.RowKit Go.Proofs.YtidlldfghkaeeaaDoorW.PrintWords Go.Proofs.YtidlldfghkaeeaaDoorW.PrintLast Go.Proofs.YtidlldfghkaeeaaDoorW.PrintMore
set_option linter.unusedVariables false
set_option linter.unusedSimpArgs false
attribute [local go_sem] max2_int min2_int max_two min_two
set_option maxHeartbeats 8000000 in
set_option maxRecDepth 100000 in
theorem Fuse_calls (W : World) (B g : Nat) (s : Dk) (vn vl vw vk : Value) (n torn : Int) (A2 : Option Addr) (c2 : Nat) (l2 : List Int) (h : At W B g s vn vl vw vk) (ho : s.off = false) (hn : 0 ≤ n) (hC : Kd.C (Kd.int .i64) W A2 l2.length l2) (hc2 : l2.length ≤ c2) (hl2 : l2.length ≤ 100000) :
    Calls Tryd.prog 60 #[.pointer (some ⟨g, 0, none⟩), .int .i64 n, .slice A2 l2.length c2, .int .i64 torn] W fun e w' => ∃ vk', e = .returned (.tuple #[]) ∧ At w' B g { s with fuse := n, keep := l2, torn := torn } vn vl vw vk' ∧ Kept W w' (fun k => k = g) ∧ Below B W w' := by
  have hu101 := Tryd.underlying101
  have HH := Aside0.mk h
  have HC := Aside0.mk hC
  have HL := Aside0.mk hl2
  have fz := h.frozen
  obtain ⟨c0, c1, c2', c3, c4, c5, c6, c7, c8⟩ := h.cells
  rw [ho] at c4
  have hmx : max n 0 = n := by omega
  clear h hC hl2
  go_enter Tryd.func60, Tryd.ntmps60
  go_wp2_with (fail)
  refine (slices_Clone_int_int.calls A2 c2 l2 l2 W HC.out hc2 ?_).mono ?_
  · unfold slices_Clone_int_int.f
    rw [Option.bind_some, if_pos (by rw [List.length_nil]; have := HL.out; omega)]
    rfl
  rintro e W1 ⟨v1, rfl, hR, hb⟩
  obtain ⟨A4, c4', rfl⟩ := Kd.R_slice hR
  have hX1 := HH.out.below hb
  have HX1 := Aside0.mk hX1
  have HB1 := Aside0.mk (HH.out.thenB (Below.refl B W) hb)
  have HK1 : Aside0 (Kept W W1 (fun k => k = g)) := ⟨Kept.of_below hb _⟩
  have HR1 := Aside0.mk (Kd.R_bound hR)
  have HW1 : Aside0 (g < W.heap.size ∧ ∀ k, vw.ownBlock = some k → k < W.heap.size) := ⟨blk_lt HH.out.hg, Kd.N_lt HH.out.w⟩
  have fz := hX1.frozen
  obtain ⟨c0, c1, c2', c3, c4, c5, c6, c7, c8⟩ := hX1.cells
  clear hX1 hb hR
  dsimp only
  go_wp2_with (fail)
  go_end0
  have hk1 := blk_put HX1.out.hg 6 (.int .i64 n) (cs' := #[.int .i64 s.q, vn, vl, vw, .bool s.off, .int .i64 s.count, .int .i64 n, vk, .int .i64 s.torn]) rfl
  have hk2 := blk_put hk1 7 (.slice A4 l2.length c4') (cs' := #[.int .i64 s.q, vn, vl, vw, .bool s.off, .int .i64 s.count, .int .i64 n, .slice A4 l2.length c4', .int .i64 s.torn]) rfl
  have hk3 := blk_put hk2 8 (.int .i64 torn) (cs' := #[.int .i64 s.q, vn, vl, vw, .bool s.off, .int .i64 s.count, .int .i64 n, .slice A4 l2.length c4', .int .i64 torn]) rfl
  have hK := Ke_set (Ke_set (Ke_set (Kept.refl W1 (fun k => k = g)) 6 (.int .i64 n)) 7 (.slice A4 l2.length c4')) 8 (.int .i64 torn)
  refine ⟨.slice A4 l2.length c4', rfl, At.turn hK HX1.out.hB hk3 HX1.out.n HX1.out.l HX1.out.w ?_, HK1.out.then_ hK fun k h => .inl h, Be_set (Be_set (Be_set HB1.out HX1.out.hB 6 _) HX1.out.hB 7 _) HX1.out.hB 8 _⟩
  refine ⟨A4, c4', rfl, (Kd.R_reads' HR1.out).2.1, Kd.R_F (Kd.R_mono HR1.out fun k hk => ?_)⟩
  have h1 := HX1.out.hB
  have h2 := HW1.out.1
  refine ⟨by omega, by omega, fun e => ?_⟩
  have := HW1.out.2 k e.symm
  omega
set_option maxHeartbeats 8000000 in
set_option maxRecDepth 100000 in
theorem Do_off (W : World) (B g : Nat) (s : Dk) (vn vl vw vk : Value) (c : S61) (A3 : Option Addr) (c3 : Nat) (h : At W B g s vn vl vw vk) (hf : s.fuse ≤ 0) (ho : s.off = true) :
    Calls Tryd.prog 34 #[.pointer (some ⟨g, 0, none⟩), .agg #[.int .i64 c.f0, .string c.f1, .string c.f2, .slice A3 c.f3.length c3]] W fun e w' => e = .returned (.int .i64 15) ∧ Below W.heap.size W w' := by
  have hu101 := Tryd.underlying101
  have hu61 := Tryd.underlying61
  have hb0 := below_alloc (Below.refl W.heap.size W) (.cells #[.int .i64 c.f0, .string c.f1, .string c.f2, .slice A3 c.f3.length c3] 61)
  have h1 := h.below hb0
  have hbg := begin_calls _ B g s vn vl vw vk h1 hf
  rw [ho] at hbg
  clear h h1
  go_enter Tryd.func34, Tryd.ntmps34
  go_wp2_with (fail)
  refine hbg.mono ?_
  rintro e W2 ⟨rfl, rfl⟩
  dsimp only
  go_wp2_with (fail)
  go_ret
  exact ⟨rfl, hb0⟩
theorem Do_live (W : World) (B g : Nat) (s : Dk) (vn vl vw vk : Value) (c : S61) (A3 : Option Addr) (c3 : Nat) (h : At W B g s vn vl vw vk) (hof : s.off = false) (hf : s.fuse ≤ 0) (hgt : GT30 s.now) (hr : ∀ W', Kept W W' (fun k => k = g ∨ vw.ownBlock = some k) → Kd.C (Kd.int .u8) W' A3 c.f3.length c.f3) (hc3 : c.f3.length ≤ c3) (hg : okG c) (hw : s.waits.length ≤ 100000) :
    Calls Tryd.prog 34 #[.pointer (some ⟨g, 0, none⟩), .agg #[.int .i64 c.f0, .string c.f1, .string c.f2, .slice A3 c.f3.length c3]] W fun e w' => ∃ vn' vw', e = .returned (.int .i64 (do0 s c).2) ∧ AtO W w' B g (do0 s c).1 vn' vl vw vw' vk ∧ Kept W w' (fun k => k = g ∨ vw.ownBlock = some k) ∧ Below B W w' := by
  refine DoG_calls W B g s s vn vl vw vk c A3 c3 h hof (fun W1 h1 => (begin_calls W1 B g s vn vl vw vk h1 hf).mono ?_) hgt hr hc3 hg hw
  rintro e w' ⟨rfl, rfl⟩
  rw [hof]
  exact ⟨rfl, h1, Kept.refl _ _, Below.refl _ _⟩
theorem Do_burn (W : World) (B g : Nat) (s : Dk) (vn vl vw vk : Value) (c : S61) (A3 : Option Addr) (c3 : Nat) (h : At W B g s vn vl vw vk) (hof : s.off = false) (hf : 1 < s.fuse) (hf2 : s.fuse ≤ 1000000) (hgt : GT30 s.now) (hr : ∀ W', Kept W W' (fun k => k = g ∨ vw.ownBlock = some k) → Kd.C (Kd.int .u8) W' A3 c.f3.length c.f3) (hc3 : c.f3.length ≤ c3) (hg : okG c) (hw : s.waits.length ≤ 100000) :
    Calls Tryd.prog 34 #[.pointer (some ⟨g, 0, none⟩), .agg #[.int .i64 c.f0, .string c.f1, .string c.f2, .slice A3 c.f3.length c3]] W fun e w' => ∃ vn' vw', e = .returned (.int .i64 (do0 { s with fuse := s.fuse - 1 } c).2) ∧ AtO W w' B g (do0 { s with fuse := s.fuse - 1 } c).1 vn' vl vw vw' vk ∧ Kept W w' (fun k => k = g ∨ vw.ownBlock = some k) ∧ Below B W w' :=
  DoG_calls W B g s { s with fuse := s.fuse - 1 } vn vl vw vk c A3 c3 h hof (fun W1 h1 => begin_fuse W1 B g s vn vl vw vk h1 hf hf2 hof) hgt hr hc3 hg hw
theorem okT_z : okT [z30] := by decide
set_option maxHeartbeats 8000000 in
set_option maxRecDepth 100000 in
theorem New_badT (A : Option Addr) (c : Nat) (q : Int) (w : World) (hC : Kd.C k30 w A [z30].length [z30]) (hc : [z30].length ≤ c) :
    Calls Tryd.prog 32 #[.agg #[.slice A [z30].length c], .int .i64 q] w fun e w' => e = .returned (.tuple #[.pointer none, .int .i64 1]) ∧ Below w.heap.size w w' := by
  have hu26 := Tryd.underlying26
  have hu101 := Tryd.underlying101
  have hge := tree_Good.eq okT_z
  rw [decide_eq_false (show ¬GT30 [z30] by decide)] at hge
  have k2 := blk_new w (.cells #[.slice A [z30].length c] 26)
  have b0 := below_alloc (Below.refl w.heap.size w) (.cells #[.slice A [z30].length c] 26)
  have m20 := blk_cell k2 0
  have HC := Aside0.mk (Kd.C_below hC b0)
  clear hC
  go_enter Tryd.func32, Tryd.ntmps32
  go_wp2_with (fail)
  refine (tree_Good.calls A c [z30] false _ HC.out hc hge).mono ?_
  rintro e W1 ⟨rfl, hb1⟩
  have b1 := b0.trans (hb1.mono b0.size)
  clear m20 k2 b0 hb1 hge
  dsimp only
  go_wp2_with (fail)
  go_ret2
  exact ⟨rfl, b1⟩
end Go.Proofs.YtidlldfghkaeeaaDoor.P
end
section
namespace Go.Proofs.YtidlldfghkaeeaaDoor.P
open Go.RowKit Go.Proofs.YtidlldfghkaeeaaDoorW.PrintWords Go.Proofs.YtidlldfghkaeeaaDoorW.PrintLast Go.Proofs.YtidlldfghkaeeaaDoorW.PrintMore
set_option linter.unusedVariables false
set_option linter.unusedSimpArgs false
set_option maxHeartbeats 8000000 in
set_option maxRecDepth 100000 in
theorem Waits_calls (W : World) (B g : Nat) (s : Dk) (vn vl vw vk : Value) (h : At W B g s vn vl vw vk) (hw : s.waits.length ≤ 100000) (hz : ∀ x ∈ s.waits, x.f3.length ≤ 1000000000000) :
    Calls Tryd.prog 56 #[.pointer (some ⟨g, 0, none⟩)] W fun e w' => ∃ v, e = .returned v ∧ Kd.N k61 61 w' W.heap.size (fun k => W.heap.size ≤ k) v s.waits ∧ Below W.heap.size W w' := by
  have hu101 := Tryd.underlying101
  have hu61 := Tryd.underlying61
  have HH := Aside0.mk h
  have HW := Aside0.mk hw
  have HZ := Aside0.mk hz
  obtain ⟨c0, c1, c2, c3, c4, c5, c6, c7, c8⟩ := h.cells
  obtain ⟨Aw, cw, hvw⟩ := Kd.N_slice h.w
  subst hvw
  clear h hw hz c0 c1 c2 c4 c5 c6 c7 c8
  go_enter Tryd.func56, Tryd.ntmps56
  go_wp2_with (fail)
  go_loopg [3, 5, 11, 12, 13, 14, 15, 16, 17, 18, 19, 20] s.waits.length (fun gg s3 _ s11 _ _ _ _ _ _ _ _ _ wr => ∃ (i : Nat) (A : Option Addr) (m c : Nat), i ≤ s.waits.length ∧ gg = s.waits.length - i ∧ s11 = .int .i64 i ∧ s3 = .slice A m c ∧ Kd.N k61 61 wr W.heap.size (fun k => W.heap.size ≤ k) (.slice A m c) (s.waits.take i) ∧ Below W.heap.size W wr)
  case atStart => exact ⟨0, none, 0, 0, Nat.zero_le _, rfl, rfl, rfl, Kd.N_nil _ _ _ _ _, Below.refl _ _⟩
  case round =>
    obtain ⟨i, A7, m7, c7, hi, rfl, rfl, rfl, hN, hb⟩ := hrel
    by_cases a : i < s.waits.length
    · have a1 : decide ((i : Int) < (s.waits.length : Int)) = true := decide_eq_true (by omega)
      have hC := Kd.C_below (Kd.N_reads' HH.out.w).2.2 hb
      obtain ⟨ad, A3, c3', ead, K0, K1, K2, K3, hc3, hC3⟩ := at_T61 hC (i : Int) (by omega) (by omega)
      rw [rd61 a, Int.toNat_natCast] at K0 K1 K2 K3
      rw [rd61 a] at hc3 hC3
      subst ead
      have ht : s.waits.take (i + 1) = s.waits.take i ++ [s.waits[i]] := by rw [List.take_add_one, List.getElem?_eq_getElem a]; rfl
      have hz := HZ.out _ (List.getElem_mem a)
      obtain ⟨X, hX⟩ : ∃ X, X = s.waits[i] := ⟨_, rfl⟩
      rw [← hX] at K0 K1 K2 K3 hc3 hC3 ht hz
      have HT := Aside0.mk ht
      have HN := Aside0.mk hN
      have HC3 := Aside0.mk hC3
      clear hX hC ht hN hC3
      go_wp2_with (fail)
      have hbs := below_alloc (Below.refl wr.heap.size wr) (.cells #[.int .i64 X.f0, .string X.f1, .string X.f2, .slice A3 X.f3.length c3'] 61)
      refine (disk_Change_own.calls X.f0 X.f1 X.f2 A3 c3' X.f3 X.f0 X.f1 X.f2 X.f3 _ (Kd.C_below HC3.out hbs) hc3 (own61_eq hz)).mono ?_
      rintro e wB ⟨v5, rfl, hR5, hbB⟩
      obtain ⟨A5, c5, rfl⟩ := Kd.R_slice hR5
      have hsz : (wr.alloc (.cells #[.int .i64 X.f0, .string X.f1, .string X.f2, .slice A3 X.f3.length c3'] 61)).heap.size = wr.heap.size + 1 := World.size_alloc _ _
      generalize wr.alloc (.cells #[.int .i64 X.f0, .string X.f1, .string X.f2, .slice A3 X.f3.length c3'] 61) = wa at *
      have hFK : Kd.FK k61 wB (fun k => wa.heap.size ≤ k ∧ k < wB.heap.size) X [.int .i64 X.f0, .string X.f1, .string X.f2, .slice A5 X.f3.length c5] := k61_mkF wB _ X (Kd.R_reads' hR5).2.1 (Kd.R_F (Kd.R_mono (Kd.R_bound hR5) fun k hk => ⟨hk.2.1, hk.2.2.1⟩))
      have hbT := hb.trans ((hbs.mono hb.size))
      have hbU := hbT.trans (hbB.mono hbT.size)
      have hNB := Kd.N_below (Kd.N_below HN.out hbs) hbB
      have hlt := Kd.N_lt HN.out
      have hszB := hbB.size
      have hsz0 := hb.size
      have hll : ((s.waits.take i).length + 1) * 64 ≤ 140737488355328 := by
        have := HW.out
        rw [List.length_take]
        omega
      have HNB := Aside0.mk hNB
      have HFK := Aside0.mk hFK
      have HBU := Aside0.mk hbU
      clear hNB hFK hbU hbT hbs hbB hR5 HC3 HN K0 K1 K2 K3 hb
      dsimp only
      go_wp2_with (at_builtin; refine Kd.N_append k61 (w0 := W) W.heap.size rfl (.tmp 15) (.tmp 18) 56 61 _ 64 rfl Tryd.underlying56 info61 rfl (by decide) (by omega) (.slice A7 m7 c7) (s.waits.take i) X [.int .i64 X.f0, .string X.f1, .string X.f2, .slice A5 X.f3.length c5] (fun k => W.heap.size ≤ k) (fun k => wa.heap.size ≤ k ∧ k < wB.heap.size) rfl rfl HFK.out (fun k hk => ⟨by omega, fun e => by have := hlt k e.symm; omega⟩) (fun k hk => by omega) HNB.out HBU.out HBU.out.size hll ?_; intro v1 w1 hN1 hB1 hG1 hat1)
      rw [← HT.out] at hN1
      obtain ⟨A8, c8, rfl⟩ := Kd.N_slice hN1
      obtain ⟨m8, hm8⟩ : ∃ m8, m8 = (s.waits.take (i + 1)).length := ⟨_, rfl⟩
      rw [← hm8] at hN1 ⊢
      clear hm8
      have hw1 : wrap64 ((i : Int) + 1) = ((i + 1 : Nat) : Int) := by have := HW.out; exact wr1 (by omega)
      have HN1 := Aside0.mk hN1
      clear hN1 hG1 hat1 hlt
      go_wp2_with (fail)
      go_roundg (s.waits.length - (i + 1))
      case measure => omega
      case rel => exact ⟨i + 1, A8, m8, c8, by omega, rfl, by first | rfl | rw [hw1], rfl, HN1.out, hB1⟩
    · have a1 : decide ((i : Int) < (s.waits.length : Int)) = false := decide_eq_false (by omega)
      rw [List.take_of_length_le (by omega)] at hN
      have HN := Aside0.mk hN
      clear hN
      go_wp2_with (fail)
      go_ret
      exact ⟨_, rfl, HN.out, hb⟩
end Go.Proofs.YtidlldfghkaeeaaDoor.P
end
section
namespace Go.Proofs.YtidlldfghkaeeaaDoor.P
open Go.RowKit Go.Proofs.YtidlldfghkaeeaaDoorW.PrintWords Go.Proofs.YtidlldfghkaeeaaDoorW.PrintLast Go.Proofs.YtidlldfghkaeeaaDoorW.PrintMore
set_option linter.unusedVariables false
set_option linter.unusedSimpArgs false
instance : DecidableEq S30 := fun a b => if h : a.f0 = b.f0 ∧ a.f1 = b.f1 ∧ a.f2 = b.f2 then isTrue (by cases a; cases b; simp_all) else isFalse (by rintro rfl; exact h ⟨rfl, rfl, rfl⟩)
def tallymanlaw8_awake.f : Option Bool := some true
end Go.Proofs.YtidlldfghkaeeaaDoor.P
end
section
namespace Go.Proofs.YtidlldfghkaeeaaDoor.P
open Go.RowKit Go.Proofs.YtidlldfghkaeeaaDoorW.PrintWords Go.Proofs.YtidlldfghkaeeaaDoorW.PrintLast Go.Proofs.YtidlldfghkaeeaaDoorW.PrintMore
set_option linter.unusedVariables false
set_option linter.unusedSimpArgs false
theorem fld26 (v : Value) (W : World) : (Instr.field 26 (.agg #[v]) 0).run Tryd.prog W = .ok v W := by kernel_rfl
def dw1 : List S30 := [⟨⟨#[97]⟩, false, [120, 121]⟩]
def dwc : S61 := ⟨1, ⟨#[97]⟩, ⟨#[]⟩, [120, 121]⟩
theorem dw_done : done0 [] dwc = (dw1, 0) := by decide +kernel
def dw0 : Dk := ⟨99, [], [], [], false, 0, 0, [], 0⟩
theorem dw_do : do0 dw0 dwc = ({ dw0 with now := dw1, waits := [dwc], count := wrap64 (0 + 1) }, 0) := by
  unfold do0
  have h : done0 dw0.now dwc = (dw1, 0) := dw_done
  rw [if_neg (by decide), h, if_neg (by decide), if_neg (by decide)]
  rfl
theorem dw_okG : okG dwc := ⟨by decide, by decide, by decide⟩
theorem dw_GT : GT30 dw1 := by have := done0_GT (c := dwc) GT_nil30; rw [dw_done] at this; exact this
set_option maxHeartbeats 8000000 in
set_option maxRecDepth 100000 in
theorem awake9_calls (w : World) :
    Calls Tryd.prog 31 #[] w fun e w' => e = .returned (.bool true) ∧ Below w.heap.size w w' := by
  have hu26 := Tryd.underlying26
  have hu61 := Tryd.underlying61
  have hf26 := fld26
  go_enter Tryd.func31, Tryd.ntmps31
  go_wp2_with (fail)
  refine (New_calls 99 w (by decide)).mono ?_
  rintro e W1 ⟨g, vn, vl, rfl, hX1, hb1⟩
  dsimp only
  have HX1 := Aside0.mk hX1
  have HB1 := Aside0.mk hb1
  clear hX1 hb1
  go_wp2_with ((with_reducible refine gate_dst (N := 18) rfl ?_); refine V_mlit (xs := [120, 121]) (n := 2) (N := 18) ?hg ?hd (.tmp 17) (t := 23) (e := 5) rfl rfl Tryd.underlying23 Tryd.underlying5 rfl rfl (by decide) ?_; (case hd => rfl); (case hg => rfl); intro vx wx hv bx hg_ hnew; refine Stop.out ?_)
  obtain ⟨Ax, cx, rfl⟩ := Kd.V_slice hv
  have HV := Aside0.mk hv
  have HBX := Aside0.mk bx
  clear hv bx hg_ hnew
  constructor
  go_wp2_with (fail)
  have hX2 := HX1.out.below HBX.out
  have hcx := (Kd.V_reads' HV.out).2.1
  have hgW := blk_lt HX1.out.hg
  refine (Do_calls wx w.heap.size g dw0 vn vl (.slice none 0 0) (.slice none 0 0) dwc Ax cx hX2 (Int.le_refl 0) GT_nil30 (fun W' hK => (Kd.V_reads' (Kd.V_kept HV.out hK fun k hk h => ?_)).2.2) hcx dw_okG (Nat.zero_le _)).mono ?_
  · rcases h with h | h
    · omega
    · cases h
  rintro e W3 ⟨vn3, vw3, rfl, hX3, hK3, hB3⟩
  rw [dw_do] at hX3 ⊢
  have HX3 := Aside0.mk hX3
  have HK3 := Aside0.mk ((HX1.out.thenB HB1.out HBX.out).trans hB3)
  clear hX3 hK3 hB3 hX2 hcx hgW
  dsimp only
  go_wp2_with (fail)
  refine (Now_calls W3 w.heap.size g _ vn3 vl vw3 (.slice none 0 0) HX3.out (GT_okC dw_GT)).mono ?_
  rintro e W4 ⟨v4, rfl, hv4, hb4⟩
  obtain ⟨A4, c4, rfl⟩ := Kd.V_slice hv4
  have HX4 := Aside0.mk (HX3.out.below hb4)
  have HK4 := Aside0.mk (HX3.out.thenB HK3.out hb4)
  clear hv4 hb4
  dsimp only
  go_wp2_with (fail)
  refine (Crash_nil W4 w.heap.size g _ vn3 vl vw3 (.slice none 0 0) (-1) HX4.out (by decide) rfl).mono ?_
  rintro e W5 ⟨rfl, hX5, hK5, hB5⟩
  have HX5 := Aside0.mk hX5
  have HK5 := Aside0.mk (HK4.out.trans hB5)
  clear hX5 hK5 hB5
  dsimp only
  go_wp2_with (fail)
  refine (Now_calls W5 w.heap.size g _ vl vl (.slice none 0 0) (.slice none 0 0) HX5.out (GT_okC GT_nil30)).mono ?_
  rintro e W6 ⟨v6, rfl, hv6, hb6⟩
  obtain ⟨A6, c6, rfl⟩ := Kd.V_slice hv6
  have HX6 := Aside0.mk (HX5.out.below hb6)
  have HK6 := Aside0.mk (HX5.out.thenB HK5.out hb6)
  clear hv6 hb6
  dsimp only
  go_wp2_with (fail)
  refine (Off_calls W6 w.heap.size g _ vl vl (.slice none 0 0) (.slice none 0 0) HX6.out).mono ?_
  rintro e W7 ⟨rfl, rfl⟩
  dsimp only
  go_wp2_with (fail)
  go_ret
  exact ⟨rfl, HK6.out⟩
end Go.Proofs.YtidlldfghkaeeaaDoor.P
end
section
namespace Go.Proofs.YtidlldfghkaeeaaDoor.P
open Go.RowKit Go.Proofs.YtidlldfghkaeeaaDoorW.PrintWords Go.Proofs.YtidlldfghkaeeaaDoorW.PrintLast Go.Proofs.YtidlldfghkaeeaaDoorW.PrintMore
set_option linter.unusedVariables false
set_option linter.unusedSimpArgs false
theorem C_blk {k : IntKind} {W : World} {b : Nat} {ty : TypeId} (xs : List Int) {cs : Array Value} (h : W.heap[b]? = some (.cells cs ty (0, 0))) (hx : cs = (xs.map (Value.int k)).toArray) (hl : xs.length ≤ 1000) : Kd.C (Kd.int k) W (some ⟨b, 0, none⟩) xs.length xs := by
  refine Kd.C_of_reads (d := 0) ⟨rfl, by omega, fun _ => ⟨_, rfl, fun j hj => ?_⟩⟩
  rw [add_plain, blk_cell h, hx, List.getElem?_toArray, List.getElem?_map, List.getD_eq_getElem?_getD, List.getElem?_eq_getElem hj]
  rfl
theorem C_kept {k : IntKind} {W : World} {b : Nat} {ty : TypeId} {S : Nat → Prop} (xs : List Int) {cs : Array Value} (h : W.heap[b]? = some (.cells cs ty (0, 0))) (hx : cs = (xs.map (Value.int k)).toArray) (hl : xs.length ≤ 1000) (hS : ¬ S b) (W' : World) (hK : Kept W W' S) : Kd.C (Kd.int k) W' (some ⟨b, 0, none⟩) xs.length xs := C_blk xs ((hK.2 b (blk_lt h) hS).trans h) hx hl
theorem C_nil0 {α : Type} (d : Kd α) (W : World) : Kd.C d W none ([] : List α).length [] := ⟨rfl, by simp, fun h => absurd h (by simp)⟩
/-- A tree in a box, all of it below N. -/
structure TBx (W : World) (N g b : Nat) (v : Value) (l : List S30) : Prop where
  hb : W.heap[b]? = some (.cells #[v] 26 (0, 0))
  hv : Kd.V k30 30 W 0 (fun k => k < N ∧ k ≠ g) v l
  ne : b ≠ g
  lt : b < N
theorem TBx.kept {W W' : World} {N g b : Nat} {v : Value} {l : List S30} {S : Nat → Prop} (h : TBx W N g b v l) (hK : Kept W W' S) (hS : ∀ k, S k → k = g ∨ N ≤ k) : TBx W' N g b v l :=
  ⟨(hK.2 b (blk_lt h.hb) (fun hs => (hS b hs).elim h.ne fun e => absurd h.lt (by omega))).trans h.hb, Kd.V_kept h.hv hK (fun k hk hs => (hS k hs).elim hk.2 fun e => absurd hk.1 (by omega)), h.ne, h.lt⟩
theorem TBx.below {W W' : World} {N g b : Nat} {v : Value} {l : List S30} (h : TBx W N g b v l) (hb : Below W.heap.size W W') : TBx W' N g b v l := ⟨(hb.block _ (blk_lt h.hb)).trans h.hb, Kd.V_below h.hv hb, h.ne, h.lt⟩
theorem C_one {α : Type} (d : Kd α) {W : World} {b : Nat} {ty : TypeId} (x : α) {cs : Array Value} (h : W.heap[b]? = some (.cells cs ty (0, 0))) (hx : d.K W x cs.toList) (hs : cs.size = d.sz) : Kd.C d W (some ⟨b, 0, none⟩) [x].length [x] := by
  refine ⟨rfl, by simp, fun _ => ⟨_, rfl, fun j p hj => ?_⟩⟩
  obtain ⟨hj0, rfl⟩ : j = 0 ∧ x = p := by
    cases j with
    | zero => exact ⟨rfl, by simpa using hj⟩
    | succ j => simp at hj
  subst hj0
  refine ⟨cs.toList, by rw [Array.length_toList, hs], hx, fun i u hu => ?_⟩
  rw [add_plain, blk_cell h, Nat.zero_mul, Nat.zero_add, ← Array.getElem?_toList]
  exact hu
/-! #### the disk's states -/
def kA : ByteArray := ⟨#[97]⟩
def kB : ByteArray := ⟨#[98]⟩
def kBC : ByteArray := ⟨#[98, 47, 99]⟩
def cPut : S61 := ⟨1, kA, ⟨#[]⟩, [49, 50, 51, 52, 53]⟩
def cBig : S61 := ⟨1, kA, ⟨#[]⟩, [49, 50, 51, 52, 53, 54]⟩
def cMk : S61 := ⟨2, kB, ⟨#[]⟩, []⟩
def cMv : S61 := ⟨4, kA, kBC, []⟩
def c7 : S61 := ⟨7, ⟨#[]⟩, ⟨#[]⟩, []⟩
def T1 : List S30 := [⟨kA, false, [49, 50, 51, 52, 53]⟩]
def T2 : List S30 := [⟨kA, false, [49, 50, 51, 52, 53]⟩, ⟨kB, true, []⟩]
def T3 : List S30 := [⟨kB, true, []⟩, ⟨kBC, false, [49, 50, 51, 52, 53]⟩]
def T4 : List S30 := [⟨kA, false, [49, 50, 51]⟩]
def T5 : List S30 := [⟨kA, false, [49, 50, 51]⟩, ⟨kB, true, []⟩]
def T6 : List S30 := [⟨kB, true, []⟩, ⟨kBC, false, [49, 50, 51]⟩]
def D0 : Dk := ⟨5, [], [], [], false, 0, 0, [], 0⟩
def D1 : Dk := ⟨5, T1, [], [cPut], false, 1, 0, [], 0⟩
def D2 : Dk := ⟨5, T2, [], [cPut, cMk], false, 2, 0, [], 0⟩
def D3 : Dk := ⟨5, T3, [], [cPut, cMk, cMv], false, 3, 0, [], 0⟩
def D4 : Dk := ⟨5, T4, T4, [], true, 3, 0, [], 0⟩
def D5 : Dk := ⟨5, T4, T4, [], false, 3, 0, [], 0⟩
def D6 : Dk := ⟨5, T5, T4, [cMk], false, 4, 0, [], 0⟩
def D7 : Dk := ⟨5, T5, T5, [], false, 5, 0, [], 0⟩
def D8 : Dk := ⟨5, T5, T5, [], false, 5, 2, [0], -1⟩
def D9 : Dk := ⟨5, T6, T5, [cMv], false, 6, 1, [0], -1⟩
def D10 : Dk := ⟨5, T6, T6, [], true, 6, 0, [0], -1⟩
theorem e07 : do0 D0 c7 = (D0, 1) := by kernel_rfl
theorem e0B : do0 D0 cBig = (D0, 9) := by kernel_rfl
theorem e01 : do0 D0 cPut = (D1, 0) := by kernel_rfl
theorem e12 : do0 D1 cMk = (D2, 0) := by kernel_rfl
theorem e23 : do0 D2 cMv = (D3, 0) := by kernel_rfl
theorem e34 : fallN [0, 2, 9, -1] 3 D3.waits D3.last D3.waits.length = T4 := by kernel_rfl
theorem e56 : do0 D5 cMk = (D6, 0) := by kernel_rfl
theorem e67 : ({ D6 with last := D6.now, waits := [], count := wrap64 (D6.count + 1) } : Dk) = D7 := by kernel_rfl
theorem e89 : do0 { D8 with fuse := D8.fuse - 1 } cMv = (D9, 0) := by kernel_rfl
theorem e910 : fallD D9 D9.keep D9.torn = D10 := by kernel_rfl
theorem gT : GT30 D0.now ∧ GT30 D1.now ∧ GT30 D2.now ∧ GT30 D5.now ∧ GT30 D8.now ∧ GT30 D9.last := by decide
theorem okW : (∀ x ∈ D3.waits, okG x) ∧ (∀ x ∈ D9.waits, okG x) := by unfold okG; decide
theorem okCs : okG cPut ∧ okG cBig ∧ okG cMk ∧ okG cMv ∧ okG c7 := by unfold okG; decide
set_option maxHeartbeats 8000000 in
set_option maxRecDepth 100000 in
theorem DiskKnown_calls (W : World) :
    Calls Tryd.prog 10 #[] W fun e w' => e = .returned (.bool true) ∧ Below W.heap.size W w' := by
  have hu26 := Tryd.underlying26
  have hu61 := Tryd.underlying61
  go_enter Tryd.func10, Tryd.ntmps10
  go_wp2_with (fail)
  refine (awake9_calls W).mono ?_
  rintro e W0 ⟨rfl, hb0⟩
  have HB0 := Aside0.mk hb0
  clear hb0
  dsimp only
  go_wp2_with (fail)
  refine (New_bad (-1) W0 (.inl (by decide))).mono ?_
  rintro e W1 ⟨rfl, hb1⟩
  have HB1 := Aside0.mk (HB0.out.trans (hb1.mono HB0.out.size))
  clear hb1
  dsimp only
  go_wp2_with (fail)
  have ha := below_alloc (Below.refl W1.heap.size W1) (.cells #[.string ⟨#[]⟩, .bool false, .slice none 0 0] 30)
  have hk := blk_new W1 (.cells #[.string ⟨#[]⟩, .bool false, .slice none 0 0] 30)
  refine (New_badT (some ⟨W1.heap.size, 0, none⟩) 1 9 _ (C_one k30 z30 hk (k30_mk _ z30 (A2 := none) (c2 := 0) (Nat.le_refl _) (C_nil0 _ _)) rfl) (Nat.le_refl _)).mono ?_
  rintro e W2 ⟨rfl, hb2⟩
  have HB2 := Aside0.mk (HB1.out.trans ((ha.trans (hb2.mono ha.size)).mono HB1.out.size))
  clear ha hk hb2 HB1 HB0
  dsimp only
  go_wp2_with (fail)
  refine (New_calls 5 W2 (by decide)).mono ?_
  rintro e W3 ⟨g, vn, vl, rfl, hX, hb⟩
  obtain ⟨B, hBq⟩ : ∃ B, B = W2.heap.size := ⟨_, rfl⟩
  rw [← hBq] at hX hb
  have HBW : Aside0 (W.heap.size ≤ B) := ⟨by rw [hBq]; exact HB2.out.size⟩
  have HW3 := Aside0.mk (HB2.out.trans (hb.mono HBW.out))
  have HX := Aside0.mk (show At W3 B g D0 vn vl (.slice none 0 0) (.slice none 0 0) from hX)
  have HB : Aside0 (Below B W3 W3) := ⟨Below.refl _ _⟩
  clear hX hb hBq HB2
  dsimp only
  go_wp2_with (fail)
  refine (Do_live W3 B g D0 vn vl (.slice none 0 0) (.slice none 0 0) c7 none 0 HX.out rfl (by decide) gT.1 (fun W' _ => C_nil0 _ _) (Nat.le_refl _) okCs.2.2.2.2 (by decide)).mono ?_
  rintro e W4 ⟨vnW4, vwW4, rfl, hX, hK, hB⟩
  rw [e07] at hX ⊢
  have HB := Aside0.mk (HB.out.trans hB)
  have HX := Aside0.mk hX.at_
  clear hX hK hB
  dsimp only
  have hgb := blk_lt HX.out.hg
  have hob := Kd.N_lt HX.out.w
  go_wp2_with ((with_reducible refine gate_dst (N := 44) rfl ?_); refine V_mlit (xs := [49, 50, 51, 52, 53, 54]) (n := 6) (N := 44) ?hg ?hd (.tmp 43) (t := 23) (e := 5) rfl rfl Tryd.underlying23 Tryd.underlying5 rfl rfl (by decide) ?_; (case hd => rfl); (case hg => rfl); intro vW5 W5 hv bx hg_ hnew; refine Stop.out ?_)
  obtain ⟨AW5, cW5, rfl⟩ := Kd.V_slice hv
  have HV := Aside0.mk hv
  have HR := Aside0.mk (Kd.V_reads' hv).2.1
  have HB := Aside0.mk (HX.out.thenB HB.out bx)
  have HX := Aside0.mk (HX.out.below bx)
  have HG := Aside0.mk (And.intro hgb hob)
  clear hv bx hg_ hnew hgb hob
  constructor
  go_wp2_with (fail)
  refine (Do_live W5 B g D0 vnW4 vl vwW4 (.slice none 0 0) cBig AW5 cW5 HX.out rfl (by decide) gT.1 (fun W' hK => (Kd.V_reads' (Kd.V_kept HV.out hK fun k hk h => h.elim (fun h => absurd HG.out.1 (by omega)) fun h => absurd (HG.out.2 k h) (by omega))).2.2) HR.out okCs.2.1 (by decide)).mono ?_
  rintro e W6 ⟨vnW6, vwW6, rfl, hX, hK, hB⟩
  rw [e0B] at hX ⊢
  have HB := Aside0.mk (HB.out.trans hB)
  have HX := Aside0.mk hX.at_
  clear hX hK hB
  dsimp only
  have hgb := blk_lt HX.out.hg
  have hob := Kd.N_lt HX.out.w
  go_wp2_with ((with_reducible refine gate_dst (N := 49) rfl ?_); refine V_mlit (xs := [49, 50, 51, 52, 53]) (n := 5) (N := 49) ?hg ?hd (.tmp 48) (t := 23) (e := 5) rfl rfl Tryd.underlying23 Tryd.underlying5 rfl rfl (by decide) ?_; (case hd => rfl); (case hg => rfl); intro vW7 W7 hv bx hg_ hnew; refine Stop.out ?_)
  obtain ⟨AW7, cW7, rfl⟩ := Kd.V_slice hv
  have HV := Aside0.mk hv
  have HR := Aside0.mk (Kd.V_reads' hv).2.1
  have HB := Aside0.mk (HX.out.thenB HB.out bx)
  have HX := Aside0.mk (HX.out.below bx)
  have HG := Aside0.mk (And.intro hgb hob)
  clear hv bx hg_ hnew hgb hob
  constructor
  go_wp2_with (fail)
  refine (Do_live W7 B g D0 vnW6 vl vwW6 (.slice none 0 0) cPut AW7 cW7 HX.out rfl (by decide) gT.1 (fun W' hK => (Kd.V_reads' (Kd.V_kept HV.out hK fun k hk h => h.elim (fun h => absurd HG.out.1 (by omega)) fun h => absurd (HG.out.2 k h) (by omega))).2.2) HR.out okCs.1 (by decide)).mono ?_
  rintro e W8 ⟨vnW8, vwW8, rfl, hX, hK, hB⟩
  rw [e01] at hX ⊢
  have HB := Aside0.mk (HB.out.trans hB)
  have HX := Aside0.mk hX.at_
  clear hX hK hB
  dsimp only
  go_wp2_with (fail)
  refine (Do_live W8 B g D1 vnW8 vl vwW8 (.slice none 0 0) cMk none 0 HX.out rfl (by decide) gT.2.1 (fun W' _ => C_nil0 _ _) (Nat.le_refl _) okCs.2.2.1 (by decide)).mono ?_
  rintro e W9 ⟨vnW9, vwW9, rfl, hX, hK, hB⟩
  rw [e12] at hX ⊢
  have HB := Aside0.mk (HB.out.trans hB)
  have HX := Aside0.mk hX.at_
  clear hX hK hB
  dsimp only
  go_wp2_with (fail)
  refine (Do_live W9 B g D2 vnW9 vl vwW9 (.slice none 0 0) cMv none 0 HX.out rfl (by decide) gT.2.2.1 (fun W' _ => C_nil0 _ _) (Nat.le_refl _) okCs.2.2.2.1 (by decide)).mono ?_
  rintro e W10 ⟨vnW10, vwW10, rfl, hX, hK, hB⟩
  rw [e23] at hX ⊢
  have HB := Aside0.mk (HB.out.trans hB)
  have HX := Aside0.mk hX.at_
  clear hX hK hB
  dsimp only
  go_wp2_with (fail)
  refine (Waits_calls W10 B g D3 vnW10 vl vwW10 (.slice none 0 0) HX.out (by decide) (fun x hx => (okW.1 x hx).2.2)).mono ?_
  rintro e W11 ⟨vW11, rfl, hN, hb⟩
  obtain ⟨AW11, cW11, rfl⟩ : ∃ A c, vW11 = .slice A 3 c := Kd.N_slice hN
  have HB := Aside0.mk (HX.out.thenB HB.out hb)
  have HX := Aside0.mk (HX.out.below hb)
  clear hN hb
  dsimp only
  go_wp2_with (fail)
  have ha := below_alloc (Below.refl W11.heap.size W11) (.cells #[.int .i64 0, .int .i64 2, .int .i64 9, .int .i64 (-1)] 3)
  have hk := blk_new W11 (.cells #[.int .i64 0, .int .i64 2, .int .i64 9, .int .i64 (-1)] 3)
  have hgb := blk_lt HX.out.hg
  have hob := Kd.N_lt HX.out.w
  obtain ⟨bL, hbL⟩ : ∃ b, b = W11.heap.size := ⟨_, rfl⟩
  rw [← hbL] at hk hgb hob ⊢
  have HB := Aside0.mk (HX.out.thenB HB.out ha)
  have HX := Aside0.mk (HX.out.below ha)
  generalize W11.alloc (.cells #[.int .i64 0, .int .i64 2, .int .i64 9, .int .i64 (-1)] 3) = W12 at *
  clear ha hbL
  refine (Crash_calls W12 B g D3 vnW10 vl vwW10 (.slice none 0 0) (some ⟨bL, 0, none⟩) 4 [0, 2, 9, -1] 3 HX.out (by decide) rfl (by decide) okW.1 (C_kept [0, 2, 9, -1] hk rfl (by decide) (fun h => by omega)) (by decide) (by decide)).mono ?_
  rintro e W13 ⟨vlW13, rfl, hX, hK, hB⟩
  rw [e34] at hX
  have HB := Aside0.mk (HB.out.trans hB)
  have HX := Aside0.mk (show At W13 B g D4 vlW13 vlW13 (.slice none 0 0) (.slice none 0 0) from hX)
  clear hX hK hB hk hgb hob
  dsimp only
  go_wp2_with (fail)
  refine (Now_calls W13 B g D4 vlW13 vlW13 (.slice none 0 0) (.slice none 0 0) HX.out (by unfold okC; decide)).mono ?_
  rintro e W14 ⟨vg, rfl, hv, hb⟩
  obtain ⟨Ag, cg, rfl⟩ : ∃ A c, vg = .slice A 1 c := Kd.V_slice hv
  have hv := Kd.V_bound hv
  have hgo := blk_lt HX.out.hg
  have HB := Aside0.mk (HX.out.thenB HB.out hb)
  have HX := Aside0.mk (HX.out.below hb)
  clear hb
  dsimp only
  go_wp2_with (fail)
  have ha := below_alloc (Below.refl W14.heap.size W14) (.cells #[.slice Ag 1 cg] 26)
  have hk := blk_new W14 (.cells #[.slice Ag 1 cg] 26)
  have hgb := blk_lt HX.out.hg
  obtain ⟨bg, hbg⟩ : ∃ b, b = W14.heap.size := ⟨_, rfl⟩
  obtain ⟨N, hN⟩ : ∃ N, N = W14.heap.size + 1 := ⟨_, rfl⟩
  have HB := Aside0.mk (HX.out.thenB HB.out ha)
  have HX := Aside0.mk (HX.out.below ha)
  have hBX : TBx _ N g bg (.slice Ag 1 cg) T4 := ⟨by rw [hbg]; exact hk, Kd.V_below (Kd.V_mono hv fun k hk => ⟨by have := hk.2; omega, hk.1.elim (fun h => h.2.1) fun h => by omega⟩) ha, by omega, by omega⟩
  have HXg := Aside0.mk hBX
  have HN : Aside0 (N ≤ (W14.alloc (.cells #[.slice Ag 1 cg] 26)).heap.size) := ⟨by rw [World.size_alloc]; omega⟩
  rw [← hbg]
  generalize W14.alloc (.cells #[.slice Ag 1 cg] 26) = W15 at *
  clear ha hk hgb hgo hv hBX hN hbg
  refine (Do_off W15 B g D4 vlW13 vlW13 (.slice none 0 0) (.slice none 0 0) (⟨2, ⟨#[122]⟩, ⟨#[]⟩, []⟩ : S61) none 0 HX.out (by decide) rfl).mono ?_
  rintro e W16 ⟨rfl, hb⟩
  have HB := Aside0.mk (HX.out.thenB HB.out hb)
  have HXg := Aside0.mk (HXg.out.below hb)
  have HN := Aside0.mk (Nat.le_trans HN.out hb.size)
  have HX := Aside0.mk (HX.out.below hb)
  clear hb
  dsimp only
  go_wp2_with (fail)
  refine (Sync_off W16 B g D4 vlW13 vlW13 (.slice none 0 0) (.slice none 0 0) HX.out (by decide) rfl).mono ?_
  rintro e W16_ ⟨rfl, rfl⟩
  dsimp only
  go_wp2_with (fail)
  refine (On_calls W16_ B g D4 vlW13 vlW13 (.slice none 0 0) (.slice none 0 0) HX.out).mono ?_
  rintro e W17 ⟨rfl, hX, hK, hB⟩
  have HB := Aside0.mk (HB.out.trans hB)
  have HXg := Aside0.mk (HXg.out.kept hK (fun k h => .inl h))
  have HN := Aside0.mk (Nat.le_trans HN.out hK.1)
  have HX := Aside0.mk (show At W17 B g D5 vlW13 vlW13 (.slice none 0 0) (.slice none 0 0) from hX)
  clear hX hK hB
  dsimp only
  go_wp2_with (fail)
  refine (Do_live W17 B g D5 vlW13 vlW13 (.slice none 0 0) (.slice none 0 0) cMk none 0 HX.out rfl (by decide) gT.2.2.2.1 (fun W' _ => C_nil0 _ _) (Nat.le_refl _) okCs.2.2.1 (by decide)).mono ?_
  rintro e W18 ⟨vnW18, vwW18, rfl, hX, hK, hB⟩
  rw [e56] at hX ⊢
  have hNq := HN.out
  have hS : ∀ k, (k = g ∨ Value.ownBlock (.slice none 0 0) = some k) → k = g ∨ N ≤ k := fun k h => h.elim .inl fun h => .inr (absurd h.symm no_own)
  have HB := Aside0.mk (HB.out.trans hB)
  have HXg := Aside0.mk (HXg.out.kept hK hS)
  have HN := Aside0.mk (Nat.le_trans HN.out hK.1)
  have HO : Aside0 (∀ k, vwW18.ownBlock = some k → N ≤ k) := ⟨fun k h => (hX.ob k h).elim (fun h => absurd h.symm no_own) fun h => Nat.le_trans hNq h⟩
  have HX := Aside0.mk hX.at_
  clear hX hK hB hS hNq
  dsimp only
  go_wp2_with (fail)
  refine (Sync_calls W18 B g D6 vnW18 vlW13 vwW18 (.slice none 0 0) HX.out (by decide) rfl).mono ?_
  rintro e W19 ⟨rfl, hX, hK, hB⟩
  rw [e67] at hX
  have HB := Aside0.mk (HB.out.trans hB)
  have HXg := Aside0.mk (HXg.out.kept hK (fun k h => .inl h))
  have HN := Aside0.mk (Nat.le_trans HN.out hK.1)
  have HX := Aside0.mk hX
  clear hX hK hB
  dsimp only
  go_wp2_with (fail)
  have ha := below_alloc (Below.refl W19.heap.size W19) (.cells #[.int .i64 0] 3)
  have hk := blk_new W19 (.cells #[.int .i64 0] 3)
  have hgb := blk_lt HX.out.hg
  have hob := Kd.N_lt HX.out.w
  obtain ⟨bL, hbL⟩ : ∃ b, b = W19.heap.size := ⟨_, rfl⟩
  rw [← hbL] at hk hgb hob ⊢
  have HB := Aside0.mk (HX.out.thenB HB.out ha)
  have HXg := Aside0.mk (HXg.out.below ha)
  have HN := Aside0.mk (Nat.le_trans HN.out ha.size)
  have HX := Aside0.mk (HX.out.below ha)
  generalize W19.alloc (.cells #[.int .i64 0] 3) = W20 at *
  clear ha hbL
  refine (Fuse_calls W20 B g D7 vnW18 vnW18 (.slice none 0 0) (.slice none 0 0) 2 (-1) (some ⟨bL, 0, none⟩) 1 [0] HX.out rfl (by decide) (C_blk [0] hk rfl (by decide)) (by decide) (by decide)).mono ?_
  rintro e W21 ⟨vk, rfl, hX, hK, hB⟩
  have HB := Aside0.mk (HB.out.trans hB)
  have HXg := Aside0.mk (HXg.out.kept hK (fun k h => .inl h))
  have HN := Aside0.mk (Nat.le_trans HN.out hK.1)
  have HX := Aside0.mk (show At W21 B g D8 vnW18 vnW18 (.slice none 0 0) vk from hX)
  clear hX hK hB hk hgb hob
  dsimp only
  go_wp2_with (fail)
  refine (Do_burn W21 B g D8 vnW18 vnW18 (.slice none 0 0) vk cMv none 0 HX.out rfl (by decide) (by decide) gT.2.2.2.2.1 (fun W' _ => C_nil0 _ _) (Nat.le_refl _) okCs.2.2.2.1 (by decide)).mono ?_
  rintro e W22 ⟨vnW22, vwW22, rfl, hX, hK, hB⟩
  rw [e89] at hX ⊢
  have hNq := HN.out
  have hS : ∀ k, (k = g ∨ Value.ownBlock (.slice none 0 0) = some k) → k = g ∨ N ≤ k := fun k h => h.elim .inl fun h => .inr (absurd h.symm no_own)
  have HB := Aside0.mk (HB.out.trans hB)
  have HXg := Aside0.mk (HXg.out.kept hK hS)
  have HN := Aside0.mk (Nat.le_trans HN.out hK.1)
  have HO : Aside0 (∀ k, vwW22.ownBlock = some k → N ≤ k) := ⟨fun k h => (hX.ob k h).elim (fun h => absurd h.symm no_own) fun h => Nat.le_trans hNq h⟩
  have HX := Aside0.mk hX.at_
  clear hX hK hB hS hNq
  dsimp only
  go_wp2_with (fail)
  refine (Do_fall W22 B g D9 vnW22 vnW18 vwW22 vk (⟨3, ⟨#[113]⟩, ⟨#[]⟩, []⟩ : S61) none 0 HX.out rfl rfl (by decide) gT.2.2.2.2.2 okW.2 (by decide)).mono ?_
  rintro e W23 ⟨vlW23, rfl, hX, hK, hB⟩
  rw [e910] at hX
  have HB := Aside0.mk (HB.out.trans hB)
  have HXg := Aside0.mk (HXg.out.kept hK (fun k h => .inl h))
  have HN := Aside0.mk (Nat.le_trans HN.out hK.1)
  have HX := Aside0.mk hX
  clear hX hK hB
  dsimp only
  go_wp2_with (fail)
  refine (Now_calls W23 B g D10 vlW23 vlW23 (.slice none 0 0) vk HX.out (by unfold okC; decide)).mono ?_
  rintro e W24 ⟨vo, rfl, hv, hb⟩
  obtain ⟨Ao, co, rfl⟩ : ∃ A c, vo = .slice A 2 c := Kd.V_slice hv
  have hv := Kd.V_bound hv
  have hgo := blk_lt HX.out.hg
  have HB := Aside0.mk (HX.out.thenB HB.out hb)
  have HXg := Aside0.mk (HXg.out.below hb)
  have HN := Aside0.mk (Nat.le_trans HN.out hb.size)
  have HX := Aside0.mk (HX.out.below hb)
  clear hb
  dsimp only
  go_wp2_with ((with_reducible refine gate_dst (N := 89) rfl ?_); refine Stop.out ?_)
  have ha := below_alloc (Below.refl W24.heap.size W24) (.cells #[.slice Ao 2 co] 26)
  have hk := blk_new W24 (.cells #[.slice Ao 2 co] 26)
  have hgb := blk_lt HX.out.hg
  obtain ⟨bo, hbo⟩ : ∃ b, b = W24.heap.size := ⟨_, rfl⟩
  have hNN := HN.out
  have HB := Aside0.mk (HX.out.thenB HB.out ha)
  have HXg := Aside0.mk (HXg.out.below ha)
  have HN := Aside0.mk (Nat.le_trans HN.out ha.size)
  have HX := Aside0.mk (HX.out.below ha)
  obtain ⟨M, hN⟩ : ∃ M, M = W24.heap.size + 1 := ⟨_, rfl⟩
  have hBX : TBx _ M g bo (.slice Ao 2 co) T6 := ⟨by rw [hbo]; exact hk, Kd.V_below (Kd.V_mono hv fun k hk => ⟨by have := hk.2; omega, hk.1.elim (fun h => h.2.1) fun h => by omega⟩) ha, by omega, by omega⟩
  have HXo := Aside0.mk hBX
  rw [← hbo]
  generalize W24.alloc (.cells #[.slice Ao 2 co] 26) = W25 at *
  clear ha hk hgb hgo hv hBX hN hbo
  have mg := blk_cell HXg.out.hb 0
  have mo := blk_cell HXo.out.hb 0
  obtain ⟨cO0, cO1, cO2, cO3, cO4, cO5, _⟩ := HX.out.cells
  have hcg := (Kd.V_reads' HXg.out.hv).2.2
  have hco := (Kd.V_reads' HXo.out.hv).2.2
  obtain ⟨adg, Ag2, cg2, eg, G0, _, G2, lg2, Cg2⟩ := at_T30 hcg 0 (by decide) (by decide)
  obtain ⟨ado, Ao2, co2, eo, O0, _, O2, lo2, Co2⟩ := at_T30 hco 1 (by decide) (by decide)
  subst eg eo
  have G0' : W25.cell? adg = some (.string ⟨#[97]⟩) := G0
  have G2' : W25.cell? ⟨adg.block, adg.off + 2, none⟩ = some (.slice Ag2 3 cg2) := G2
  have O0' : W25.cell? ⟨ado.block, ado.off + 3, none⟩ = some (.string ⟨#[98, 47, 99]⟩) := O0
  have O2' : W25.cell? ⟨ado.block, ado.off + 3 + 2, none⟩ = some (.slice Ao2 3 co2) := O2
  have hcv1 : (convert 23 9 (.slice Ag2 3 cg2)).run Tryd.prog W25 = .ok (.string ⟨#[49, 50, 51]⟩) W25 := Kd.C_string (P := Tryd.prog) (A := Ag2) (c := cg2) Tryd.underlying23 Tryd.underlying5 Tryd.underlying9 Cg2
  have hcv2 : (convert 23 9 (.slice Ao2 3 co2)).run Tryd.prog W25 = .ok (.string ⟨#[49, 50, 51]⟩) W25 := Kd.C_string (P := Tryd.prog) (A := Ao2) (c := co2) Tryd.underlying23 Tryd.underlying5 Tryd.underlying9 Co2
  clear G0 G2 O0 O2
  constructor
  go_wp2_with (fail)
  refine (Off_calls W25 B g D10 vlW23 vlW23 (.slice none 0 0) vk HX.out).mono ?_
  rintro e w_ ⟨rfl, hw⟩
  rw [hw, show D10.off = true from rfl]
  clear hw
  dsimp only
  go_wp2_with (fail)
  refine (Count_calls W25 B g D10 vlW23 vlW23 (.slice none 0 0) vk HX.out).mono ?_
  rintro e w_ ⟨rfl, hw⟩
  rw [hw, show D10.count = 6 from rfl]
  clear hw
  dsimp only
  go_wp2_with (fail)
  refine (Waits_calls W25 B g D10 vlW23 vlW23 (.slice none 0 0) vk HX.out (by decide) (fun x hx => by cases hx)).mono ?_
  rintro e W26 ⟨vW26, rfl, hN, hb⟩
  obtain ⟨AW26, cW26, rfl⟩ : ∃ A c, vW26 = .slice A 0 c := Kd.N_slice hN
  have HB := Aside0.mk (HX.out.thenB HB.out hb)
  have HXg := Aside0.mk (HXg.out.below hb)
  have HXo := Aside0.mk (HXo.out.below hb)
  have HN := Aside0.mk (Nat.le_trans HN.out hb.size)
  have HX := Aside0.mk (HX.out.below hb)
  clear hN hb
  dsimp only
  go_wp2_with (fail)
  go_ret
  exact ⟨rfl, HW3.out.trans (HB.out.mono HBW.out)⟩
end Go.Proofs.YtidlldfghkaeeaaDoor.P
end
