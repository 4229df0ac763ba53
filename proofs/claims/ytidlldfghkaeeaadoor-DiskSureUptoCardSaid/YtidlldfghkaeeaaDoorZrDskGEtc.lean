/- Put together by pack2.py: DskG, PfSlicesCloneIntInt, DskN, TreeAwk, DskW -/
import Derived.Test.YtidlldfghkaeeaaDoorZrDskF
import Derived.Test.YtidlldfghkaeeaaDoorZrPfTreeKidsEtc
import Derived.Test.YtidlldfghkaeeaaDoorZrPfTreeMakeEtc
import Derived.Test.YtidlldfghkaeeaaDoorZrPfSlicesContainsIntIntEtc
import Derived.Test.YtidlldfghkaeeaaDoorZrW0
section
namespace Go.Proofs.YtidlldfghkaeeaaDoor.P
open Go.RowKit Go.Proofs.YtidlldfghkaeeaaDoorW.PrintWords Go.Proofs.YtidlldfghkaeeaaDoorW.PrintLast Go.Proofs.YtidlldfghkaeeaaDoorW.PrintMore
set_option linter.unusedVariables false
set_option linter.unusedSimpArgs false
/-- A disk behind Do: the block of what waits is the elder one, or new. -/
structure AtO (W w' : World) (B g : Nat) (s : Dk) (vn vl vw vw' vk : Value) : Prop where
  at_ : At w' B g s vn vl vw' vk
  ob : ∀ k, vw'.ownBlock = some k → vw.ownBlock = some k ∨ W.heap.size ≤ k
set_option maxHeartbeats 8000000 in
set_option maxRecDepth 100000 in
theorem DoG_calls (W : World) (B g : Nat) (s0 s : Dk) (vn vl vw vk : Value) (c : S61) (A3 : Option Addr) (c3 : Nat) (h : At W B g s0 vn vl vw vk) (hof : s.off = false) (hbeg : ∀ W1, At W1 B g s0 vn vl vw vk → Calls Tryd.prog 79 #[.pointer (some ⟨g, 0, none⟩)] W1 fun e w' => e = .returned (.bool true) ∧ At w' B g s vn vl vw vk ∧ Kept W1 w' (fun k => k = g) ∧ Below B W1 w') (hgt : GT30 s.now) (hr : ∀ W', Kept W W' (fun k => k = g ∨ vw.ownBlock = some k) → Kd.C (Kd.int .u8) W' A3 c.f3.length c.f3) (hc3 : c.f3.length ≤ c3) (hg : okG c) (hw : s.waits.length ≤ 100000) :
    Calls Tryd.prog 34 #[.pointer (some ⟨g, 0, none⟩), .agg #[.int .i64 c.f0, .string c.f1, .string c.f2, .slice A3 c.f3.length c3]] W fun e w' => ∃ vn' vw', e = .returned (.int .i64 (do0 s c).2) ∧ AtO W w' B g (do0 s c).1 vn' vl vw vw' vk ∧ Kept W w' (fun k => k = g ∨ vw.ownBlock = some k) ∧ Below B W w' := by
  have hu101 := Tryd.underlying101
  have hu26 := Tryd.underlying26
  have hu61 := Tryd.underlying61
  have hb0 := below_alloc (Below.refl W.heap.size W) (.cells #[.int .i64 c.f0, .string c.f1, .string c.f2, .slice A3 c.f3.length c3] 61)
  have k30' := blk_new W (.cells #[.int .i64 c.f0, .string c.f1, .string c.f2, .slice A3 c.f3.length c3] 61)
  have h1 := h.below hb0
  have hK0 : Kept W (W.alloc (.cells #[.int .i64 c.f0, .string c.f1, .string c.f2, .slice A3 c.f3.length c3] 61)) (fun k => k = g ∨ vw.ownBlock = some k) := Kept.of_below hb0 _
  have hgW := blk_lt h.hg
  have hBW : B ≤ W.heap.size := by have := h.hB; omega
  have hB0 := hb0.mono hBW
  have hbg := hbeg _ h1
  have HGT := Aside0.mk hgt
  have HG := Aside0.mk hg
  have HW := Aside0.mk hw
  have HC3 := Aside0.mk hc3
  have HR := Aside0.mk hr
  have HGW := Aside0.mk hgW
  have HNW : Aside0 (∀ k, vw.ownBlock = some k → k < W.heap.size) := ⟨Kd.N_lt h.w⟩
  obtain ⟨T1, E1, hT⟩ : ∃ T1 E1, done0 s.now c = (T1, E1) := ⟨_, _, rfl⟩
  have hgT : GT30 T1 := by have := done0_GT (c := c) hgt; rw [hT] at this; exact this
  have HT := Aside0.mk hT
  have HGT1 := Aside0.mk hgT
  have HG3 := Aside0.mk hg.2.2
  obtain ⟨ws, hws⟩ : ∃ ws, ws = s.waits ++ [c] := ⟨_, rfl⟩
  have HWS := Aside0.mk hws
  have HSO : Aside0 (false = s.off) := ⟨hof.symm⟩
  clear h hb0 hr hgt hg hw hof hc3 hgW hT hgT hws hbeg
  go_enter Tryd.func34, Tryd.ntmps34
  go_wp2_with (fail)
  generalize hW1 : W.alloc (.cells #[.int .i64 c.f0, .string c.f1, .string c.f2, .slice A3 c.f3.length c3] 61) = W1 at *
  have HK0 := Aside0.mk hK0
  have HB0 := Aside0.mk hB0
  have hg3 : W.heap.size ≠ g := fun e => by have := HGW.out; omega
  refine hbg.mono ?_
  rintro e W2 ⟨rfl, hX2, hK2, hB2⟩
  have HH := Aside0.mk hX2
  have HK0 := Aside0.mk (HK0.out.then_ hK2 fun k h => .inl (.inl h))
  have HB0 := Aside0.mk (HB0.out.trans hB2)
  have k30' := (hK2.2 _ (blk_lt k30') hg3).trans k30'
  clear h1 hK0 hB0 hW1 hX2 hK2 hB2 hg3
  dsimp only
  go_wp2_with (fail)
  obtain ⟨An, cn0, hvn, _⟩ := HH.out.n
  subst hvn
  have hXd := HH.out.below (below_drew (Below.refl W2.heap.size W2))
  have hBd : Below B W W2.drew := HB0.out.drew
  have hKd : Kept W W2.drew (fun k => k = g ∨ vw.ownBlock = some k) := HK0.out
  have hB3 : W2.drew.heap[W.heap.size]? = some (.cells #[.int .i64 c.f0, .string c.f1, .string c.f2, .slice A3 c.f3.length c3] 61 (0, 0)) := k30'
  have md1 := hXd.cells.2.1
  have mb0 := blk_cell hB3 0
  have mb1 := blk_cell hB3 1
  have mb2 := blk_cell hB3 2
  have mb3 := blk_cell hB3 3
  have hPf : ∀ k, W2.drew.heap.size ≤ k → PD B g vw k := fun k hk => by
    have h1 := blk_lt hXd.hg
    refine ⟨Nat.le_trans hXd.hB (by omega), by omega, fun e => ?_⟩
    have := Kd.N_lt hXd.w k e.symm
    omega
  have hVd : Kd.V k30 30 W2.drew 0 (fun k => PD B g vw k ∧ k < W2.drew.heap.size) (.slice An s.now.length cn0) s.now := Kd.V_bound hXd.n
  have hCd := HR.out _ hKd
  have HB3 := Aside0.mk hB3
  clear k30' hB3 HH HK0 HB0
  refine start_ (n := 12) (S := fun w' => w'.cell? ⟨g, 1, none⟩ = some (.slice An s.now.length cn0) ∧ w'.cell? ⟨W.heap.size, 0, none⟩ = some (.int .i64 c.f0) ∧ w'.cell? ⟨W.heap.size, 1, none⟩ = some (.string c.f1) ∧ w'.cell? ⟨W.heap.size, 2, none⟩ = some (.string c.f2) ∧ w'.cell? ⟨W.heap.size, 3, none⟩ = some (.slice A3 c.f3.length c3)) (ds := [10]) #[false, false, false, false, false, false, false, false, false, false, false, false] (by kernel_rfl) rfl rfl ⟨md1, mb0, mb1, mb2, mb3⟩ (fun hHeld => ?_)
  generalize W2.drew = wd at md1 mb0 mb1 mb2 mb3 hPf hVd hCd hXd hKd hBd HB3 hHeld ⊢
  refine pure_ (i := 0) (N := some 12) (v := ?_) (a' := ?_) #[true, false, false, false, false, false, false, false, false, false, false, false] rfl rfl (by kernel_rfl) (fun _ _ _ h => h) (Or.inl ⟨by rfl, ?_⟩) ?_ ?_
  rotate_left
  · intro w'
    go_simp
    with_reducible rfl
  rotate_left
  · simp only [Act.put, List.setIfInBounds_toArray, List.set_cons_zero, List.set_cons_succ, i64_w, i32_w]
    rfl
  refine pure_ (i := 1) (N := some 13) (v := ?_) (a' := ?_) #[true, true, false, false, false, false, false, false, false, false, false, false] rfl rfl (by kernel_rfl) (fun _ _ _ h => h) (Or.inl ⟨by rfl, ?_⟩) ?_ ?_
  rotate_left
  · intro w'
    go_simp
    with_reducible rfl
  rotate_left
  · simp only [Act.put, List.setIfInBounds_toArray, List.set_cons_zero, List.set_cons_succ, i64_w, i32_w]
    rfl
  refine pure_ (i := 2) (N := some 14) (v := ?_) (a' := ?_) #[true, true, true, false, false, false, false, false, false, false, false, false] rfl rfl (by kernel_rfl) (fun _ _ _ h => h) (Or.inl ⟨by rfl, ?_⟩) ?_ ?_
  rotate_left
  · intro w'
    go_simp
    with_reducible rfl
  rotate_left
  · simp only [Act.put, List.setIfInBounds_toArray, List.set_cons_zero, List.set_cons_succ, i64_w, i32_w]
    rfl
  refine take_ (i := 3) (N := some 15) (v := ?_) (a' := ?_) #[true, true, true, true, false, false, false, false, false, false, false, false] rfl rfl (by kernel_rfl) (fun _ _ _ h => h) (Or.inl ⟨by rfl, ?_⟩) hHeld ?_ ?_
  rotate_left
  · rintro w' ⟨s0, s1, s2, s3, s4⟩
    go_simp
    with_reducible rfl
  rotate_left
  · simp only [Act.put, List.setIfInBounds_toArray, List.set_cons_zero, List.set_cons_succ, i64_w, i32_w]
    rfl
  refine take_ (i := 4) (N := some 16) (v := ?_) (a' := ?_) #[true, true, true, true, true, false, false, false, false, false, false, false] rfl rfl (by kernel_rfl) (fun _ _ _ h => h) (Or.inl ⟨by rfl, ?_⟩) hHeld ?_ ?_
  rotate_left
  · rintro w' ⟨s0, s1, s2, s3, s4⟩
    go_simp
    with_reducible rfl
  rotate_left
  · simp only [Act.put, List.setIfInBounds_toArray, List.set_cons_zero, List.set_cons_succ, i64_w, i32_w]
    rfl
  refine join_ (σ := Value × Nat) 2 #[true, true, true, true, true, true, true, true, true, true, false, false] (fun s_ => [(17, .tuple #[.agg #[s_.1], .int .i64 E1]), (11, .tuple #[.agg #[s_.1], .int .i64 E1]), (18, .agg #[s_.1]), (19, .int .i64 E1), (5, .pointer (some ⟨s_.2, 0, none⟩))]) (fun s_ w' => DoV (PD B g vw) wd w' (some s_.2) s_.1 T1) ?_ ?_
  rotate_left
  · intro hCont
    refine two_ (i := 5) (j := 9) (Ni := some 17) (Nj := some 5) #[true, true, true, true, true, true, false, false, false, false, false, false] #[true, true, true, true, true, false, false, false, false, true, false, false] rfl rfl rfl rfl (by kernel_rfl) (by decide) (by decide) (fun K hK => ?_) (fun K hK => ?_)
    · skip
      refine goes_ Tryd.func80 (by kernel_rfl) rfl #[.agg #[.slice An s.now.length cn0], .agg #[.int .i64 c.f0, .string c.f1, .string c.f2, .slice A3 c.f3.length c3]] (by rfl) rfl rfl (by simp only [List.map_toArray, List.map_cons, List.map_nil]; rfl) ?_
      with_reducible refine (Do_done0 HT.out hPf hVd hCd HC3.out (GT_okT HGT.out) HG.out).mono ?_
      rintro e wA ⟨vA, rfl, hW⟩
      refine ⟨_, rfl, ?_⟩
      refine hK.out _ _ ⟨(Below.cell hW.hb (cell_lt2 md1)).trans md1, (Below.cell hW.hb (cell_lt2 mb0)).trans mb0, (Below.cell hW.hb (cell_lt2 mb1)).trans mb1, (Below.cell hW.hb (cell_lt2 mb2)).trans mb2, (Below.cell hW.hb (cell_lt2 mb3)).trans mb3⟩ (fun hHeld => ?_)
      clear hK K
      refine norm_ (a' := ?_) ?_ ?_
      rotate_left
      · show Act.put _ (some 17) _ = _
        simp only [Act.put, List.setIfInBounds_toArray, List.set_cons_zero, List.set_cons_succ, i64_w, i32_w]
        rfl
      refine pure_ (i := 6) (N := some 11) (v := ?_) (a' := ?_) #[true, true, true, true, true, true, true, false, false, false, false, false] rfl rfl (by kernel_rfl) (fun _ _ _ h => h) (Or.inl ⟨by rfl, ?_⟩) ?_ ?_
      rotate_left
      · intro w'
        go_simp
        with_reducible rfl
      rotate_left
      · simp only [Act.put, List.setIfInBounds_toArray, List.set_cons_zero, List.set_cons_succ, i64_w, i32_w]
        rfl
      refine pure_ (i := 7) (N := some 18) (v := ?_) (a' := ?_) #[true, true, true, true, true, true, true, true, false, false, false, false] rfl rfl (by kernel_rfl) (fun _ _ _ h => h) (Or.inl ⟨by rfl, ?_⟩) ?_ ?_
      rotate_left
      · intro w'
        go_simp
        with_reducible rfl
      rotate_left
      · simp only [Act.put, List.setIfInBounds_toArray, List.set_cons_zero, List.set_cons_succ, i64_w, i32_w]
        rfl
      refine pure_ (i := 8) (N := some 19) (v := ?_) (a' := ?_) #[true, true, true, true, true, true, true, true, true, false, false, false] rfl rfl (by kernel_rfl) (fun _ _ _ h => h) (Or.inl ⟨by rfl, ?_⟩) ?_ ?_
      rotate_left
      · intro w'
        go_simp
        with_reducible rfl
      rotate_left
      · simp only [Act.put, List.setIfInBounds_toArray, List.set_cons_zero, List.set_cons_succ, i64_w, i32_w]
        rfl
      refine one_ (i := 9) (N := some 5) #[true, true, true, true, true, true, true, true, true, true, false, false] rfl rfl (by kernel_rfl) (by decide) (fun K hK => ?_)
      refine value_ (w1 := ?_) (v := ?_) (by rfl) rfl ?_ ?_
      rotate_left 2
      · go_simp
        constructor
        · rfl
        · rfl
      replace hW := hW.alloc
      refine hK.out _ _ ⟨(Below.cell hW.hb (cell_lt2 md1)).trans md1, (Below.cell hW.hb (cell_lt2 mb0)).trans mb0, (Below.cell hW.hb (cell_lt2 mb1)).trans mb1, (Below.cell hW.hb (cell_lt2 mb2)).trans mb2, (Below.cell hW.hb (cell_lt2 mb3)).trans mb3⟩ (fun hHeld => ?_)
      clear hK K
      refine norm_ (a' := ?_) ?_ ?_
      rotate_left
      · show Act.put _ (some 5) _ = _
        simp only [Act.put, List.setIfInBounds_toArray, List.set_cons_zero, List.set_cons_succ, i64_w, i32_w]
        rfl
      exact norm_ (by simp only [putAll, Act.put, List.setIfInBounds_toArray, List.set_cons_zero, List.set_cons_succ]) (hCont (vA, wA.heap.size) _ hW)
    · skip
      refine value_ (w1 := ?_) (v := ?_) (by rfl) rfl ?_ ?_
      rotate_left 2
      · go_simp
        constructor
        · rfl
        · rfl
      have hb0 := below_alloc (Below.refl wd.heap.size wd) (.cells #[.slice none 0 0] 26)
      refine hK.out _ _ ⟨(Below.cell hb0 (cell_lt2 md1)).trans md1, (Below.cell hb0 (cell_lt2 mb0)).trans mb0, (Below.cell hb0 (cell_lt2 mb1)).trans mb1, (Below.cell hb0 (cell_lt2 mb2)).trans mb2, (Below.cell hb0 (cell_lt2 mb3)).trans mb3⟩ (fun hHeld => ?_)
      clear hK K
      refine norm_ (a' := ?_) ?_ ?_
      rotate_left
      · show Act.put _ (some 5) _ = _
        simp only [Act.put, List.setIfInBounds_toArray, List.set_cons_zero, List.set_cons_succ, i64_w, i32_w]
        rfl
      refine one_ (i := 5) (N := some 17) #[true, true, true, true, true, true, false, false, false, true, false, false] rfl rfl (by kernel_rfl) (by decide) (fun K hK => ?_)
      refine goes_ Tryd.func80 (by kernel_rfl) rfl #[.agg #[.slice An s.now.length cn0], .agg #[.int .i64 c.f0, .string c.f1, .string c.f2, .slice A3 c.f3.length c3]] (by rfl) rfl rfl (by simp only [List.map_toArray, List.map_cons, List.map_nil]; rfl) ?_
      with_reducible refine (Do_done1 HT.out hPf hVd hCd HC3.out (GT_okT HGT.out) HG.out).mono ?_
      rintro e wA ⟨vA, rfl, hW⟩
      refine ⟨_, rfl, ?_⟩
      refine hK.out _ _ ⟨(Below.cell hW.hb (cell_lt2 md1)).trans md1, (Below.cell hW.hb (cell_lt2 mb0)).trans mb0, (Below.cell hW.hb (cell_lt2 mb1)).trans mb1, (Below.cell hW.hb (cell_lt2 mb2)).trans mb2, (Below.cell hW.hb (cell_lt2 mb3)).trans mb3⟩ (fun hHeld => ?_)
      clear hK K
      refine norm_ (a' := ?_) ?_ ?_
      rotate_left
      · show Act.put _ (some 17) _ = _
        simp only [Act.put, List.setIfInBounds_toArray, List.set_cons_zero, List.set_cons_succ, i64_w, i32_w]
        rfl
      refine pure_ (i := 6) (N := some 11) (v := ?_) (a' := ?_) #[true, true, true, true, true, true, true, false, false, true, false, false] rfl rfl (by kernel_rfl) (fun _ _ _ h => h) (Or.inl ⟨by rfl, ?_⟩) ?_ ?_
      rotate_left
      · intro w'
        go_simp
        with_reducible rfl
      rotate_left
      · simp only [Act.put, List.setIfInBounds_toArray, List.set_cons_zero, List.set_cons_succ, i64_w, i32_w]
        rfl
      refine pure_ (i := 7) (N := some 18) (v := ?_) (a' := ?_) #[true, true, true, true, true, true, true, true, false, true, false, false] rfl rfl (by kernel_rfl) (fun _ _ _ h => h) (Or.inl ⟨by rfl, ?_⟩) ?_ ?_
      rotate_left
      · intro w'
        go_simp
        with_reducible rfl
      rotate_left
      · simp only [Act.put, List.setIfInBounds_toArray, List.set_cons_zero, List.set_cons_succ, i64_w, i32_w]
        rfl
      refine pure_ (i := 8) (N := some 19) (v := ?_) (a' := ?_) #[true, true, true, true, true, true, true, true, true, true, false, false] rfl rfl (by kernel_rfl) (fun _ _ _ h => h) (Or.inl ⟨by rfl, ?_⟩) ?_ ?_
      rotate_left
      · intro w'
        go_simp
        with_reducible rfl
      rotate_left
      · simp only [Act.put, List.setIfInBounds_toArray, List.set_cons_zero, List.set_cons_succ, i64_w, i32_w]
        rfl
      exact norm_ (by simp only [putAll, Act.put, List.setIfInBounds_toArray, List.set_cons_zero, List.set_cons_succ]) (hCont (vA, wd.heap.size) _ hW)
  rintro ⟨vA, b⟩ wz hW
  dsimp only at hW ⊢
  obtain ⟨hbx, hbl⟩ := hW.hx b rfl
  have hbc := blk_cell hbx 0
  have hbf := blk_frozen hbx 0
  have hHeld : wz.cell? ⟨g, 1, none⟩ = some (.slice An s.now.length cn0) ∧ wz.cell? ⟨W.heap.size, 0, none⟩ = some (.int .i64 c.f0) ∧ wz.cell? ⟨W.heap.size, 1, none⟩ = some (.string c.f1) ∧ wz.cell? ⟨W.heap.size, 2, none⟩ = some (.string c.f2) ∧ wz.cell? ⟨W.heap.size, 3, none⟩ = some (.slice A3 c.f3.length c3) := ⟨(Below.cell hW.hb (cell_lt2 md1)).trans md1, (Below.cell hW.hb (cell_lt2 mb0)).trans mb0, (Below.cell hW.hb (cell_lt2 mb1)).trans mb1, (Below.cell hW.hb (cell_lt2 mb2)).trans mb2, (Below.cell hW.hb (cell_lt2 mb3)).trans mb3⟩
  obtain ⟨A6, c6, rfl, _⟩ := hW.hV
  refine norm_ (a' := ?_) ?_ ?_
  rotate_left
  · simp only [putAll, Act.put, List.setIfInBounds_toArray, List.set_cons_zero, List.set_cons_succ]
    rfl
  refine last_ (i := 10) (N := none) #[true, true, true, true, true, true, true, true, true, true, true, false] rfl rfl (by kernel_rfl) (by decide) (fun K hK => ?_)
  refine skip_ (w1 := ?_) (by rfl) rfl ?_ ?_
  rotate_left
  · go_simp
    rfl
  refine hK.out _ _ ?_
  clear hK K
  refine pure_ (i := 11) (N := some 6) (v := ?_) (a' := ?_) #[true, true, true, true, true, true, true, true, true, true, true, true] rfl rfl (by kernel_rfl) (fun _ _ _ h => h) (Or.inl ⟨by rfl, ?_⟩) ?_ ?_
  rotate_left
  · intro w'
    go_simp
    with_reducible rfl
  rotate_left
  · simp only [Act.put, List.setIfInBounds_toArray, List.set_cons_zero, List.set_cons_succ, i64_w, i32_w]
    rfl
  refine done_ (by kernel_rfl) ?_
  have hby := hW.hb.setCell (p := ⟨b, 0, none⟩) hbl (.slice A6 T1.length c6)
  have hX5 := hXd.below hby
  have hK5 := hKd.below hby
  have hBd5 := hBd.trans (hby.mono (by have := hXd.hB; have := blk_lt hXd.hg; omega))
  have hB35 := (hby.block _ (blk_lt HB3.out)).trans HB3.out
  have hV5 := Kd.V_far (p := ⟨b, 0, none⟩) hW.hV (fun k hk e => hk.2 (by rw [show k = b from e])) (.slice A6 T1.length c6)
  have hk5 := blk_put hbx 0 (.slice A6 T1.length c6) (cs' := #[.slice A6 T1.length c6]) rfl
  have hV5 : Kd.V k30 30 _ 0 (PD B g vw) (.slice A6 T1.length c6) T1 := Kd.V_mono hV5 fun k hk => hk.1
  generalize wz.setCell ⟨b, 0, none⟩ (.slice A6 T1.length c6) = wy at *
  clear hW hbx hbl hbc hbf hby hXd hKd hBd hCd hVd hPf HB3 md1 mb0 mb1 mb2 mb3 hHeld
  by_cases hE : E1 = 0
  · have g1 : (E1 != 0) = false := by rw [hE]; rfl
    have HE := Aside0.mk hE
    clear hE
    have m5 := blk_cell hk5 0
    have HX5 := Aside0.mk hX5
    have HK5 := Aside0.mk hK5
    have HBd5 := Aside0.mk hBd5
    have HB35 := Aside0.mk hB35
    have HV5 := Aside0.mk hV5
    have HK := Aside0.mk hk5
    clear hX5 hK5 hBd5 hB35 hV5 hk5
    go_wp2_with (fail)
    refine (tree_Bytes.calls 50 A6 c6 T1 (nB30 T1) wy (Kd.V_reads' HV5.out).2.2 (Kd.V_reads' HV5.out).2.1 (GT_B HGT1.out)).mono ?_
    rintro e W5 ⟨rfl, hb5⟩
    have HBd5 := Aside0.mk (HX5.out.thenB HBd5.out hb5)
    have hX5 := HX5.out.below hb5
    have HX5 := Aside0.mk hX5
    have HK5 := Aside0.mk (HK5.out.below hb5)
    have HB35 := Aside0.mk ((hb5.block _ (blk_lt HB35.out)).trans HB35.out)
    have HV5 := Aside0.mk (Kd.V_below HV5.out hb5)
    have HK := Aside0.mk ((hb5.block _ (blk_lt HK.out)).trans HK.out)
    clear m5 hb5
    have m5 := blk_cell HK.out 0
    obtain ⟨n1, hn1⟩ : ∃ n1 : Int, n1 = (nB30 T1 : Int) := ⟨_, rfl⟩
    rw [← hn1]
    have HN1' := Aside0.mk hn1
    clear hn1
    have c0 := hX5.cells.1
    have cn := hX5.cells.2.1
    clear hX5
    dsimp only
    by_cases q1 : s.q < n1
    · have p1 : decide (s.q < n1) = true := decide_eq_true q1
      have Q1 := Aside0.mk q1
      clear q1
      go_wp2_with (fail)
      refine (tree_Bytes.calls 50 An cn0 s.now (nB30 s.now) W5 (Kd.V_reads' HX5.out.n).2.2 (Kd.V_reads' HX5.out.n).2.1 (GT_B HGT.out)).mono ?_
      rintro e W6 ⟨rfl, hb6⟩
      have HBd6 := Aside0.mk (HX5.out.thenB HBd5.out hb6)
      have hX6 := HX5.out.below hb6
      have HX6 := Aside0.mk hX6
      have HK6 := Aside0.mk (HK5.out.below hb6)
      have HB36 := Aside0.mk ((hb6.block _ (blk_lt HB35.out)).trans HB35.out)
      have HV6 := Aside0.mk (Kd.V_below HV5.out hb6)
      have HK := Aside0.mk ((hb6.block _ (blk_lt HK.out)).trans HK.out)
      clear m5 hb6 c0 cn
      have m5 := blk_cell HK.out 0
      obtain ⟨n0, hn0⟩ : ∃ n0 : Int, n0 = (nB30 s.now : Int) := ⟨_, rfl⟩
      rw [← hn0]
      have HN0' := Aside0.mk hn0
      clear hn0
      have c0 := hX6.cells.1
      have cn := hX6.cells.2.1
      clear hX6
      dsimp only
      by_cases q2 : n0 < n1
      · have p2 : decide (n0 < n1) = true := decide_eq_true q2
        have Q2 := Aside0.mk q2
        clear q2
        go_wp2_with (fail)
        go_ret
        have hd : do0 s c = (s, 9) := by
          rw [do0, if_neg (by rw [← HSO.out]; exact Bool.false_ne_true), HT.out, if_neg (by rw [HE.out]; simp), if_pos]
          have h1 := Q1.out
          have h2 := Q2.out
          rw [HN1'.out] at h1 h2
          rw [HN0'.out] at h2
          exact ⟨h1, Int.ofNat_lt.1 h2⟩
        rw [hd]
        first
          | exact ⟨_, _, rfl, ⟨HX6.out, fun k h => .inl h⟩, HK6.out, HBd6.out⟩
          | exact ⟨rfl, ⟨_, _, ⟨HX6.out, fun k h => .inl h⟩⟩, HK6.out, HBd6.out⟩
      · have p2 : decide (n0 < n1) = false := decide_eq_false q2
        have HDO : Aside0 (do0 s c = ({ s with now := T1, waits := ws, count := wrap64 (s.count + 1) }, 0)) := ⟨by
          rw [do0, if_neg (by rw [← HSO.out]; exact Bool.false_ne_true), HT.out, if_neg (by rw [HE.out]; simp), if_neg (fun h => q2 (by rw [HN1'.out, HN0'.out]; exact Int.ofNat_lt.2 h.2)), HWS.out]⟩
        clear q2
        have fz := HX6.out.frozen
        have hwl : (s.waits.length + 1) * 64 ≤ 140737488355328 := by have := HW.out; omega
        go_wp2_with (fail)
        have hk1 := blk_put HX6.out.hg 1 (.slice A6 T1.length c6) (cs' := #[.int .i64 s.q, .slice A6 T1.length c6, vl, vw, .bool s.off, .int .i64 s.count, .int .i64 s.fuse, vk, .int .i64 s.torn]) rfl
        have hKs := Ke_set (Kept.refl W6 (fun k => k = g)) 1 (.slice A6 T1.length c6)
        have hX7 : At (W6.setCell ⟨g, 1, none⟩ (.slice A6 T1.length c6)) B g { s with now := T1 } (.slice A6 T1.length c6) vl vw vk := At.turn hKs HX6.out.hB hk1 HV6.out HX6.out.l HX6.out.w HX6.out.k
        have hXe := hX7.below (below_drew (Below.refl _ _))
        have hKe : Kept W (W6.setCell ⟨g, 1, none⟩ (.slice A6 T1.length c6)).drew (fun k => k = g ∨ vw.ownBlock = some k) := (Kept.setCell (p := ⟨g, 1, none⟩) HK6.out (.inl (.inl rfl)) _).drew
        have hg3 : W.heap.size ≠ g := fun e => by have := HGW.out; omega
        have hB7 := (Be_set HBd6.out HX6.out.hB 1 (.slice A6 T1.length c6)).drew
        have hB3e : (W6.setCell ⟨g, 1, none⟩ (.slice A6 T1.length c6)).drew.heap[W.heap.size]? = some (.cells #[.int .i64 c.f0, .string c.f1, .string c.f2, .slice A3 c.f3.length c3] 61 (0, 0)) := (Below.heap_setCell W6 ⟨g, 1, none⟩ _ _ hg3).trans HB36.out
        have md3 := hXe.cells.2.2.2.1
        have mb0 := blk_cell hB3e 0
        have mb1 := blk_cell hB3e 1
        have mb2 := blk_cell hB3e 2
        have mb3 := blk_cell hB3e 3
        have hCe := HR.out _ hKe
        have hNe := hXe.w
        have hBe : B ≤ (W6.setCell ⟨g, 1, none⟩ (.slice A6 T1.length c6)).drew.heap.size := by have := blk_lt hXe.hg; have := hXe.hB; omega
        have hge : some g ≠ vw.ownBlock := fun e => (hNe.1 g e.symm).2 rfl
        have hne3 : some W.heap.size ≠ vw.ownBlock := fun e => by have := HNW.out _ e.symm; omega
        have hfr : ∀ k, (W6.setCell ⟨g, 1, none⟩ (.slice A6 T1.length c6)).drew.heap.size ≤ k → (B ≤ k ∧ k ≠ g) ∧ some k ≠ vw.ownBlock := fun k hk => by
          have h1 := blk_lt hXe.hg
          refine ⟨⟨Nat.le_trans hXe.hB (by omega), by omega⟩, fun e => ?_⟩
          have := Kd.N_lt hNe k e.symm
          omega
        clear hk1 hKs hX7 hB3e m5 fz
        refine start_ (n := 12) (S := fun w' => w'.cell? ⟨g, 3, none⟩ = some vw ∧ w'.cell? ⟨W.heap.size, 0, none⟩ = some (.int .i64 c.f0) ∧ w'.cell? ⟨W.heap.size, 1, none⟩ = some (.string c.f1) ∧ w'.cell? ⟨W.heap.size, 2, none⟩ = some (.string c.f2) ∧ w'.cell? ⟨W.heap.size, 3, none⟩ = some (.slice A3 c.f3.length c3)) (ds := [11]) #[false, false, false, false, false, false, false, false, false, false, false, false] (by kernel_rfl) rfl rfl ⟨md3, mb0, mb1, mb2, mb3⟩ (fun hHeld => ?_)
        generalize (W6.setCell ⟨g, 1, none⟩ (.slice A6 T1.length c6)).drew = we at md3 mb0 mb1 mb2 mb3 hCe hNe hBe hfr hXe hKe hB7 hge hne3 hHeld ⊢
        refine pure_ (i := 0) (N := some 44) (v := ?_) (a' := ?_) #[true, false, false, false, false, false, false, false, false, false, false, false] rfl rfl (by kernel_rfl) (fun _ _ _ h => h) (Or.inl ⟨by rfl, ?_⟩) ?_ ?_
        rotate_left
        · intro w'
          go_simp
          with_reducible rfl
        rotate_left
        · simp only [Act.put, List.setIfInBounds_toArray, List.set_cons_zero, List.set_cons_succ, i64_w, i32_w]
          rfl
        refine pure_ (i := 1) (N := some 45) (v := ?_) (a' := ?_) #[true, true, false, false, false, false, false, false, false, false, false, false] rfl rfl (by kernel_rfl) (fun _ _ _ h => h) (Or.inl ⟨by rfl, ?_⟩) ?_ ?_
        rotate_left
        · intro w'
          go_simp
          with_reducible rfl
        rotate_left
        · simp only [Act.put, List.setIfInBounds_toArray, List.set_cons_zero, List.set_cons_succ, i64_w, i32_w]
          rfl
        refine pure_ (i := 2) (N := some 46) (v := ?_) (a' := ?_) #[true, true, true, false, false, false, false, false, false, false, false, false] rfl rfl (by kernel_rfl) (fun _ _ _ h => h) (Or.inl ⟨by rfl, ?_⟩) ?_ ?_
        rotate_left
        · intro w'
          go_simp
          with_reducible rfl
        rotate_left
        · simp only [Act.put, List.setIfInBounds_toArray, List.set_cons_zero, List.set_cons_succ, i64_w, i32_w]
          rfl
        refine pure_ (i := 3) (N := some 47) (v := ?_) (a' := ?_) #[true, true, true, true, false, false, false, false, false, false, false, false] rfl rfl (by kernel_rfl) (fun _ _ _ h => h) (Or.inl ⟨by rfl, ?_⟩) ?_ ?_
        rotate_left
        · intro w'
          go_simp
          with_reducible rfl
        rotate_left
        · simp only [Act.put, List.setIfInBounds_toArray, List.set_cons_zero, List.set_cons_succ, i64_w, i32_w]
          rfl
        refine take_ (i := 4) (N := some 48) (v := ?_) (a' := ?_) #[true, true, true, true, true, false, false, false, false, false, false, false] rfl rfl (by kernel_rfl) (fun _ _ _ h => h) (Or.inl ⟨by rfl, ?_⟩) hHeld ?_ ?_
        rotate_left
        · rintro w' ⟨s0, s1, s2, s3, s4⟩
          go_simp
          with_reducible rfl
        rotate_left
        · simp only [Act.put, List.setIfInBounds_toArray, List.set_cons_zero, List.set_cons_succ, i64_w, i32_w]
          rfl
        refine take_ (i := 5) (N := some 49) (v := ?_) (a' := ?_) #[true, true, true, true, true, true, false, false, false, false, false, false] rfl rfl (by kernel_rfl) (fun _ _ _ h => h) (Or.inl ⟨by rfl, ?_⟩) hHeld ?_ ?_
        rotate_left
        · rintro w' ⟨s0, s1, s2, s3, s4⟩
          go_simp
          with_reducible rfl
        rotate_left
        · simp only [Act.put, List.setIfInBounds_toArray, List.set_cons_zero, List.set_cons_succ, i64_w, i32_w]
          rfl
        refine one_ (i := 6) (N := some 50) #[true, true, true, true, true, true, true, false, false, false, false, false] rfl rfl (by kernel_rfl) (by decide) (fun K hK => ?_)
        refine goes_ Tryd.func81 (by kernel_rfl) rfl #[.agg #[.int .i64 c.f0, .string c.f1, .string c.f2, .slice A3 c.f3.length c3]] (by rfl) rfl rfl (by simp only [List.map_toArray, List.map_cons, List.map_nil]; rfl) ?_
        with_reducible refine (disk_Change_own.calls c.f0 c.f1 c.f2 A3 c3 c.f3 c.f0 c.f1 c.f2 c.f3 we hCe HC3.out (own61_eq HG3.out)).mono ?_
        rintro e wB ⟨v5, rfl, hR5, hbB⟩
        refine ⟨_, rfl, ?_⟩
        obtain ⟨A5, c5, rfl⟩ := Kd.R_slice hR5
        have hFK : Kd.FK k61 wB (fun k => we.heap.size ≤ k ∧ k < wB.heap.size) c [.int .i64 c.f0, .string c.f1, .string c.f2, .slice A5 c.f3.length c5] := k61_mkF wB _ c (Kd.R_reads' hR5).2.1 (Kd.R_F (Kd.R_mono (Kd.R_bound hR5) fun k hk => ⟨hk.2.1, hk.2.2.1⟩))
        refine hK.out _ _ ⟨(Below.cell hbB (cell_lt2 md3)).trans md3, (Below.cell hbB (cell_lt2 mb0)).trans mb0, (Below.cell hbB (cell_lt2 mb1)).trans mb1, (Below.cell hbB (cell_lt2 mb2)).trans mb2, (Below.cell hbB (cell_lt2 mb3)).trans mb3⟩ (fun hHeld => ?_)
        clear hK K
        refine norm_ (a' := ?_) ?_ ?_
        rotate_left
        · show Act.put _ (some 50) _ = _
          simp only [Act.put, List.setIfInBounds_toArray, List.set_cons_zero, List.set_cons_succ, i64_w, i32_w]
          rfl
        refine one_ (i := 7) (N := some 51) #[true, true, true, true, true, true, true, true, false, false, false, false] rfl rfl (by kernel_rfl) (by decide) (fun K hK => ?_)
        refine value_ (w1 := ?_) (v := ?_) (by rfl) rfl ?_ ?_
        rotate_left 2
        · go_simp
          constructor
          · rfl
          · rfl
        have hbL := below_alloc (Below.refl wB.heap.size wB) (.cells #[.int .i64 c.f0, .string c.f1, .string c.f2, .slice A5 c.f3.length c5] 61)
        refine hK.out _ _ ⟨(Below.cell hbL (Nat.lt_of_lt_of_le (cell_lt2 md3) hbB.size)).trans ((Below.cell hbB (cell_lt2 md3)).trans md3), (Below.cell hbL (Nat.lt_of_lt_of_le (cell_lt2 mb0) hbB.size)).trans ((Below.cell hbB (cell_lt2 mb0)).trans mb0), (Below.cell hbL (Nat.lt_of_lt_of_le (cell_lt2 mb1) hbB.size)).trans ((Below.cell hbB (cell_lt2 mb1)).trans mb1), (Below.cell hbL (Nat.lt_of_lt_of_le (cell_lt2 mb2) hbB.size)).trans ((Below.cell hbB (cell_lt2 mb2)).trans mb2), (Below.cell hbL (Nat.lt_of_lt_of_le (cell_lt2 mb3) hbB.size)).trans ((Below.cell hbB (cell_lt2 mb3)).trans mb3)⟩ (fun hHeld => ?_)
        clear hK K
        refine norm_ (a' := ?_) ?_ ?_
        rotate_left
        · show Act.put _ (some 51) _ = _
          simp only [Act.put, List.setIfInBounds_toArray, List.set_cons_zero, List.set_cons_succ, i64_w, i32_w]
          rfl
        refine one_ (i := 8) (N := some 52) #[true, true, true, true, true, true, true, true, true, false, false, false] rfl rfl (by kernel_rfl) (by decide) (fun K hK => ?_)
        refine Kd.N_append_step k61 (w0 := we) B (by rfl) (.tmp 48) (.tmp 51) 56 61 _ 64 rfl Tryd.underlying56 info61 rfl (by decide) (by omega) vw s.waits c [.int .i64 c.f0, .string c.f1, .string c.f2, .slice A5 c.f3.length c5] (fun k => B ≤ k ∧ k ≠ g) (fun k => we.heap.size ≤ k ∧ k < wB.heap.size) rfl rfl hFK (fun k hk => hfr k hk.1) (fun k hk => (hfr k (Nat.le_trans hbB.size hk)).1) (Kd.N_below hNe hbB) (hbB.mono hBe) (Nat.le_trans hBe hbB.size) hwl ?_
        intro v1 w1 hN1 hB1 hG1 hat1
        rw [← HWS.out] at hN1
        obtain ⟨A1, c1, rfl⟩ := Kd.N_slice hN1
        have hge1 : w1.heap[g]? = _ := (hG1.block g (Nat.lt_of_lt_of_le (blk_lt hXe.hg) hbB.size) hge).trans ((hbB.block g (blk_lt hXe.hg)).trans hXe.hg)
        have fz3 := blk_frozen hge1 3
        refine hK.out _ _ ⟨(hG1.cell_far _ (Nat.lt_of_lt_of_le (cell_lt2 md3) hbB.size) hge).trans ((Below.cell hbB (cell_lt2 md3)).trans md3), (hG1.cell_far _ (Nat.lt_of_lt_of_le (cell_lt2 mb0) hbB.size) hne3).trans ((Below.cell hbB (cell_lt2 mb0)).trans mb0), (hG1.cell_far _ (Nat.lt_of_lt_of_le (cell_lt2 mb1) hbB.size) hne3).trans ((Below.cell hbB (cell_lt2 mb1)).trans mb1), (hG1.cell_far _ (Nat.lt_of_lt_of_le (cell_lt2 mb2) hbB.size) hne3).trans ((Below.cell hbB (cell_lt2 mb2)).trans mb2), (hG1.cell_far _ (Nat.lt_of_lt_of_le (cell_lt2 mb3) hbB.size) hne3).trans ((Below.cell hbB (cell_lt2 mb3)).trans mb3)⟩ (fun hHeld => ?_)
        clear hK K
        refine norm_ (a' := ?_) ?_ ?_
        rotate_left
        · show Act.put _ (some 52) _ = _
          simp only [Act.put, List.setIfInBounds_toArray, List.set_cons_zero, List.set_cons_succ, i64_w, i32_w]
          rfl
        refine pure_ (i := 9) (N := some 53) (v := ?_) (a' := ?_) #[true, true, true, true, true, true, true, true, true, true, false, false] rfl rfl (by kernel_rfl) (fun _ _ _ h => h) (Or.inl ⟨by rfl, ?_⟩) ?_ ?_
        rotate_left
        · intro w'
          go_simp
          with_reducible rfl
        rotate_left
        · simp only [Act.put, List.setIfInBounds_toArray, List.set_cons_zero, List.set_cons_succ, i64_w, i32_w]
          rfl
        refine pure_ (i := 10) (N := some 54) (v := ?_) (a' := ?_) #[true, true, true, true, true, true, true, true, true, true, true, false] rfl rfl (by kernel_rfl) (fun _ _ _ h => h) (Or.inl ⟨by rfl, ?_⟩) ?_ ?_
        rotate_left
        · intro w'
          go_simp
          with_reducible rfl
        rotate_left
        · simp only [Act.put, List.setIfInBounds_toArray, List.set_cons_zero, List.set_cons_succ, i64_w, i32_w]
          rfl
        refine last_ (i := 11) (N := none) #[true, true, true, true, true, true, true, true, true, true, true, true] rfl rfl (by kernel_rfl) (by decide) (fun K hK => ?_)
        refine skip_ (w1 := ?_) (by rfl) rfl ?_ ?_
        rotate_left
        · go_simp
          rfl
        refine hK.out _ _ ?_
        clear hK K
        refine done_ (by kernel_rfl) ?_
        have c5' := blk_cell hge1 5
        have fz := fun i => blk_frozen hge1 i
        have HG1 := Aside0.mk hge1
        have HN1 := Aside0.mk hN1
        have hn1 := Kd.V_after (v1 := .slice A1 ws.length c1) (u := vw) (ok := fun k => B ≤ k ∧ k ≠ g) (Kd.V_mono (Kd.V_below hXe.n hbB) fun k h => ⟨⟨h.1, h.2.1⟩, h.2.2⟩) hG1 hat1
        have hl1 := Kd.V_after (v1 := .slice A1 ws.length c1) (u := vw) (ok := fun k => B ≤ k ∧ k ≠ g) (Kd.V_mono (Kd.V_below hXe.l hbB) fun k h => ⟨⟨h.1, h.2.1⟩, h.2.2⟩) hG1 hat1
        have hk1 := Kd.V_after (v1 := .slice A1 ws.length c1) (u := vw) (ok := fun k => B ≤ k ∧ k ≠ g) (Kd.V_mono (Kd.V_below hXe.k hbB) fun k h => ⟨⟨h.1, h.2.1⟩, h.2.2⟩) hG1 hat1
        have hK1 : Kept W w1 (fun k => k = g ∨ vw.ownBlock = some k) := Kept.of_grown hG1 (hKe.below hbB) (fun k hk => .inl (.inr hk))
        have HV1 := Aside0.mk (And.intro hn1 (And.intro hl1 hk1))
        have HK1 := Aside0.mk hK1
        have HB1 := Aside0.mk (hB7.trans hB1)
        have HXH := Aside0.mk hXe.hB
        have HOB : Aside0 (∀ k, (Value.slice A1 ws.length c1).ownBlock = some k → vw.ownBlock = some k ∨ W.heap.size ≤ k) := ⟨fun k hk => by
          rcases hat1 with e | ⟨b_, e, hb_⟩
          · exact .inl (e.symm.trans hk)
          · rw [hk] at e
            have e1 := Option.some.inj e
            have e2 := hKe.1
            have e3 := hbB.size
            exact .inr (by omega)⟩
        clear hge1 hN1 hn1 hl1 hk1 hK1 hHeld hXe hKe hCe hNe hBe hge hne3 hfr hR5 hFK hG1 hat1 hB7 hB1 md3 mb0 mb1 mb2 mb3 hbB
        go_wp2_with (fail)
        go_ret
        have hk2 := blk_put HG1.out 3 (.slice A1 ws.length c1) (cs' := #[.int .i64 s.q, .slice A6 T1.length c6, vl, .slice A1 ws.length c1, .bool s.off, .int .i64 s.count, .int .i64 s.fuse, vk, .int .i64 s.torn]) rfl
        have hk3 := blk_put hk2 5 (.int .i64 (wrap64 (s.count + 1))) (cs' := #[.int .i64 s.q, .slice A6 T1.length c6, vl, .slice A1 ws.length c1, .bool s.off, .int .i64 (wrap64 (s.count + 1)), .int .i64 s.fuse, vk, .int .i64 s.torn]) rfl
        have hKs := Ke_set (Ke_set (Kept.refl w1 (fun k => k = g)) 3 (.slice A1 ws.length c1)) 5 (.int .i64 (wrap64 (s.count + 1)))
        have hKW := Kept.setCell (p := ⟨g, 5, none⟩) (Kept.setCell (p := ⟨g, 3, none⟩) HK1.out (.inl (.inl rfl)) (.slice A1 ws.length c1)) (.inl (.inl rfl)) (.int .i64 (wrap64 (s.count + 1)))
        have hBF := Be_set (Be_set HB1.out HXH.out 3 (.slice A1 ws.length c1)) HXH.out 5 (.int .i64 (wrap64 (s.count + 1)))
        have hd : do0 s c = ({ s with now := T1, waits := ws, count := wrap64 (s.count + 1) }, 0) := HDO.out
        rw [hd]
        generalize (w1.setCell ⟨g, 3, none⟩ (.slice A1 ws.length c1)).setCell ⟨g, 5, none⟩ (.int .i64 (wrap64 (s.count + 1))) = w2 at *
        refine ⟨rfl, ⟨.slice A6 T1.length c6, .slice A1 ws.length c1, ⟨At.turn hKs HXH.out hk3 (Kd.V_mono HV1.out.1 fun k h => ⟨h.1.1, h.1.2, h.2⟩) (Kd.V_mono HV1.out.2.1 fun k h => ⟨h.1.1, h.1.2, h.2⟩) HN1.out (Kd.V_mono HV1.out.2.2 fun k h => ⟨h.1.1, h.1.2, h.2⟩), HOB.out⟩⟩, hKW, hBF⟩
    · have p1 : decide (s.q < n1) = false := decide_eq_false q1
      have HDO : Aside0 (do0 s c = ({ s with now := T1, waits := ws, count := wrap64 (s.count + 1) }, 0)) := ⟨by
        rw [do0, if_neg (by rw [← HSO.out]; exact Bool.false_ne_true), HT.out, if_neg (by rw [HE.out]; simp), if_neg (fun h => q1 (by rw [HN1'.out]; exact h.1)), HWS.out]⟩
      clear q1
      have HX6 := HX5
      have HK6 := HK5
      have HBd6 := HBd5
      have HB36 := HB35
      have HV6 := HV5
      have fz := HX6.out.frozen
      have hwl : (s.waits.length + 1) * 64 ≤ 140737488355328 := by have := HW.out; omega
      go_wp2_with (fail)
      have hk1 := blk_put HX6.out.hg 1 (.slice A6 T1.length c6) (cs' := #[.int .i64 s.q, .slice A6 T1.length c6, vl, vw, .bool s.off, .int .i64 s.count, .int .i64 s.fuse, vk, .int .i64 s.torn]) rfl
      have hKs := Ke_set (Kept.refl W5 (fun k => k = g)) 1 (.slice A6 T1.length c6)
      have hX7 : At (W5.setCell ⟨g, 1, none⟩ (.slice A6 T1.length c6)) B g { s with now := T1 } (.slice A6 T1.length c6) vl vw vk := At.turn hKs HX6.out.hB hk1 HV6.out HX6.out.l HX6.out.w HX6.out.k
      have hXe := hX7.below (below_drew (Below.refl _ _))
      have hKe : Kept W (W5.setCell ⟨g, 1, none⟩ (.slice A6 T1.length c6)).drew (fun k => k = g ∨ vw.ownBlock = some k) := (Kept.setCell (p := ⟨g, 1, none⟩) HK6.out (.inl (.inl rfl)) _).drew
      have hg3 : W.heap.size ≠ g := fun e => by have := HGW.out; omega
      have hB7 := (Be_set HBd6.out HX6.out.hB 1 (.slice A6 T1.length c6)).drew
      have hB3e : (W5.setCell ⟨g, 1, none⟩ (.slice A6 T1.length c6)).drew.heap[W.heap.size]? = some (.cells #[.int .i64 c.f0, .string c.f1, .string c.f2, .slice A3 c.f3.length c3] 61 (0, 0)) := (Below.heap_setCell W5 ⟨g, 1, none⟩ _ _ hg3).trans HB36.out
      have md3 := hXe.cells.2.2.2.1
      have mb0 := blk_cell hB3e 0
      have mb1 := blk_cell hB3e 1
      have mb2 := blk_cell hB3e 2
      have mb3 := blk_cell hB3e 3
      have hCe := HR.out _ hKe
      have hNe := hXe.w
      have hBe : B ≤ (W5.setCell ⟨g, 1, none⟩ (.slice A6 T1.length c6)).drew.heap.size := by have := blk_lt hXe.hg; have := hXe.hB; omega
      have hge : some g ≠ vw.ownBlock := fun e => (hNe.1 g e.symm).2 rfl
      have hne3 : some W.heap.size ≠ vw.ownBlock := fun e => by have := HNW.out _ e.symm; omega
      have hfr : ∀ k, (W5.setCell ⟨g, 1, none⟩ (.slice A6 T1.length c6)).drew.heap.size ≤ k → (B ≤ k ∧ k ≠ g) ∧ some k ≠ vw.ownBlock := fun k hk => by
        have h1 := blk_lt hXe.hg
        refine ⟨⟨Nat.le_trans hXe.hB (by omega), by omega⟩, fun e => ?_⟩
        have := Kd.N_lt hNe k e.symm
        omega
      clear hk1 hKs hX7 hB3e m5 fz
      refine start_ (n := 12) (S := fun w' => w'.cell? ⟨g, 3, none⟩ = some vw ∧ w'.cell? ⟨W.heap.size, 0, none⟩ = some (.int .i64 c.f0) ∧ w'.cell? ⟨W.heap.size, 1, none⟩ = some (.string c.f1) ∧ w'.cell? ⟨W.heap.size, 2, none⟩ = some (.string c.f2) ∧ w'.cell? ⟨W.heap.size, 3, none⟩ = some (.slice A3 c.f3.length c3)) (ds := [11]) #[false, false, false, false, false, false, false, false, false, false, false, false] (by kernel_rfl) rfl rfl ⟨md3, mb0, mb1, mb2, mb3⟩ (fun hHeld => ?_)
      generalize (W5.setCell ⟨g, 1, none⟩ (.slice A6 T1.length c6)).drew = we at md3 mb0 mb1 mb2 mb3 hCe hNe hBe hfr hXe hKe hB7 hge hne3 hHeld ⊢
      refine pure_ (i := 0) (N := some 44) (v := ?_) (a' := ?_) #[true, false, false, false, false, false, false, false, false, false, false, false] rfl rfl (by kernel_rfl) (fun _ _ _ h => h) (Or.inl ⟨by rfl, ?_⟩) ?_ ?_
      rotate_left
      · intro w'
        go_simp
        with_reducible rfl
      rotate_left
      · simp only [Act.put, List.setIfInBounds_toArray, List.set_cons_zero, List.set_cons_succ, i64_w, i32_w]
        rfl
      refine pure_ (i := 1) (N := some 45) (v := ?_) (a' := ?_) #[true, true, false, false, false, false, false, false, false, false, false, false] rfl rfl (by kernel_rfl) (fun _ _ _ h => h) (Or.inl ⟨by rfl, ?_⟩) ?_ ?_
      rotate_left
      · intro w'
        go_simp
        with_reducible rfl
      rotate_left
      · simp only [Act.put, List.setIfInBounds_toArray, List.set_cons_zero, List.set_cons_succ, i64_w, i32_w]
        rfl
      refine pure_ (i := 2) (N := some 46) (v := ?_) (a' := ?_) #[true, true, true, false, false, false, false, false, false, false, false, false] rfl rfl (by kernel_rfl) (fun _ _ _ h => h) (Or.inl ⟨by rfl, ?_⟩) ?_ ?_
      rotate_left
      · intro w'
        go_simp
        with_reducible rfl
      rotate_left
      · simp only [Act.put, List.setIfInBounds_toArray, List.set_cons_zero, List.set_cons_succ, i64_w, i32_w]
        rfl
      refine pure_ (i := 3) (N := some 47) (v := ?_) (a' := ?_) #[true, true, true, true, false, false, false, false, false, false, false, false] rfl rfl (by kernel_rfl) (fun _ _ _ h => h) (Or.inl ⟨by rfl, ?_⟩) ?_ ?_
      rotate_left
      · intro w'
        go_simp
        with_reducible rfl
      rotate_left
      · simp only [Act.put, List.setIfInBounds_toArray, List.set_cons_zero, List.set_cons_succ, i64_w, i32_w]
        rfl
      refine take_ (i := 4) (N := some 48) (v := ?_) (a' := ?_) #[true, true, true, true, true, false, false, false, false, false, false, false] rfl rfl (by kernel_rfl) (fun _ _ _ h => h) (Or.inl ⟨by rfl, ?_⟩) hHeld ?_ ?_
      rotate_left
      · rintro w' ⟨s0, s1, s2, s3, s4⟩
        go_simp
        with_reducible rfl
      rotate_left
      · simp only [Act.put, List.setIfInBounds_toArray, List.set_cons_zero, List.set_cons_succ, i64_w, i32_w]
        rfl
      refine take_ (i := 5) (N := some 49) (v := ?_) (a' := ?_) #[true, true, true, true, true, true, false, false, false, false, false, false] rfl rfl (by kernel_rfl) (fun _ _ _ h => h) (Or.inl ⟨by rfl, ?_⟩) hHeld ?_ ?_
      rotate_left
      · rintro w' ⟨s0, s1, s2, s3, s4⟩
        go_simp
        with_reducible rfl
      rotate_left
      · simp only [Act.put, List.setIfInBounds_toArray, List.set_cons_zero, List.set_cons_succ, i64_w, i32_w]
        rfl
      refine one_ (i := 6) (N := some 50) #[true, true, true, true, true, true, true, false, false, false, false, false] rfl rfl (by kernel_rfl) (by decide) (fun K hK => ?_)
      refine goes_ Tryd.func81 (by kernel_rfl) rfl #[.agg #[.int .i64 c.f0, .string c.f1, .string c.f2, .slice A3 c.f3.length c3]] (by rfl) rfl rfl (by simp only [List.map_toArray, List.map_cons, List.map_nil]; rfl) ?_
      with_reducible refine (disk_Change_own.calls c.f0 c.f1 c.f2 A3 c3 c.f3 c.f0 c.f1 c.f2 c.f3 we hCe HC3.out (own61_eq HG3.out)).mono ?_
      rintro e wB ⟨v5, rfl, hR5, hbB⟩
      refine ⟨_, rfl, ?_⟩
      obtain ⟨A5, c5, rfl⟩ := Kd.R_slice hR5
      have hFK : Kd.FK k61 wB (fun k => we.heap.size ≤ k ∧ k < wB.heap.size) c [.int .i64 c.f0, .string c.f1, .string c.f2, .slice A5 c.f3.length c5] := k61_mkF wB _ c (Kd.R_reads' hR5).2.1 (Kd.R_F (Kd.R_mono (Kd.R_bound hR5) fun k hk => ⟨hk.2.1, hk.2.2.1⟩))
      refine hK.out _ _ ⟨(Below.cell hbB (cell_lt2 md3)).trans md3, (Below.cell hbB (cell_lt2 mb0)).trans mb0, (Below.cell hbB (cell_lt2 mb1)).trans mb1, (Below.cell hbB (cell_lt2 mb2)).trans mb2, (Below.cell hbB (cell_lt2 mb3)).trans mb3⟩ (fun hHeld => ?_)
      clear hK K
      refine norm_ (a' := ?_) ?_ ?_
      rotate_left
      · show Act.put _ (some 50) _ = _
        simp only [Act.put, List.setIfInBounds_toArray, List.set_cons_zero, List.set_cons_succ, i64_w, i32_w]
        rfl
      refine one_ (i := 7) (N := some 51) #[true, true, true, true, true, true, true, true, false, false, false, false] rfl rfl (by kernel_rfl) (by decide) (fun K hK => ?_)
      refine value_ (w1 := ?_) (v := ?_) (by rfl) rfl ?_ ?_
      rotate_left 2
      · go_simp
        constructor
        · rfl
        · rfl
      have hbL := below_alloc (Below.refl wB.heap.size wB) (.cells #[.int .i64 c.f0, .string c.f1, .string c.f2, .slice A5 c.f3.length c5] 61)
      refine hK.out _ _ ⟨(Below.cell hbL (Nat.lt_of_lt_of_le (cell_lt2 md3) hbB.size)).trans ((Below.cell hbB (cell_lt2 md3)).trans md3), (Below.cell hbL (Nat.lt_of_lt_of_le (cell_lt2 mb0) hbB.size)).trans ((Below.cell hbB (cell_lt2 mb0)).trans mb0), (Below.cell hbL (Nat.lt_of_lt_of_le (cell_lt2 mb1) hbB.size)).trans ((Below.cell hbB (cell_lt2 mb1)).trans mb1), (Below.cell hbL (Nat.lt_of_lt_of_le (cell_lt2 mb2) hbB.size)).trans ((Below.cell hbB (cell_lt2 mb2)).trans mb2), (Below.cell hbL (Nat.lt_of_lt_of_le (cell_lt2 mb3) hbB.size)).trans ((Below.cell hbB (cell_lt2 mb3)).trans mb3)⟩ (fun hHeld => ?_)
      clear hK K
      refine norm_ (a' := ?_) ?_ ?_
      rotate_left
      · show Act.put _ (some 51) _ = _
        simp only [Act.put, List.setIfInBounds_toArray, List.set_cons_zero, List.set_cons_succ, i64_w, i32_w]
        rfl
      refine one_ (i := 8) (N := some 52) #[true, true, true, true, true, true, true, true, true, false, false, false] rfl rfl (by kernel_rfl) (by decide) (fun K hK => ?_)
      refine Kd.N_append_step k61 (w0 := we) B (by rfl) (.tmp 48) (.tmp 51) 56 61 _ 64 rfl Tryd.underlying56 info61 rfl (by decide) (by omega) vw s.waits c [.int .i64 c.f0, .string c.f1, .string c.f2, .slice A5 c.f3.length c5] (fun k => B ≤ k ∧ k ≠ g) (fun k => we.heap.size ≤ k ∧ k < wB.heap.size) rfl rfl hFK (fun k hk => hfr k hk.1) (fun k hk => (hfr k (Nat.le_trans hbB.size hk)).1) (Kd.N_below hNe hbB) (hbB.mono hBe) (Nat.le_trans hBe hbB.size) hwl ?_
      intro v1 w1 hN1 hB1 hG1 hat1
      rw [← HWS.out] at hN1
      obtain ⟨A1, c1, rfl⟩ := Kd.N_slice hN1
      have hge1 : w1.heap[g]? = _ := (hG1.block g (Nat.lt_of_lt_of_le (blk_lt hXe.hg) hbB.size) hge).trans ((hbB.block g (blk_lt hXe.hg)).trans hXe.hg)
      have fz3 := blk_frozen hge1 3
      refine hK.out _ _ ⟨(hG1.cell_far _ (Nat.lt_of_lt_of_le (cell_lt2 md3) hbB.size) hge).trans ((Below.cell hbB (cell_lt2 md3)).trans md3), (hG1.cell_far _ (Nat.lt_of_lt_of_le (cell_lt2 mb0) hbB.size) hne3).trans ((Below.cell hbB (cell_lt2 mb0)).trans mb0), (hG1.cell_far _ (Nat.lt_of_lt_of_le (cell_lt2 mb1) hbB.size) hne3).trans ((Below.cell hbB (cell_lt2 mb1)).trans mb1), (hG1.cell_far _ (Nat.lt_of_lt_of_le (cell_lt2 mb2) hbB.size) hne3).trans ((Below.cell hbB (cell_lt2 mb2)).trans mb2), (hG1.cell_far _ (Nat.lt_of_lt_of_le (cell_lt2 mb3) hbB.size) hne3).trans ((Below.cell hbB (cell_lt2 mb3)).trans mb3)⟩ (fun hHeld => ?_)
      clear hK K
      refine norm_ (a' := ?_) ?_ ?_
      rotate_left
      · show Act.put _ (some 52) _ = _
        simp only [Act.put, List.setIfInBounds_toArray, List.set_cons_zero, List.set_cons_succ, i64_w, i32_w]
        rfl
      refine pure_ (i := 9) (N := some 53) (v := ?_) (a' := ?_) #[true, true, true, true, true, true, true, true, true, true, false, false] rfl rfl (by kernel_rfl) (fun _ _ _ h => h) (Or.inl ⟨by rfl, ?_⟩) ?_ ?_
      rotate_left
      · intro w'
        go_simp
        with_reducible rfl
      rotate_left
      · simp only [Act.put, List.setIfInBounds_toArray, List.set_cons_zero, List.set_cons_succ, i64_w, i32_w]
        rfl
      refine pure_ (i := 10) (N := some 54) (v := ?_) (a' := ?_) #[true, true, true, true, true, true, true, true, true, true, true, false] rfl rfl (by kernel_rfl) (fun _ _ _ h => h) (Or.inl ⟨by rfl, ?_⟩) ?_ ?_
      rotate_left
      · intro w'
        go_simp
        with_reducible rfl
      rotate_left
      · simp only [Act.put, List.setIfInBounds_toArray, List.set_cons_zero, List.set_cons_succ, i64_w, i32_w]
        rfl
      refine last_ (i := 11) (N := none) #[true, true, true, true, true, true, true, true, true, true, true, true] rfl rfl (by kernel_rfl) (by decide) (fun K hK => ?_)
      refine skip_ (w1 := ?_) (by rfl) rfl ?_ ?_
      rotate_left
      · go_simp
        rfl
      refine hK.out _ _ ?_
      clear hK K
      refine done_ (by kernel_rfl) ?_
      have c5' := blk_cell hge1 5
      have fz := fun i => blk_frozen hge1 i
      have HG1 := Aside0.mk hge1
      have HN1 := Aside0.mk hN1
      have hn1 := Kd.V_after (v1 := .slice A1 ws.length c1) (u := vw) (ok := fun k => B ≤ k ∧ k ≠ g) (Kd.V_mono (Kd.V_below hXe.n hbB) fun k h => ⟨⟨h.1, h.2.1⟩, h.2.2⟩) hG1 hat1
      have hl1 := Kd.V_after (v1 := .slice A1 ws.length c1) (u := vw) (ok := fun k => B ≤ k ∧ k ≠ g) (Kd.V_mono (Kd.V_below hXe.l hbB) fun k h => ⟨⟨h.1, h.2.1⟩, h.2.2⟩) hG1 hat1
      have hk1 := Kd.V_after (v1 := .slice A1 ws.length c1) (u := vw) (ok := fun k => B ≤ k ∧ k ≠ g) (Kd.V_mono (Kd.V_below hXe.k hbB) fun k h => ⟨⟨h.1, h.2.1⟩, h.2.2⟩) hG1 hat1
      have hK1 : Kept W w1 (fun k => k = g ∨ vw.ownBlock = some k) := Kept.of_grown hG1 (hKe.below hbB) (fun k hk => .inl (.inr hk))
      have HV1 := Aside0.mk (And.intro hn1 (And.intro hl1 hk1))
      have HK1 := Aside0.mk hK1
      have HB1 := Aside0.mk (hB7.trans hB1)
      have HXH := Aside0.mk hXe.hB
      have HOB : Aside0 (∀ k, (Value.slice A1 ws.length c1).ownBlock = some k → vw.ownBlock = some k ∨ W.heap.size ≤ k) := ⟨fun k hk => by
        rcases hat1 with e | ⟨b_, e, hb_⟩
        · exact .inl (e.symm.trans hk)
        · rw [hk] at e
          have e1 := Option.some.inj e
          have e2 := hKe.1
          have e3 := hbB.size
          exact .inr (by omega)⟩
      clear hge1 hN1 hn1 hl1 hk1 hK1 hHeld hXe hKe hCe hNe hBe hge hne3 hfr hR5 hFK hG1 hat1 hB7 hB1 md3 mb0 mb1 mb2 mb3 hbB
      go_wp2_with (fail)
      go_ret
      have hk2 := blk_put HG1.out 3 (.slice A1 ws.length c1) (cs' := #[.int .i64 s.q, .slice A6 T1.length c6, vl, .slice A1 ws.length c1, .bool s.off, .int .i64 s.count, .int .i64 s.fuse, vk, .int .i64 s.torn]) rfl
      have hk3 := blk_put hk2 5 (.int .i64 (wrap64 (s.count + 1))) (cs' := #[.int .i64 s.q, .slice A6 T1.length c6, vl, .slice A1 ws.length c1, .bool s.off, .int .i64 (wrap64 (s.count + 1)), .int .i64 s.fuse, vk, .int .i64 s.torn]) rfl
      have hKs := Ke_set (Ke_set (Kept.refl w1 (fun k => k = g)) 3 (.slice A1 ws.length c1)) 5 (.int .i64 (wrap64 (s.count + 1)))
      have hKW := Kept.setCell (p := ⟨g, 5, none⟩) (Kept.setCell (p := ⟨g, 3, none⟩) HK1.out (.inl (.inl rfl)) (.slice A1 ws.length c1)) (.inl (.inl rfl)) (.int .i64 (wrap64 (s.count + 1)))
      have hBF := Be_set (Be_set HB1.out HXH.out 3 (.slice A1 ws.length c1)) HXH.out 5 (.int .i64 (wrap64 (s.count + 1)))
      have hd : do0 s c = ({ s with now := T1, waits := ws, count := wrap64 (s.count + 1) }, 0) := HDO.out
      rw [hd]
      generalize (w1.setCell ⟨g, 3, none⟩ (.slice A1 ws.length c1)).setCell ⟨g, 5, none⟩ (.int .i64 (wrap64 (s.count + 1))) = w2 at *
      refine ⟨rfl, ⟨.slice A6 T1.length c6, .slice A1 ws.length c1, ⟨At.turn hKs HXH.out hk3 (Kd.V_mono HV1.out.1 fun k h => ⟨h.1.1, h.1.2, h.2⟩) (Kd.V_mono HV1.out.2.1 fun k h => ⟨h.1.1, h.1.2, h.2⟩) HN1.out (Kd.V_mono HV1.out.2.2 fun k h => ⟨h.1.1, h.1.2, h.2⟩), HOB.out⟩⟩, hKW, hBF⟩
  · have g1 : (E1 != 0) = true := bne_iff_ne.2 hE
    have HE := Aside0.mk hE
    have HX5 := Aside0.mk hX5
    have HK5 := Aside0.mk hK5
    have HBd5 := Aside0.mk hBd5
    clear hE hX5 hK5 hBd5 hB35 hV5 hk5
    go_wp2_with (fail)
    go_ret
    have hd : do0 s c = (s, E1) := by
      rw [do0, if_neg (by rw [← HSO.out]; exact Bool.false_ne_true), HT.out, if_pos HE.out]
    rw [hd]
    first
      | exact ⟨_, _, rfl, ⟨HX5.out, fun k h => .inl h⟩, HK5.out, HBd5.out⟩
      | exact ⟨rfl, ⟨_, _, ⟨HX5.out, fun k h => .inl h⟩⟩, HK5.out, HBd5.out⟩
end Go.Proofs.YtidlldfghkaeeaaDoor.P
end
section
namespace Go.Proofs.YtidlldfghkaeeaaDoor.P
open Go.RowKit Go.Proofs.YtidlldfghkaeeaaDoorW.PrintWords Go.Proofs.YtidlldfghkaeeaaDoorW.PrintLast Go.Proofs.YtidlldfghkaeeaaDoorW.PrintMore
attribute [local go_sem] max2_int min2_int max_two min_two max_three min_three max_four min_four   -- for this text's walks alone
set_option linter.unusedVariables false
set_option linter.unusedSimpArgs false
/-! ### slices_Clone_int_int: function 98 -/
def slices_Clone_int_int.f (l0 : List Int) : Option (List Int) := (some (([] : List Int) : List Int)).bind fun y211 => (if y211.length + l0.length < 17592186044416 then (some (y211 ++ l0)) else (none))
-- NOT PRINTED: function 60 (disk_Disk_Fuse)

-- NOT PRINTED: function 10 (tallymanlaw9_DiskKnown)

end Go.Proofs.YtidlldfghkaeeaaDoor.P
end
section
namespace Go.Proofs.YtidlldfghkaeeaaDoor.P
open Go.RowKit Go.Proofs.YtidlldfghkaeeaaDoorW.PrintWords Go.Proofs.YtidlldfghkaeeaaDoorW.PrintLast Go.Proofs.YtidlldfghkaeeaaDoorW.PrintMore
set_option linter.unusedVariables false
set_option linter.unusedSimpArgs false
attribute [local go_sem] max2_int min2_int max_two min_two
theorem Do_live (W : World) (B g : Nat) (s : Dk) (vn vl vw vk : Value) (c : S61) (A3 : Option Addr) (c3 : Nat) (h : At W B g s vn vl vw vk) (hof : s.off = false) (hf : s.fuse ≤ 0) (hgt : GT30 s.now) (hr : ∀ W', Kept W W' (fun k => k = g ∨ vw.ownBlock = some k) → Kd.C (Kd.int .u8) W' A3 c.f3.length c.f3) (hc3 : c.f3.length ≤ c3) (hg : okG c) (hw : s.waits.length ≤ 100000) :
    Calls Tryd.prog 34 #[.pointer (some ⟨g, 0, none⟩), .agg #[.int .i64 c.f0, .string c.f1, .string c.f2, .slice A3 c.f3.length c3]] W fun e w' => ∃ vn' vw', e = .returned (.int .i64 (do0 s c).2) ∧ AtO W w' B g (do0 s c).1 vn' vl vw vw' vk ∧ Kept W w' (fun k => k = g ∨ vw.ownBlock = some k) ∧ Below B W w' := by
  refine DoG_calls W B g s s vn vl vw vk c A3 c3 h hof (fun W1 h1 => (begin_calls W1 B g s vn vl vw vk h1 hf).mono ?_) hgt hr hc3 hg hw
  rintro e w' ⟨rfl, rfl⟩
  rw [hof]
  exact ⟨rfl, h1, Kept.refl _ _, Below.refl _ _⟩
end Go.Proofs.YtidlldfghkaeeaaDoor.P
end
section
namespace Go.Proofs.YtidlldfghkaeeaaDoor.P
open Go.RowKit Go.Proofs.YtidlldfghkaeeaaDoorW.PrintWords Go.Proofs.YtidlldfghkaeeaaDoorW.PrintLast Go.Proofs.YtidlldfghkaeeaaDoorW.PrintMore
set_option linter.unusedVariables false
set_option linter.unusedSimpArgs false
instance : DecidableEq S30 := fun a b => if h : a.f0 = b.f0 ∧ a.f1 = b.f1 ∧ a.f2 = b.f2 then isTrue (by cases a; cases b; simp_all) else isFalse (by rintro rfl; exact h ⟨rfl, rfl, rfl⟩)
def tallymanlaw8_awake.f : Option Bool := some true
end Go.Proofs.YtidlldfghkaeeaaDoor.P
end
section
namespace Go.Proofs.YtidlldfghkaeeaaDoor.P
open Go.RowKit Go.Proofs.YtidlldfghkaeeaaDoorW.PrintWords Go.Proofs.YtidlldfghkaeeaaDoorW.PrintLast Go.Proofs.YtidlldfghkaeeaaDoorW.PrintMore
set_option linter.unusedVariables false
set_option linter.unusedSimpArgs false
theorem fld26 (v : Value) (W : World) : (Instr.field 26 (.agg #[v]) 0).run Tryd.prog W = .ok v W := by kernel_rfl
def dw1 : List S30 := [⟨⟨#[97]⟩, false, [120, 121]⟩]
def dwc : S61 := ⟨1, ⟨#[97]⟩, ⟨#[]⟩, [120, 121]⟩
theorem dw_done : done0 [] dwc = (dw1, 0) := by decide +kernel
def dw0 : Dk := ⟨99, [], [], [], false, 0, 0, [], 0⟩
theorem dw_do : do0 dw0 dwc = ({ dw0 with now := dw1, waits := [dwc], count := wrap64 (0 + 1) }, 0) := by
  unfold do0
  have h : done0 dw0.now dwc = (dw1, 0) := dw_done
  rw [if_neg (by decide), h, if_neg (by decide), if_neg (by decide)]
  rfl
theorem dw_okG : okG dwc := ⟨by decide, by decide, by decide⟩
theorem dw_GT : GT30 dw1 := by have := done0_GT (c := dwc) GT_nil30; rw [dw_done] at this; exact this
set_option maxHeartbeats 8000000 in
set_option maxRecDepth 100000 in
theorem awake9_calls (w : World) :
    Calls Tryd.prog 31 #[] w fun e w' => e = .returned (.bool true) ∧ Below w.heap.size w w' := by
  have hu26 := Tryd.underlying26
  have hu61 := Tryd.underlying61
  have hf26 := fld26
  go_enter Tryd.func31, Tryd.ntmps31
  go_wp2_with (fail)
  refine (New_calls 99 w (by decide)).mono ?_
  rintro e W1 ⟨g, vn, vl, rfl, hX1, hb1⟩
  dsimp only
  have HX1 := Aside0.mk hX1
  have HB1 := Aside0.mk hb1
  clear hX1 hb1
  go_wp2_with ((with_reducible refine gate_dst (N := 18) rfl ?_); refine V_mlit (xs := [120, 121]) (n := 2) (N := 18) ?hg ?hd (.tmp 17) (t := 23) (e := 5) rfl rfl Tryd.underlying23 Tryd.underlying5 rfl rfl (by decide) ?_; (case hd => rfl); (case hg => rfl); intro vx wx hv bx hg_ hnew; refine Stop.out ?_)
  obtain ⟨Ax, cx, rfl⟩ := Kd.V_slice hv
  have HV := Aside0.mk hv
  have HBX := Aside0.mk bx
  clear hv bx hg_ hnew
  constructor
  go_wp2_with (fail)
  have hX2 := HX1.out.below HBX.out
  have hcx := (Kd.V_reads' HV.out).2.1
  have hgW := blk_lt HX1.out.hg
  refine (Do_calls wx w.heap.size g dw0 vn vl (.slice none 0 0) (.slice none 0 0) dwc Ax cx hX2 (Int.le_refl 0) GT_nil30 (fun W' hK => (Kd.V_reads' (Kd.V_kept HV.out hK fun k hk h => ?_)).2.2) hcx dw_okG (Nat.zero_le _)).mono ?_
  · rcases h with h | h
    · omega
    · cases h
  rintro e W3 ⟨vn3, vw3, rfl, hX3, hK3, hB3⟩
  rw [dw_do] at hX3 ⊢
  have HX3 := Aside0.mk hX3
  have HK3 := Aside0.mk ((HX1.out.thenB HB1.out HBX.out).trans hB3)
  clear hX3 hK3 hB3 hX2 hcx hgW
  dsimp only
  go_wp2_with (fail)
  refine (Now_calls W3 w.heap.size g _ vn3 vl vw3 (.slice none 0 0) HX3.out (GT_okC dw_GT)).mono ?_
  rintro e W4 ⟨v4, rfl, hv4, hb4⟩
  obtain ⟨A4, c4, rfl⟩ := Kd.V_slice hv4
  have HX4 := Aside0.mk (HX3.out.below hb4)
  have HK4 := Aside0.mk (HX3.out.thenB HK3.out hb4)
  clear hv4 hb4
  dsimp only
  go_wp2_with (fail)
  refine (Crash_nil W4 w.heap.size g _ vn3 vl vw3 (.slice none 0 0) (-1) HX4.out (by decide) rfl).mono ?_
  rintro e W5 ⟨rfl, hX5, hK5, hB5⟩
  have HX5 := Aside0.mk hX5
  have HK5 := Aside0.mk (HK4.out.trans hB5)
  clear hX5 hK5 hB5
  dsimp only
  go_wp2_with (fail)
  refine (Now_calls W5 w.heap.size g _ vl vl (.slice none 0 0) (.slice none 0 0) HX5.out (GT_okC GT_nil30)).mono ?_
  rintro e W6 ⟨v6, rfl, hv6, hb6⟩
  obtain ⟨A6, c6, rfl⟩ := Kd.V_slice hv6
  have HX6 := Aside0.mk (HX5.out.below hb6)
  have HK6 := Aside0.mk (HX5.out.thenB HK5.out hb6)
  clear hv6 hb6
  dsimp only
  go_wp2_with (fail)
  refine (Off_calls W6 w.heap.size g _ vl vl (.slice none 0 0) (.slice none 0 0) HX6.out).mono ?_
  rintro e W7 ⟨rfl, rfl⟩
  dsimp only
  go_wp2_with (fail)
  go_ret
  exact ⟨rfl, HK6.out⟩
end Go.Proofs.YtidlldfghkaeeaaDoor.P
end
