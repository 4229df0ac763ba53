/- Put together by pack2.py: DskD, PfSlicesIndexIntInt -/
import Derived.Test.YtidlldfghkaeeaaDoorZrDskAEtc
import Derived.Test.YtidlldfghkaeeaaDoorZrPfTreeKidsEtc
import Derived.Test.YtidlldfghkaeeaaDoorZrW0
section
namespace Go.Proofs.YtidlldfghkaeeaaDoor.P
open Go.RowKit Go.Proofs.YtidlldfghkaeeaaDoorW.PrintWords Go.Proofs.YtidlldfghkaeeaaDoorW.PrintLast Go.Proofs.YtidlldfghkaeeaaDoorW.PrintMore
set_option linter.unusedVariables false
set_option linter.unusedSimpArgs false
abbrev PD (B g : Nat) (vw : Value) (k : Nat) : Prop := B ≤ k ∧ k ≠ g ∧ some k ≠ vw.ownBlock
/-- The tree behind a change; the box of it is not there yet, or stands. -/
structure DoV (P : Nat → Prop) (wd W : World) (bx : Option Nat) (v : Value) (l : List S30) : Prop where
  hV : Kd.V k30 30 W 0 (fun k => P k ∧ bx ≠ some k) v l
  hb : Below wd.heap.size wd W
  hx : ∀ b, bx = some b → W.heap[b]? = some (.cells #[.slice none 0 0] 26 (0, 0)) ∧ wd.heap.size ≤ b
section
variable {P : Nat → Prop} {wd W : World} {bx : Option Nat} {v : Value} {l l0 : List S30} {A0 A3 : Option Addr} {c0 c3 : Nat} {c : S61}
theorem DoV.alloc (h : DoV P wd W none v l) : DoV P wd (W.alloc (.cells #[.slice none 0 0] 26)) (some W.heap.size) v l :=
  ⟨Kd.V_mono (Kd.V_alloc (Kd.V_bound h.hV) _) fun k hk => ⟨hk.1.1, fun e => by injection e with e; have := hk.2; omega⟩, h.hb.trans ((below_alloc (Below.refl W.heap.size W) _).mono h.hb.size), fun b hb => by
    injection hb with hb
    subst hb
    exact ⟨blk_new W _, h.hb.size⟩⟩
theorem Do_done0 {T1 : List S30} {E1 : Int} (hT : done0 l0 c = (T1, E1)) (hP : ∀ k, wd.heap.size ≤ k → P k) (hV : Kd.V k30 30 wd 0 (fun k => P k ∧ k < wd.heap.size) (.slice A0 l0.length c0) l0) (hr : Kd.C (Kd.int .u8) wd A3 c.f3.length c.f3) (hc : c.f3.length ≤ c3) (h : okT l0) (hg : okG c) :
    Calls Tryd.prog 80 #[.agg #[.slice A0 l0.length c0], .agg #[.int .i64 c.f0, .string c.f1, .string c.f2, .slice A3 c.f3.length c3]] wd fun e w' => ∃ v' : Value, e = .returned (.tuple #[.agg #[v'], .int .i64 E1]) ∧ DoV P wd w' none v' T1 := by
  refine (disk_done.calls (fun k => P k ∧ k < wd.heap.size) A0 c0 l0 c.f0 c.f1 c.f2 A3 c3 c.f3 T1 E1 wd hV hr hc ((disk_done.eq h hg).trans (congrArg some hT))).mono ?_
  rintro e w' ⟨v', h1, h2, h3⟩
  exact ⟨v', h1, ⟨Kd.V_mono h2 fun k hk => ⟨hk.elim (fun h => h.1) (hP k), fun e => by cases e⟩, h3, fun b hb => by cases hb⟩⟩
theorem Do_done1 {T1 : List S30} {E1 : Int} (hT : done0 l0 c = (T1, E1)) (hP : ∀ k, wd.heap.size ≤ k → P k) (hV : Kd.V k30 30 wd 0 (fun k => P k ∧ k < wd.heap.size) (.slice A0 l0.length c0) l0) (hr : Kd.C (Kd.int .u8) wd A3 c.f3.length c.f3) (hc : c.f3.length ≤ c3) (h : okT l0) (hg : okG c) :
    Calls Tryd.prog 80 #[.agg #[.slice A0 l0.length c0], .agg #[.int .i64 c.f0, .string c.f1, .string c.f2, .slice A3 c.f3.length c3]] (wd.alloc (.cells #[.slice none 0 0] 26)) fun e w' => ∃ v' : Value, e = .returned (.tuple #[.agg #[v'], .int .i64 E1]) ∧ DoV P wd w' (some wd.heap.size) v' T1 := by
  have hs : (wd.alloc (.cells #[.slice none 0 0] 26)).heap.size = wd.heap.size + 1 := World.size_alloc _ _
  have hb := below_alloc (Below.refl wd.heap.size wd) (.cells #[.slice none 0 0] 26)
  have hx := blk_new wd (.cells #[.slice none 0 0] 26)
  refine (disk_done.calls (fun k => P k ∧ k < wd.heap.size) A0 c0 l0 c.f0 c.f1 c.f2 A3 c3 c.f3 T1 E1 _ (Kd.V_alloc hV _) (Kd.C_below hr hb) hc ((disk_done.eq h hg).trans (congrArg some hT))).mono ?_
  generalize wd.alloc (.cells #[.slice none 0 0] 26) = W at *
  rintro e w' ⟨v', h1, h2, h3⟩
  refine ⟨v', h1, ⟨Kd.V_mono h2 fun k hk => ⟨hk.elim (fun h => h.1) (fun h => hP k (by omega)), fun e => ?_⟩, hb.trans (h3.mono hb.size), fun b hb => ?_⟩⟩
  · injection e with e
    rcases hk with hk | hk
    · have := hk.2
      omega
    · omega
  · injection hb with hb
    subst hb
    exact ⟨(h3.block _ (blk_lt hx)).trans hx, Nat.le_refl _⟩
end
theorem own61_eq {c : S61} (h : c.f3.length ≤ 1000000000000) : disk_Change_own.f c.f0 c.f1 c.f2 c.f3 = some (c.f0, c.f1, c.f2, c.f3) := by
  unfold disk_Change_own.f
  rw [bclone_eq h, Option.bind_some]
theorem GT_B {l : List S30} (h : GT30 l) : tree_Bytes.f 50 l = some (nB30 l : Int) := by
  rw [tree_Bytes.eq (GT_okT h) (by omega), if_pos h]
set_option maxHeartbeats 8000000 in
set_option maxRecDepth 100000 in
theorem Do_calls (W : World) (B g : Nat) (s : Dk) (vn vl vw vk : Value) (c : S61) (A3 : Option Addr) (c3 : Nat) (h : At W B g s vn vl vw vk) (hf : s.fuse ≤ 0) (hgt : GT30 s.now) (hr : ∀ W', Kept W W' (fun k => k = g ∨ vw.ownBlock = some k) → Kd.C (Kd.int .u8) W' A3 c.f3.length c.f3) (hc3 : c.f3.length ≤ c3) (hg : okG c) (hw : s.waits.length ≤ 100000) :
    Calls Tryd.prog 34 #[.pointer (some ⟨g, 0, none⟩), .agg #[.int .i64 c.f0, .string c.f1, .string c.f2, .slice A3 c.f3.length c3]] W fun e w' => ∃ vn' vw', e = .returned (.int .i64 (do0 s c).2) ∧ At w' B g (do0 s c).1 vn' vl vw' vk ∧ Kept W w' (fun k => k = g ∨ vw.ownBlock = some k) ∧ Below B W w' := by
  have hu101 := Tryd.underlying101
  have hu26 := Tryd.underlying26
  have hu61 := Tryd.underlying61
  have hb0 := below_alloc (Below.refl W.heap.size W) (.cells #[.int .i64 c.f0, .string c.f1, .string c.f2, .slice A3 c.f3.length c3] 61)
  have k30' := blk_new W (.cells #[.int .i64 c.f0, .string c.f1, .string c.f2, .slice A3 c.f3.length c3] 61)
  have h1 := h.below hb0
  have hK0 : Kept W (W.alloc (.cells #[.int .i64 c.f0, .string c.f1, .string c.f2, .slice A3 c.f3.length c3] 61)) (fun k => k = g ∨ vw.ownBlock = some k) := Kept.of_below hb0 _
  have hgW := blk_lt h.hg
  have hBW : B ≤ W.heap.size := by have := h.hB; omega
  have hB0 := hb0.mono hBW
  have hbg := begin_calls _ B g s vn vl vw vk h1 hf
  have HGT := Aside0.mk hgt
  have HG := Aside0.mk hg
  have HW := Aside0.mk hw
  have HC3 := Aside0.mk hc3
  have HR := Aside0.mk hr
  have HGW := Aside0.mk hgW
  have HNW : Aside0 (∀ k, vw.ownBlock = some k → k < W.heap.size) := ⟨Kd.N_lt h.w⟩
  obtain ⟨T1, E1, hT⟩ : ∃ T1 E1, done0 s.now c = (T1, E1) := ⟨_, _, rfl⟩
  have hgT : GT30 T1 := by have := done0_GT (c := c) hgt; rw [hT] at this; exact this
  have HT := Aside0.mk hT
  have HGT1 := Aside0.mk hgT
  have HG3 := Aside0.mk hg.2.2
  obtain ⟨ws, hws⟩ : ∃ ws, ws = s.waits ++ [c] := ⟨_, rfl⟩
  have HWS := Aside0.mk hws
  obtain ⟨so, hso⟩ : ∃ so, so = s.off := ⟨_, rfl⟩
  rw [← hso] at hbg
  have HSO := Aside0.mk hso
  clear h hb0 hr hgt hg hw hf hso hc3 hgW hT hgT hws
  go_enter Tryd.func34, Tryd.ntmps34
  go_wp2_with (fail)
  generalize hW1 : W.alloc (.cells #[.int .i64 c.f0, .string c.f1, .string c.f2, .slice A3 c.f3.length c3] 61) = W1 at *
  have HH := Aside0.mk h1
  have HK0 := Aside0.mk hK0
  have HB0 := Aside0.mk hB0
  refine hbg.mono ?_
  rintro e W2 ⟨rfl, rfl⟩
  clear h1 hK0 hB0 hW1
  dsimp only
  cases so with
  | true =>
    go_wp2_with (fail)
    go_ret
    have hd : do0 s c = (s, 15) := by rw [do0, if_pos HSO.out.symm]
    exact ⟨vn, vw, by rw [hd]; rfl, by rw [hd]; exact HH.out, HK0.out, HB0.out⟩
  | false =>
    go_wp2_with (fail)
    obtain ⟨An, cn0, hvn, _⟩ := HH.out.n
    subst hvn
    have hXd := HH.out.below (below_drew (Below.refl W2.heap.size W2))
    have hBd : Below B W W2.drew := HB0.out.drew
    have hKd : Kept W W2.drew (fun k => k = g ∨ vw.ownBlock = some k) := HK0.out
    have hB3 : W2.drew.heap[W.heap.size]? = some (.cells #[.int .i64 c.f0, .string c.f1, .string c.f2, .slice A3 c.f3.length c3] 61 (0, 0)) := k30'
    have md1 := hXd.cells.2.1
    have mb0 := blk_cell hB3 0
    have mb1 := blk_cell hB3 1
    have mb2 := blk_cell hB3 2
    have mb3 := blk_cell hB3 3
    have hPf : ∀ k, W2.drew.heap.size ≤ k → PD B g vw k := fun k hk => by
      have h1 := blk_lt hXd.hg
      refine ⟨Nat.le_trans hXd.hB (by omega), by omega, fun e => ?_⟩
      have := Kd.N_lt hXd.w k e.symm
      omega
    have hVd : Kd.V k30 30 W2.drew 0 (fun k => PD B g vw k ∧ k < W2.drew.heap.size) (.slice An s.now.length cn0) s.now := Kd.V_bound hXd.n
    have hCd := HR.out _ hKd
    have HB3 := Aside0.mk hB3
    clear k30' hB3 HH HK0 HB0
    refine start_ (n := 12) (S := fun w' => w'.cell? ⟨g, 1, none⟩ = some (.slice An s.now.length cn0) ∧ w'.cell? ⟨W.heap.size, 0, none⟩ = some (.int .i64 c.f0) ∧ w'.cell? ⟨W.heap.size, 1, none⟩ = some (.string c.f1) ∧ w'.cell? ⟨W.heap.size, 2, none⟩ = some (.string c.f2) ∧ w'.cell? ⟨W.heap.size, 3, none⟩ = some (.slice A3 c.f3.length c3)) (ds := [10]) #[false, false, false, false, false, false, false, false, false, false, false, false] (by kernel_rfl) rfl rfl ⟨md1, mb0, mb1, mb2, mb3⟩ (fun hHeld => ?_)
    generalize W2.drew = wd at md1 mb0 mb1 mb2 mb3 hPf hVd hCd hXd hKd hBd HB3 hHeld ⊢
    refine pure_ (i := 0) (N := some 12) (v := ?_) (a' := ?_) #[true, false, false, false, false, false, false, false, false, false, false, false] rfl rfl (by kernel_rfl) (fun _ _ _ h => h) (Or.inl ⟨by rfl, ?_⟩) ?_ ?_
    rotate_left
    · intro w'
      go_simp
      with_reducible rfl
    rotate_left
    · simp only [Act.put, List.setIfInBounds_toArray, List.set_cons_zero, List.set_cons_succ, i64_w, i32_w]
      rfl
    refine pure_ (i := 1) (N := some 13) (v := ?_) (a' := ?_) #[true, true, false, false, false, false, false, false, false, false, false, false] rfl rfl (by kernel_rfl) (fun _ _ _ h => h) (Or.inl ⟨by rfl, ?_⟩) ?_ ?_
    rotate_left
    · intro w'
      go_simp
      with_reducible rfl
    rotate_left
    · simp only [Act.put, List.setIfInBounds_toArray, List.set_cons_zero, List.set_cons_succ, i64_w, i32_w]
      rfl
    refine pure_ (i := 2) (N := some 14) (v := ?_) (a' := ?_) #[true, true, true, false, false, false, false, false, false, false, false, false] rfl rfl (by kernel_rfl) (fun _ _ _ h => h) (Or.inl ⟨by rfl, ?_⟩) ?_ ?_
    rotate_left
    · intro w'
      go_simp
      with_reducible rfl
    rotate_left
    · simp only [Act.put, List.setIfInBounds_toArray, List.set_cons_zero, List.set_cons_succ, i64_w, i32_w]
      rfl
    refine take_ (i := 3) (N := some 15) (v := ?_) (a' := ?_) #[true, true, true, true, false, false, false, false, false, false, false, false] rfl rfl (by kernel_rfl) (fun _ _ _ h => h) (Or.inl ⟨by rfl, ?_⟩) hHeld ?_ ?_
    rotate_left
    · rintro w' ⟨s0, s1, s2, s3, s4⟩
      go_simp
      with_reducible rfl
    rotate_left
    · simp only [Act.put, List.setIfInBounds_toArray, List.set_cons_zero, List.set_cons_succ, i64_w, i32_w]
      rfl
    refine take_ (i := 4) (N := some 16) (v := ?_) (a' := ?_) #[true, true, true, true, true, false, false, false, false, false, false, false] rfl rfl (by kernel_rfl) (fun _ _ _ h => h) (Or.inl ⟨by rfl, ?_⟩) hHeld ?_ ?_
    rotate_left
    · rintro w' ⟨s0, s1, s2, s3, s4⟩
      go_simp
      with_reducible rfl
    rotate_left
    · simp only [Act.put, List.setIfInBounds_toArray, List.set_cons_zero, List.set_cons_succ, i64_w, i32_w]
      rfl
    refine join_ (σ := Value × Nat) 2 #[true, true, true, true, true, true, true, true, true, true, false, false] (fun s_ => [(17, .tuple #[.agg #[s_.1], .int .i64 E1]), (11, .tuple #[.agg #[s_.1], .int .i64 E1]), (18, .agg #[s_.1]), (19, .int .i64 E1), (5, .pointer (some ⟨s_.2, 0, none⟩))]) (fun s_ w' => DoV (PD B g vw) wd w' (some s_.2) s_.1 T1) ?_ ?_
    rotate_left
    · intro hCont
      refine two_ (i := 5) (j := 9) (Ni := some 17) (Nj := some 5) #[true, true, true, true, true, true, false, false, false, false, false, false] #[true, true, true, true, true, false, false, false, false, true, false, false] rfl rfl rfl rfl (by kernel_rfl) (by decide) (by decide) (fun K hK => ?_) (fun K hK => ?_)
      · skip
        refine goes_ Tryd.func80 (by kernel_rfl) rfl #[.agg #[.slice An s.now.length cn0], .agg #[.int .i64 c.f0, .string c.f1, .string c.f2, .slice A3 c.f3.length c3]] (by rfl) rfl rfl (by simp only [List.map_toArray, List.map_cons, List.map_nil]; rfl) ?_
        with_reducible refine (Do_done0 HT.out hPf hVd hCd HC3.out (GT_okT HGT.out) HG.out).mono ?_
        rintro e wA ⟨vA, rfl, hW⟩
        refine ⟨_, rfl, ?_⟩
        refine hK.out _ _ ⟨(Below.cell hW.hb (cell_lt2 md1)).trans md1, (Below.cell hW.hb (cell_lt2 mb0)).trans mb0, (Below.cell hW.hb (cell_lt2 mb1)).trans mb1, (Below.cell hW.hb (cell_lt2 mb2)).trans mb2, (Below.cell hW.hb (cell_lt2 mb3)).trans mb3⟩ (fun hHeld => ?_)
        clear hK K
        refine norm_ (a' := ?_) ?_ ?_
        rotate_left
        · show Act.put _ (some 17) _ = _
          simp only [Act.put, List.setIfInBounds_toArray, List.set_cons_zero, List.set_cons_succ, i64_w, i32_w]
          rfl
        refine pure_ (i := 6) (N := some 11) (v := ?_) (a' := ?_) #[true, true, true, true, true, true, true, false, false, false, false, false] rfl rfl (by kernel_rfl) (fun _ _ _ h => h) (Or.inl ⟨by rfl, ?_⟩) ?_ ?_
        rotate_left
        · intro w'
          go_simp
          with_reducible rfl
        rotate_left
        · simp only [Act.put, List.setIfInBounds_toArray, List.set_cons_zero, List.set_cons_succ, i64_w, i32_w]
          rfl
        refine pure_ (i := 7) (N := some 18) (v := ?_) (a' := ?_) #[true, true, true, true, true, true, true, true, false, false, false, false] rfl rfl (by kernel_rfl) (fun _ _ _ h => h) (Or.inl ⟨by rfl, ?_⟩) ?_ ?_
        rotate_left
        · intro w'
          go_simp
          with_reducible rfl
        rotate_left
        · simp only [Act.put, List.setIfInBounds_toArray, List.set_cons_zero, List.set_cons_succ, i64_w, i32_w]
          rfl
        refine pure_ (i := 8) (N := some 19) (v := ?_) (a' := ?_) #[true, true, true, true, true, true, true, true, true, false, false, false] rfl rfl (by kernel_rfl) (fun _ _ _ h => h) (Or.inl ⟨by rfl, ?_⟩) ?_ ?_
        rotate_left
        · intro w'
          go_simp
          with_reducible rfl
        rotate_left
        · simp only [Act.put, List.setIfInBounds_toArray, List.set_cons_zero, List.set_cons_succ, i64_w, i32_w]
          rfl
        refine one_ (i := 9) (N := some 5) #[true, true, true, true, true, true, true, true, true, true, false, false] rfl rfl (by kernel_rfl) (by decide) (fun K hK => ?_)
        refine value_ (w1 := ?_) (v := ?_) (by rfl) rfl ?_ ?_
        rotate_left 2
        · go_simp
          constructor
          · rfl
          · rfl
        replace hW := hW.alloc
        refine hK.out _ _ ⟨(Below.cell hW.hb (cell_lt2 md1)).trans md1, (Below.cell hW.hb (cell_lt2 mb0)).trans mb0, (Below.cell hW.hb (cell_lt2 mb1)).trans mb1, (Below.cell hW.hb (cell_lt2 mb2)).trans mb2, (Below.cell hW.hb (cell_lt2 mb3)).trans mb3⟩ (fun hHeld => ?_)
        clear hK K
        refine norm_ (a' := ?_) ?_ ?_
        rotate_left
        · show Act.put _ (some 5) _ = _
          simp only [Act.put, List.setIfInBounds_toArray, List.set_cons_zero, List.set_cons_succ, i64_w, i32_w]
          rfl
        exact norm_ (by simp only [putAll, Act.put, List.setIfInBounds_toArray, List.set_cons_zero, List.set_cons_succ]) (hCont (vA, wA.heap.size) _ hW)
      · skip
        refine value_ (w1 := ?_) (v := ?_) (by rfl) rfl ?_ ?_
        rotate_left 2
        · go_simp
          constructor
          · rfl
          · rfl
        have hb0 := below_alloc (Below.refl wd.heap.size wd) (.cells #[.slice none 0 0] 26)
        refine hK.out _ _ ⟨(Below.cell hb0 (cell_lt2 md1)).trans md1, (Below.cell hb0 (cell_lt2 mb0)).trans mb0, (Below.cell hb0 (cell_lt2 mb1)).trans mb1, (Below.cell hb0 (cell_lt2 mb2)).trans mb2, (Below.cell hb0 (cell_lt2 mb3)).trans mb3⟩ (fun hHeld => ?_)
        clear hK K
        refine norm_ (a' := ?_) ?_ ?_
        rotate_left
        · show Act.put _ (some 5) _ = _
          simp only [Act.put, List.setIfInBounds_toArray, List.set_cons_zero, List.set_cons_succ, i64_w, i32_w]
          rfl
        refine one_ (i := 5) (N := some 17) #[true, true, true, true, true, true, false, false, false, true, false, false] rfl rfl (by kernel_rfl) (by decide) (fun K hK => ?_)
        refine goes_ Tryd.func80 (by kernel_rfl) rfl #[.agg #[.slice An s.now.length cn0], .agg #[.int .i64 c.f0, .string c.f1, .string c.f2, .slice A3 c.f3.length c3]] (by rfl) rfl rfl (by simp only [List.map_toArray, List.map_cons, List.map_nil]; rfl) ?_
        with_reducible refine (Do_done1 HT.out hPf hVd hCd HC3.out (GT_okT HGT.out) HG.out).mono ?_
        rintro e wA ⟨vA, rfl, hW⟩
        refine ⟨_, rfl, ?_⟩
        refine hK.out _ _ ⟨(Below.cell hW.hb (cell_lt2 md1)).trans md1, (Below.cell hW.hb (cell_lt2 mb0)).trans mb0, (Below.cell hW.hb (cell_lt2 mb1)).trans mb1, (Below.cell hW.hb (cell_lt2 mb2)).trans mb2, (Below.cell hW.hb (cell_lt2 mb3)).trans mb3⟩ (fun hHeld => ?_)
        clear hK K
        refine norm_ (a' := ?_) ?_ ?_
        rotate_left
        · show Act.put _ (some 17) _ = _
          simp only [Act.put, List.setIfInBounds_toArray, List.set_cons_zero, List.set_cons_succ, i64_w, i32_w]
          rfl
        refine pure_ (i := 6) (N := some 11) (v := ?_) (a' := ?_) #[true, true, true, true, true, true, true, false, false, true, false, false] rfl rfl (by kernel_rfl) (fun _ _ _ h => h) (Or.inl ⟨by rfl, ?_⟩) ?_ ?_
        rotate_left
        · intro w'
          go_simp
          with_reducible rfl
        rotate_left
        · simp only [Act.put, List.setIfInBounds_toArray, List.set_cons_zero, List.set_cons_succ, i64_w, i32_w]
          rfl
        refine pure_ (i := 7) (N := some 18) (v := ?_) (a' := ?_) #[true, true, true, true, true, true, true, true, false, true, false, false] rfl rfl (by kernel_rfl) (fun _ _ _ h => h) (Or.inl ⟨by rfl, ?_⟩) ?_ ?_
        rotate_left
        · intro w'
          go_simp
          with_reducible rfl
        rotate_left
        · simp only [Act.put, List.setIfInBounds_toArray, List.set_cons_zero, List.set_cons_succ, i64_w, i32_w]
          rfl
        refine pure_ (i := 8) (N := some 19) (v := ?_) (a' := ?_) #[true, true, true, true, true, true, true, true, true, true, false, false] rfl rfl (by kernel_rfl) (fun _ _ _ h => h) (Or.inl ⟨by rfl, ?_⟩) ?_ ?_
        rotate_left
        · intro w'
          go_simp
          with_reducible rfl
        rotate_left
        · simp only [Act.put, List.setIfInBounds_toArray, List.set_cons_zero, List.set_cons_succ, i64_w, i32_w]
          rfl
        exact norm_ (by simp only [putAll, Act.put, List.setIfInBounds_toArray, List.set_cons_zero, List.set_cons_succ]) (hCont (vA, wd.heap.size) _ hW)
    rintro ⟨vA, b⟩ wz hW
    dsimp only at hW ⊢
    obtain ⟨hbx, hbl⟩ := hW.hx b rfl
    have hbc := blk_cell hbx 0
    have hbf := blk_frozen hbx 0
    have hHeld : wz.cell? ⟨g, 1, none⟩ = some (.slice An s.now.length cn0) ∧ wz.cell? ⟨W.heap.size, 0, none⟩ = some (.int .i64 c.f0) ∧ wz.cell? ⟨W.heap.size, 1, none⟩ = some (.string c.f1) ∧ wz.cell? ⟨W.heap.size, 2, none⟩ = some (.string c.f2) ∧ wz.cell? ⟨W.heap.size, 3, none⟩ = some (.slice A3 c.f3.length c3) := ⟨(Below.cell hW.hb (cell_lt2 md1)).trans md1, (Below.cell hW.hb (cell_lt2 mb0)).trans mb0, (Below.cell hW.hb (cell_lt2 mb1)).trans mb1, (Below.cell hW.hb (cell_lt2 mb2)).trans mb2, (Below.cell hW.hb (cell_lt2 mb3)).trans mb3⟩
    obtain ⟨A6, c6, rfl, _⟩ := hW.hV
    refine norm_ (a' := ?_) ?_ ?_
    rotate_left
    · simp only [putAll, Act.put, List.setIfInBounds_toArray, List.set_cons_zero, List.set_cons_succ]
      rfl
    refine last_ (i := 10) (N := none) #[true, true, true, true, true, true, true, true, true, true, true, false] rfl rfl (by kernel_rfl) (by decide) (fun K hK => ?_)
    refine skip_ (w1 := ?_) (by rfl) rfl ?_ ?_
    rotate_left
    · go_simp
      rfl
    refine hK.out _ _ ?_
    clear hK K
    refine pure_ (i := 11) (N := some 6) (v := ?_) (a' := ?_) #[true, true, true, true, true, true, true, true, true, true, true, true] rfl rfl (by kernel_rfl) (fun _ _ _ h => h) (Or.inl ⟨by rfl, ?_⟩) ?_ ?_
    rotate_left
    · intro w'
      go_simp
      with_reducible rfl
    rotate_left
    · simp only [Act.put, List.setIfInBounds_toArray, List.set_cons_zero, List.set_cons_succ, i64_w, i32_w]
      rfl
    refine done_ (by kernel_rfl) ?_
    have hby := hW.hb.setCell (p := ⟨b, 0, none⟩) hbl (.slice A6 T1.length c6)
    have hX5 := hXd.below hby
    have hK5 := hKd.below hby
    have hBd5 := hBd.trans (hby.mono (by have := hXd.hB; have := blk_lt hXd.hg; omega))
    have hB35 := (hby.block _ (blk_lt HB3.out)).trans HB3.out
    have hV5 := Kd.V_far (p := ⟨b, 0, none⟩) hW.hV (fun k hk e => hk.2 (by rw [show k = b from e])) (.slice A6 T1.length c6)
    have hk5 := blk_put hbx 0 (.slice A6 T1.length c6) (cs' := #[.slice A6 T1.length c6]) rfl
    have hV5 : Kd.V k30 30 _ 0 (PD B g vw) (.slice A6 T1.length c6) T1 := Kd.V_mono hV5 fun k hk => hk.1
    generalize wz.setCell ⟨b, 0, none⟩ (.slice A6 T1.length c6) = wy at *
    clear hW hbx hbl hbc hbf hby hXd hKd hBd hCd hVd hPf HB3 md1 mb0 mb1 mb2 mb3 hHeld
    by_cases hE : E1 = 0
    · have g1 : (E1 != 0) = false := by rw [hE]; rfl
      have HE := Aside0.mk hE
      clear hE
      have m5 := blk_cell hk5 0
      have HX5 := Aside0.mk hX5
      have HK5 := Aside0.mk hK5
      have HBd5 := Aside0.mk hBd5
      have HB35 := Aside0.mk hB35
      have HV5 := Aside0.mk hV5
      have HK := Aside0.mk hk5
      clear hX5 hK5 hBd5 hB35 hV5 hk5
      go_wp2_with (fail)
      refine (tree_Bytes.calls 50 A6 c6 T1 (nB30 T1) wy (Kd.V_reads' HV5.out).2.2 (Kd.V_reads' HV5.out).2.1 (GT_B HGT1.out)).mono ?_
      rintro e W5 ⟨rfl, hb5⟩
      have HBd5 := Aside0.mk (HX5.out.thenB HBd5.out hb5)
      have hX5 := HX5.out.below hb5
      have HX5 := Aside0.mk hX5
      have HK5 := Aside0.mk (HK5.out.below hb5)
      have HB35 := Aside0.mk ((hb5.block _ (blk_lt HB35.out)).trans HB35.out)
      have HV5 := Aside0.mk (Kd.V_below HV5.out hb5)
      have HK := Aside0.mk ((hb5.block _ (blk_lt HK.out)).trans HK.out)
      clear m5 hb5
      have m5 := blk_cell HK.out 0
      obtain ⟨n1, hn1⟩ : ∃ n1 : Int, n1 = (nB30 T1 : Int) := ⟨_, rfl⟩
      rw [← hn1]
      have HN1' := Aside0.mk hn1
      clear hn1
      have c0 := hX5.cells.1
      have cn := hX5.cells.2.1
      clear hX5
      dsimp only
      by_cases q1 : s.q < n1
      · have p1 : decide (s.q < n1) = true := decide_eq_true q1
        have Q1 := Aside0.mk q1
        clear q1
        go_wp2_with (fail)
        refine (tree_Bytes.calls 50 An cn0 s.now (nB30 s.now) W5 (Kd.V_reads' HX5.out.n).2.2 (Kd.V_reads' HX5.out.n).2.1 (GT_B HGT.out)).mono ?_
        rintro e W6 ⟨rfl, hb6⟩
        have HBd6 := Aside0.mk (HX5.out.thenB HBd5.out hb6)
        have hX6 := HX5.out.below hb6
        have HX6 := Aside0.mk hX6
        have HK6 := Aside0.mk (HK5.out.below hb6)
        have HB36 := Aside0.mk ((hb6.block _ (blk_lt HB35.out)).trans HB35.out)
        have HV6 := Aside0.mk (Kd.V_below HV5.out hb6)
        have HK := Aside0.mk ((hb6.block _ (blk_lt HK.out)).trans HK.out)
        clear m5 hb6 c0 cn
        have m5 := blk_cell HK.out 0
        obtain ⟨n0, hn0⟩ : ∃ n0 : Int, n0 = (nB30 s.now : Int) := ⟨_, rfl⟩
        rw [← hn0]
        have HN0' := Aside0.mk hn0
        clear hn0
        have c0 := hX6.cells.1
        have cn := hX6.cells.2.1
        clear hX6
        dsimp only
        by_cases q2 : n0 < n1
        · have p2 : decide (n0 < n1) = true := decide_eq_true q2
          have Q2 := Aside0.mk q2
          clear q2
          go_wp2_with (fail)
          go_ret
          have hd : do0 s c = (s, 9) := by
            rw [do0, if_neg (by rw [← HSO.out]; exact Bool.false_ne_true), HT.out, if_neg (by rw [HE.out]; simp), if_pos]
            have h1 := Q1.out
            have h2 := Q2.out
            rw [HN1'.out] at h1 h2
            rw [HN0'.out] at h2
            exact ⟨h1, Int.ofNat_lt.1 h2⟩
          rw [hd]
          first
            | exact ⟨_, _, rfl, HX6.out, HK6.out, HBd6.out⟩
            | exact ⟨rfl, ⟨_, _, HX6.out⟩, HK6.out, HBd6.out⟩
        · have p2 : decide (n0 < n1) = false := decide_eq_false q2
          have HDO : Aside0 (do0 s c = ({ s with now := T1, waits := ws, count := wrap64 (s.count + 1) }, 0)) := ⟨by
            rw [do0, if_neg (by rw [← HSO.out]; exact Bool.false_ne_true), HT.out, if_neg (by rw [HE.out]; simp), if_neg (fun h => q2 (by rw [HN1'.out, HN0'.out]; exact Int.ofNat_lt.2 h.2)), HWS.out]⟩
          clear q2
          have fz := HX6.out.frozen
          have hwl : (s.waits.length + 1) * 64 ≤ 140737488355328 := by have := HW.out; omega
          go_wp2_with (fail)
          have hk1 := blk_put HX6.out.hg 1 (.slice A6 T1.length c6) (cs' := #[.int .i64 s.q, .slice A6 T1.length c6, vl, vw, .bool s.off, .int .i64 s.count, .int .i64 s.fuse, vk, .int .i64 s.torn]) rfl
          have hKs := Ke_set (Kept.refl W6 (fun k => k = g)) 1 (.slice A6 T1.length c6)
          have hX7 : At (W6.setCell ⟨g, 1, none⟩ (.slice A6 T1.length c6)) B g { s with now := T1 } (.slice A6 T1.length c6) vl vw vk := At.turn hKs HX6.out.hB hk1 HV6.out HX6.out.l HX6.out.w HX6.out.k
          have hXe := hX7.below (below_drew (Below.refl _ _))
          have hKe : Kept W (W6.setCell ⟨g, 1, none⟩ (.slice A6 T1.length c6)).drew (fun k => k = g ∨ vw.ownBlock = some k) := (Kept.setCell (p := ⟨g, 1, none⟩) HK6.out (.inl (.inl rfl)) _).drew
          have hg3 : W.heap.size ≠ g := fun e => by have := HGW.out; omega
          have hB7 := (Be_set HBd6.out HX6.out.hB 1 (.slice A6 T1.length c6)).drew
          have hB3e : (W6.setCell ⟨g, 1, none⟩ (.slice A6 T1.length c6)).drew.heap[W.heap.size]? = some (.cells #[.int .i64 c.f0, .string c.f1, .string c.f2, .slice A3 c.f3.length c3] 61 (0, 0)) := (Below.heap_setCell W6 ⟨g, 1, none⟩ _ _ hg3).trans HB36.out
          have md3 := hXe.cells.2.2.2.1
          have mb0 := blk_cell hB3e 0
          have mb1 := blk_cell hB3e 1
          have mb2 := blk_cell hB3e 2
          have mb3 := blk_cell hB3e 3
          have hCe := HR.out _ hKe
          have hNe := hXe.w
          have hBe : B ≤ (W6.setCell ⟨g, 1, none⟩ (.slice A6 T1.length c6)).drew.heap.size := by have := blk_lt hXe.hg; have := hXe.hB; omega
          have hge : some g ≠ vw.ownBlock := fun e => (hNe.1 g e.symm).2 rfl
          have hne3 : some W.heap.size ≠ vw.ownBlock := fun e => by have := HNW.out _ e.symm; omega
          have hfr : ∀ k, (W6.setCell ⟨g, 1, none⟩ (.slice A6 T1.length c6)).drew.heap.size ≤ k → (B ≤ k ∧ k ≠ g) ∧ some k ≠ vw.ownBlock := fun k hk => by
            have h1 := blk_lt hXe.hg
            refine ⟨⟨Nat.le_trans hXe.hB (by omega), by omega⟩, fun e => ?_⟩
            have := Kd.N_lt hNe k e.symm
            omega
          clear hk1 hKs hX7 hB3e m5 fz
          refine start_ (n := 12) (S := fun w' => w'.cell? ⟨g, 3, none⟩ = some vw ∧ w'.cell? ⟨W.heap.size, 0, none⟩ = some (.int .i64 c.f0) ∧ w'.cell? ⟨W.heap.size, 1, none⟩ = some (.string c.f1) ∧ w'.cell? ⟨W.heap.size, 2, none⟩ = some (.string c.f2) ∧ w'.cell? ⟨W.heap.size, 3, none⟩ = some (.slice A3 c.f3.length c3)) (ds := [11]) #[false, false, false, false, false, false, false, false, false, false, false, false] (by kernel_rfl) rfl rfl ⟨md3, mb0, mb1, mb2, mb3⟩ (fun hHeld => ?_)
          generalize (W6.setCell ⟨g, 1, none⟩ (.slice A6 T1.length c6)).drew = we at md3 mb0 mb1 mb2 mb3 hCe hNe hBe hfr hXe hKe hB7 hge hne3 hHeld ⊢
          refine pure_ (i := 0) (N := some 44) (v := ?_) (a' := ?_) #[true, false, false, false, false, false, false, false, false, false, false, false] rfl rfl (by kernel_rfl) (fun _ _ _ h => h) (Or.inl ⟨by rfl, ?_⟩) ?_ ?_
          rotate_left
          · intro w'
            go_simp
            with_reducible rfl
          rotate_left
          · simp only [Act.put, List.setIfInBounds_toArray, List.set_cons_zero, List.set_cons_succ, i64_w, i32_w]
            rfl
          refine pure_ (i := 1) (N := some 45) (v := ?_) (a' := ?_) #[true, true, false, false, false, false, false, false, false, false, false, false] rfl rfl (by kernel_rfl) (fun _ _ _ h => h) (Or.inl ⟨by rfl, ?_⟩) ?_ ?_
          rotate_left
          · intro w'
            go_simp
            with_reducible rfl
          rotate_left
          · simp only [Act.put, List.setIfInBounds_toArray, List.set_cons_zero, List.set_cons_succ, i64_w, i32_w]
            rfl
          refine pure_ (i := 2) (N := some 46) (v := ?_) (a' := ?_) #[true, true, true, false, false, false, false, false, false, false, false, false] rfl rfl (by kernel_rfl) (fun _ _ _ h => h) (Or.inl ⟨by rfl, ?_⟩) ?_ ?_
          rotate_left
          · intro w'
            go_simp
            with_reducible rfl
          rotate_left
          · simp only [Act.put, List.setIfInBounds_toArray, List.set_cons_zero, List.set_cons_succ, i64_w, i32_w]
            rfl
          refine pure_ (i := 3) (N := some 47) (v := ?_) (a' := ?_) #[true, true, true, true, false, false, false, false, false, false, false, false] rfl rfl (by kernel_rfl) (fun _ _ _ h => h) (Or.inl ⟨by rfl, ?_⟩) ?_ ?_
          rotate_left
          · intro w'
            go_simp
            with_reducible rfl
          rotate_left
          · simp only [Act.put, List.setIfInBounds_toArray, List.set_cons_zero, List.set_cons_succ, i64_w, i32_w]
            rfl
          refine take_ (i := 4) (N := some 48) (v := ?_) (a' := ?_) #[true, true, true, true, true, false, false, false, false, false, false, false] rfl rfl (by kernel_rfl) (fun _ _ _ h => h) (Or.inl ⟨by rfl, ?_⟩) hHeld ?_ ?_
          rotate_left
          · rintro w' ⟨s0, s1, s2, s3, s4⟩
            go_simp
            with_reducible rfl
          rotate_left
          · simp only [Act.put, List.setIfInBounds_toArray, List.set_cons_zero, List.set_cons_succ, i64_w, i32_w]
            rfl
          refine take_ (i := 5) (N := some 49) (v := ?_) (a' := ?_) #[true, true, true, true, true, true, false, false, false, false, false, false] rfl rfl (by kernel_rfl) (fun _ _ _ h => h) (Or.inl ⟨by rfl, ?_⟩) hHeld ?_ ?_
          rotate_left
          · rintro w' ⟨s0, s1, s2, s3, s4⟩
            go_simp
            with_reducible rfl
          rotate_left
          · simp only [Act.put, List.setIfInBounds_toArray, List.set_cons_zero, List.set_cons_succ, i64_w, i32_w]
            rfl
          refine one_ (i := 6) (N := some 50) #[true, true, true, true, true, true, true, false, false, false, false, false] rfl rfl (by kernel_rfl) (by decide) (fun K hK => ?_)
          refine goes_ Tryd.func81 (by kernel_rfl) rfl #[.agg #[.int .i64 c.f0, .string c.f1, .string c.f2, .slice A3 c.f3.length c3]] (by rfl) rfl rfl (by simp only [List.map_toArray, List.map_cons, List.map_nil]; rfl) ?_
          with_reducible refine (disk_Change_own.calls c.f0 c.f1 c.f2 A3 c3 c.f3 c.f0 c.f1 c.f2 c.f3 we hCe HC3.out (own61_eq HG3.out)).mono ?_
          rintro e wB ⟨v5, rfl, hR5, hbB⟩
          refine ⟨_, rfl, ?_⟩
          obtain ⟨A5, c5, rfl⟩ := Kd.R_slice hR5
          have hFK : Kd.FK k61 wB (fun k => we.heap.size ≤ k ∧ k < wB.heap.size) c [.int .i64 c.f0, .string c.f1, .string c.f2, .slice A5 c.f3.length c5] := k61_mkF wB _ c (Kd.R_reads' hR5).2.1 (Kd.R_F (Kd.R_mono (Kd.R_bound hR5) fun k hk => ⟨hk.2.1, hk.2.2.1⟩))
          refine hK.out _ _ ⟨(Below.cell hbB (cell_lt2 md3)).trans md3, (Below.cell hbB (cell_lt2 mb0)).trans mb0, (Below.cell hbB (cell_lt2 mb1)).trans mb1, (Below.cell hbB (cell_lt2 mb2)).trans mb2, (Below.cell hbB (cell_lt2 mb3)).trans mb3⟩ (fun hHeld => ?_)
          clear hK K
          refine norm_ (a' := ?_) ?_ ?_
          rotate_left
          · show Act.put _ (some 50) _ = _
            simp only [Act.put, List.setIfInBounds_toArray, List.set_cons_zero, List.set_cons_succ, i64_w, i32_w]
            rfl
          refine one_ (i := 7) (N := some 51) #[true, true, true, true, true, true, true, true, false, false, false, false] rfl rfl (by kernel_rfl) (by decide) (fun K hK => ?_)
          refine value_ (w1 := ?_) (v := ?_) (by rfl) rfl ?_ ?_
          rotate_left 2
          · go_simp
            constructor
            · rfl
            · rfl
          have hbL := below_alloc (Below.refl wB.heap.size wB) (.cells #[.int .i64 c.f0, .string c.f1, .string c.f2, .slice A5 c.f3.length c5] 61)
          refine hK.out _ _ ⟨(Below.cell hbL (Nat.lt_of_lt_of_le (cell_lt2 md3) hbB.size)).trans ((Below.cell hbB (cell_lt2 md3)).trans md3), (Below.cell hbL (Nat.lt_of_lt_of_le (cell_lt2 mb0) hbB.size)).trans ((Below.cell hbB (cell_lt2 mb0)).trans mb0), (Below.cell hbL (Nat.lt_of_lt_of_le (cell_lt2 mb1) hbB.size)).trans ((Below.cell hbB (cell_lt2 mb1)).trans mb1), (Below.cell hbL (Nat.lt_of_lt_of_le (cell_lt2 mb2) hbB.size)).trans ((Below.cell hbB (cell_lt2 mb2)).trans mb2), (Below.cell hbL (Nat.lt_of_lt_of_le (cell_lt2 mb3) hbB.size)).trans ((Below.cell hbB (cell_lt2 mb3)).trans mb3)⟩ (fun hHeld => ?_)
          clear hK K
          refine norm_ (a' := ?_) ?_ ?_
          rotate_left
          · show Act.put _ (some 51) _ = _
            simp only [Act.put, List.setIfInBounds_toArray, List.set_cons_zero, List.set_cons_succ, i64_w, i32_w]
            rfl
          refine one_ (i := 8) (N := some 52) #[true, true, true, true, true, true, true, true, true, false, false, false] rfl rfl (by kernel_rfl) (by decide) (fun K hK => ?_)
          refine Kd.N_append_step k61 (w0 := we) B (by rfl) (.tmp 48) (.tmp 51) 56 61 _ 64 rfl Tryd.underlying56 info61 rfl (by decide) (by omega) vw s.waits c [.int .i64 c.f0, .string c.f1, .string c.f2, .slice A5 c.f3.length c5] (fun k => B ≤ k ∧ k ≠ g) (fun k => we.heap.size ≤ k ∧ k < wB.heap.size) rfl rfl hFK (fun k hk => hfr k hk.1) (fun k hk => (hfr k (Nat.le_trans hbB.size hk)).1) (Kd.N_below hNe hbB) (hbB.mono hBe) (Nat.le_trans hBe hbB.size) hwl ?_
          intro v1 w1 hN1 hB1 hG1 hat1
          rw [← HWS.out] at hN1
          obtain ⟨A1, c1, rfl⟩ := Kd.N_slice hN1
          have hge1 : w1.heap[g]? = _ := (hG1.block g (Nat.lt_of_lt_of_le (blk_lt hXe.hg) hbB.size) hge).trans ((hbB.block g (blk_lt hXe.hg)).trans hXe.hg)
          have fz3 := blk_frozen hge1 3
          refine hK.out _ _ ⟨(hG1.cell_far _ (Nat.lt_of_lt_of_le (cell_lt2 md3) hbB.size) hge).trans ((Below.cell hbB (cell_lt2 md3)).trans md3), (hG1.cell_far _ (Nat.lt_of_lt_of_le (cell_lt2 mb0) hbB.size) hne3).trans ((Below.cell hbB (cell_lt2 mb0)).trans mb0), (hG1.cell_far _ (Nat.lt_of_lt_of_le (cell_lt2 mb1) hbB.size) hne3).trans ((Below.cell hbB (cell_lt2 mb1)).trans mb1), (hG1.cell_far _ (Nat.lt_of_lt_of_le (cell_lt2 mb2) hbB.size) hne3).trans ((Below.cell hbB (cell_lt2 mb2)).trans mb2), (hG1.cell_far _ (Nat.lt_of_lt_of_le (cell_lt2 mb3) hbB.size) hne3).trans ((Below.cell hbB (cell_lt2 mb3)).trans mb3)⟩ (fun hHeld => ?_)
          clear hK K
          refine norm_ (a' := ?_) ?_ ?_
          rotate_left
          · show Act.put _ (some 52) _ = _
            simp only [Act.put, List.setIfInBounds_toArray, List.set_cons_zero, List.set_cons_succ, i64_w, i32_w]
            rfl
          refine pure_ (i := 9) (N := some 53) (v := ?_) (a' := ?_) #[true, true, true, true, true, true, true, true, true, true, false, false] rfl rfl (by kernel_rfl) (fun _ _ _ h => h) (Or.inl ⟨by rfl, ?_⟩) ?_ ?_
          rotate_left
          · intro w'
            go_simp
            with_reducible rfl
          rotate_left
          · simp only [Act.put, List.setIfInBounds_toArray, List.set_cons_zero, List.set_cons_succ, i64_w, i32_w]
            rfl
          refine pure_ (i := 10) (N := some 54) (v := ?_) (a' := ?_) #[true, true, true, true, true, true, true, true, true, true, true, false] rfl rfl (by kernel_rfl) (fun _ _ _ h => h) (Or.inl ⟨by rfl, ?_⟩) ?_ ?_
          rotate_left
          · intro w'
            go_simp
            with_reducible rfl
          rotate_left
          · simp only [Act.put, List.setIfInBounds_toArray, List.set_cons_zero, List.set_cons_succ, i64_w, i32_w]
            rfl
          refine last_ (i := 11) (N := none) #[true, true, true, true, true, true, true, true, true, true, true, true] rfl rfl (by kernel_rfl) (by decide) (fun K hK => ?_)
          refine skip_ (w1 := ?_) (by rfl) rfl ?_ ?_
          rotate_left
          · go_simp
            rfl
          refine hK.out _ _ ?_
          clear hK K
          refine done_ (by kernel_rfl) ?_
          have c5' := blk_cell hge1 5
          have fz := fun i => blk_frozen hge1 i
          have HG1 := Aside0.mk hge1
          have HN1 := Aside0.mk hN1
          have hn1 := Kd.V_after (v1 := .slice A1 ws.length c1) (u := vw) (ok := fun k => B ≤ k ∧ k ≠ g) (Kd.V_mono (Kd.V_below hXe.n hbB) fun k h => ⟨⟨h.1, h.2.1⟩, h.2.2⟩) hG1 hat1
          have hl1 := Kd.V_after (v1 := .slice A1 ws.length c1) (u := vw) (ok := fun k => B ≤ k ∧ k ≠ g) (Kd.V_mono (Kd.V_below hXe.l hbB) fun k h => ⟨⟨h.1, h.2.1⟩, h.2.2⟩) hG1 hat1
          have hk1 := Kd.V_after (v1 := .slice A1 ws.length c1) (u := vw) (ok := fun k => B ≤ k ∧ k ≠ g) (Kd.V_mono (Kd.V_below hXe.k hbB) fun k h => ⟨⟨h.1, h.2.1⟩, h.2.2⟩) hG1 hat1
          have hK1 : Kept W w1 (fun k => k = g ∨ vw.ownBlock = some k) := Kept.of_grown hG1 (hKe.below hbB) (fun k hk => .inl (.inr hk))
          have HV1 := Aside0.mk (And.intro hn1 (And.intro hl1 hk1))
          have HK1 := Aside0.mk hK1
          have HB1 := Aside0.mk (hB7.trans hB1)
          have HXH := Aside0.mk hXe.hB
          clear hge1 hN1 hn1 hl1 hk1 hK1 hHeld hXe hKe hCe hNe hBe hge hne3 hfr hR5 hFK hG1 hat1 hB7 hB1 md3 mb0 mb1 mb2 mb3 hbB
          go_wp2_with (fail)
          go_ret
          have hk2 := blk_put HG1.out 3 (.slice A1 ws.length c1) (cs' := #[.int .i64 s.q, .slice A6 T1.length c6, vl, .slice A1 ws.length c1, .bool s.off, .int .i64 s.count, .int .i64 s.fuse, vk, .int .i64 s.torn]) rfl
          have hk3 := blk_put hk2 5 (.int .i64 (wrap64 (s.count + 1))) (cs' := #[.int .i64 s.q, .slice A6 T1.length c6, vl, .slice A1 ws.length c1, .bool s.off, .int .i64 (wrap64 (s.count + 1)), .int .i64 s.fuse, vk, .int .i64 s.torn]) rfl
          have hKs := Ke_set (Ke_set (Kept.refl w1 (fun k => k = g)) 3 (.slice A1 ws.length c1)) 5 (.int .i64 (wrap64 (s.count + 1)))
          have hKW := Kept.setCell (p := ⟨g, 5, none⟩) (Kept.setCell (p := ⟨g, 3, none⟩) HK1.out (.inl (.inl rfl)) (.slice A1 ws.length c1)) (.inl (.inl rfl)) (.int .i64 (wrap64 (s.count + 1)))
          have hBF := Be_set (Be_set HB1.out HXH.out 3 (.slice A1 ws.length c1)) HXH.out 5 (.int .i64 (wrap64 (s.count + 1)))
          have hd : do0 s c = ({ s with now := T1, waits := ws, count := wrap64 (s.count + 1) }, 0) := HDO.out
          rw [hd]
          generalize (w1.setCell ⟨g, 3, none⟩ (.slice A1 ws.length c1)).setCell ⟨g, 5, none⟩ (.int .i64 (wrap64 (s.count + 1))) = w2 at *
          refine ⟨rfl, ⟨.slice A6 T1.length c6, .slice A1 ws.length c1, At.turn hKs HXH.out hk3 (Kd.V_mono HV1.out.1 fun k h => ⟨h.1.1, h.1.2, h.2⟩) (Kd.V_mono HV1.out.2.1 fun k h => ⟨h.1.1, h.1.2, h.2⟩) HN1.out (Kd.V_mono HV1.out.2.2 fun k h => ⟨h.1.1, h.1.2, h.2⟩)⟩, hKW, hBF⟩
      · have p1 : decide (s.q < n1) = false := decide_eq_false q1
        have HDO : Aside0 (do0 s c = ({ s with now := T1, waits := ws, count := wrap64 (s.count + 1) }, 0)) := ⟨by
          rw [do0, if_neg (by rw [← HSO.out]; exact Bool.false_ne_true), HT.out, if_neg (by rw [HE.out]; simp), if_neg (fun h => q1 (by rw [HN1'.out]; exact h.1)), HWS.out]⟩
        clear q1
        have HX6 := HX5
        have HK6 := HK5
        have HBd6 := HBd5
        have HB36 := HB35
        have HV6 := HV5
        have fz := HX6.out.frozen
        have hwl : (s.waits.length + 1) * 64 ≤ 140737488355328 := by have := HW.out; omega
        go_wp2_with (fail)
        have hk1 := blk_put HX6.out.hg 1 (.slice A6 T1.length c6) (cs' := #[.int .i64 s.q, .slice A6 T1.length c6, vl, vw, .bool s.off, .int .i64 s.count, .int .i64 s.fuse, vk, .int .i64 s.torn]) rfl
        have hKs := Ke_set (Kept.refl W5 (fun k => k = g)) 1 (.slice A6 T1.length c6)
        have hX7 : At (W5.setCell ⟨g, 1, none⟩ (.slice A6 T1.length c6)) B g { s with now := T1 } (.slice A6 T1.length c6) vl vw vk := At.turn hKs HX6.out.hB hk1 HV6.out HX6.out.l HX6.out.w HX6.out.k
        have hXe := hX7.below (below_drew (Below.refl _ _))
        have hKe : Kept W (W5.setCell ⟨g, 1, none⟩ (.slice A6 T1.length c6)).drew (fun k => k = g ∨ vw.ownBlock = some k) := (Kept.setCell (p := ⟨g, 1, none⟩) HK6.out (.inl (.inl rfl)) _).drew
        have hg3 : W.heap.size ≠ g := fun e => by have := HGW.out; omega
        have hB7 := (Be_set HBd6.out HX6.out.hB 1 (.slice A6 T1.length c6)).drew
        have hB3e : (W5.setCell ⟨g, 1, none⟩ (.slice A6 T1.length c6)).drew.heap[W.heap.size]? = some (.cells #[.int .i64 c.f0, .string c.f1, .string c.f2, .slice A3 c.f3.length c3] 61 (0, 0)) := (Below.heap_setCell W5 ⟨g, 1, none⟩ _ _ hg3).trans HB36.out
        have md3 := hXe.cells.2.2.2.1
        have mb0 := blk_cell hB3e 0
        have mb1 := blk_cell hB3e 1
        have mb2 := blk_cell hB3e 2
        have mb3 := blk_cell hB3e 3
        have hCe := HR.out _ hKe
        have hNe := hXe.w
        have hBe : B ≤ (W5.setCell ⟨g, 1, none⟩ (.slice A6 T1.length c6)).drew.heap.size := by have := blk_lt hXe.hg; have := hXe.hB; omega
        have hge : some g ≠ vw.ownBlock := fun e => (hNe.1 g e.symm).2 rfl
        have hne3 : some W.heap.size ≠ vw.ownBlock := fun e => by have := HNW.out _ e.symm; omega
        have hfr : ∀ k, (W5.setCell ⟨g, 1, none⟩ (.slice A6 T1.length c6)).drew.heap.size ≤ k → (B ≤ k ∧ k ≠ g) ∧ some k ≠ vw.ownBlock := fun k hk => by
          have h1 := blk_lt hXe.hg
          refine ⟨⟨Nat.le_trans hXe.hB (by omega), by omega⟩, fun e => ?_⟩
          have := Kd.N_lt hNe k e.symm
          omega
        clear hk1 hKs hX7 hB3e m5 fz
        refine start_ (n := 12) (S := fun w' => w'.cell? ⟨g, 3, none⟩ = some vw ∧ w'.cell? ⟨W.heap.size, 0, none⟩ = some (.int .i64 c.f0) ∧ w'.cell? ⟨W.heap.size, 1, none⟩ = some (.string c.f1) ∧ w'.cell? ⟨W.heap.size, 2, none⟩ = some (.string c.f2) ∧ w'.cell? ⟨W.heap.size, 3, none⟩ = some (.slice A3 c.f3.length c3)) (ds := [11]) #[false, false, false, false, false, false, false, false, false, false, false, false] (by kernel_rfl) rfl rfl ⟨md3, mb0, mb1, mb2, mb3⟩ (fun hHeld => ?_)
        generalize (W5.setCell ⟨g, 1, none⟩ (.slice A6 T1.length c6)).drew = we at md3 mb0 mb1 mb2 mb3 hCe hNe hBe hfr hXe hKe hB7 hge hne3 hHeld ⊢
        refine pure_ (i := 0) (N := some 44) (v := ?_) (a' := ?_) #[true, false, false, false, false, false, false, false, false, false, false, false] rfl rfl (by kernel_rfl) (fun _ _ _ h => h) (Or.inl ⟨by rfl, ?_⟩) ?_ ?_
        rotate_left
        · intro w'
          go_simp
          with_reducible rfl
        rotate_left
        · simp only [Act.put, List.setIfInBounds_toArray, List.set_cons_zero, List.set_cons_succ, i64_w, i32_w]
          rfl
        refine pure_ (i := 1) (N := some 45) (v := ?_) (a' := ?_) #[true, true, false, false, false, false, false, false, false, false, false, false] rfl rfl (by kernel_rfl) (fun _ _ _ h => h) (Or.inl ⟨by rfl, ?_⟩) ?_ ?_
        rotate_left
        · intro w'
          go_simp
          with_reducible rfl
        rotate_left
        · simp only [Act.put, List.setIfInBounds_toArray, List.set_cons_zero, List.set_cons_succ, i64_w, i32_w]
          rfl
        refine pure_ (i := 2) (N := some 46) (v := ?_) (a' := ?_) #[true, true, true, false, false, false, false, false, false, false, false, false] rfl rfl (by kernel_rfl) (fun _ _ _ h => h) (Or.inl ⟨by rfl, ?_⟩) ?_ ?_
        rotate_left
        · intro w'
          go_simp
          with_reducible rfl
        rotate_left
        · simp only [Act.put, List.setIfInBounds_toArray, List.set_cons_zero, List.set_cons_succ, i64_w, i32_w]
          rfl
        refine pure_ (i := 3) (N := some 47) (v := ?_) (a' := ?_) #[true, true, true, true, false, false, false, false, false, false, false, false] rfl rfl (by kernel_rfl) (fun _ _ _ h => h) (Or.inl ⟨by rfl, ?_⟩) ?_ ?_
        rotate_left
        · intro w'
          go_simp
          with_reducible rfl
        rotate_left
        · simp only [Act.put, List.setIfInBounds_toArray, List.set_cons_zero, List.set_cons_succ, i64_w, i32_w]
          rfl
        refine take_ (i := 4) (N := some 48) (v := ?_) (a' := ?_) #[true, true, true, true, true, false, false, false, false, false, false, false] rfl rfl (by kernel_rfl) (fun _ _ _ h => h) (Or.inl ⟨by rfl, ?_⟩) hHeld ?_ ?_
        rotate_left
        · rintro w' ⟨s0, s1, s2, s3, s4⟩
          go_simp
          with_reducible rfl
        rotate_left
        · simp only [Act.put, List.setIfInBounds_toArray, List.set_cons_zero, List.set_cons_succ, i64_w, i32_w]
          rfl
        refine take_ (i := 5) (N := some 49) (v := ?_) (a' := ?_) #[true, true, true, true, true, true, false, false, false, false, false, false] rfl rfl (by kernel_rfl) (fun _ _ _ h => h) (Or.inl ⟨by rfl, ?_⟩) hHeld ?_ ?_
        rotate_left
        · rintro w' ⟨s0, s1, s2, s3, s4⟩
          go_simp
          with_reducible rfl
        rotate_left
        · simp only [Act.put, List.setIfInBounds_toArray, List.set_cons_zero, List.set_cons_succ, i64_w, i32_w]
          rfl
        refine one_ (i := 6) (N := some 50) #[true, true, true, true, true, true, true, false, false, false, false, false] rfl rfl (by kernel_rfl) (by decide) (fun K hK => ?_)
        refine goes_ Tryd.func81 (by kernel_rfl) rfl #[.agg #[.int .i64 c.f0, .string c.f1, .string c.f2, .slice A3 c.f3.length c3]] (by rfl) rfl rfl (by simp only [List.map_toArray, List.map_cons, List.map_nil]; rfl) ?_
        with_reducible refine (disk_Change_own.calls c.f0 c.f1 c.f2 A3 c3 c.f3 c.f0 c.f1 c.f2 c.f3 we hCe HC3.out (own61_eq HG3.out)).mono ?_
        rintro e wB ⟨v5, rfl, hR5, hbB⟩
        refine ⟨_, rfl, ?_⟩
        obtain ⟨A5, c5, rfl⟩ := Kd.R_slice hR5
        have hFK : Kd.FK k61 wB (fun k => we.heap.size ≤ k ∧ k < wB.heap.size) c [.int .i64 c.f0, .string c.f1, .string c.f2, .slice A5 c.f3.length c5] := k61_mkF wB _ c (Kd.R_reads' hR5).2.1 (Kd.R_F (Kd.R_mono (Kd.R_bound hR5) fun k hk => ⟨hk.2.1, hk.2.2.1⟩))
        refine hK.out _ _ ⟨(Below.cell hbB (cell_lt2 md3)).trans md3, (Below.cell hbB (cell_lt2 mb0)).trans mb0, (Below.cell hbB (cell_lt2 mb1)).trans mb1, (Below.cell hbB (cell_lt2 mb2)).trans mb2, (Below.cell hbB (cell_lt2 mb3)).trans mb3⟩ (fun hHeld => ?_)
        clear hK K
        refine norm_ (a' := ?_) ?_ ?_
        rotate_left
        · show Act.put _ (some 50) _ = _
          simp only [Act.put, List.setIfInBounds_toArray, List.set_cons_zero, List.set_cons_succ, i64_w, i32_w]
          rfl
        refine one_ (i := 7) (N := some 51) #[true, true, true, true, true, true, true, true, false, false, false, false] rfl rfl (by kernel_rfl) (by decide) (fun K hK => ?_)
        refine value_ (w1 := ?_) (v := ?_) (by rfl) rfl ?_ ?_
        rotate_left 2
        · go_simp
          constructor
          · rfl
          · rfl
        have hbL := below_alloc (Below.refl wB.heap.size wB) (.cells #[.int .i64 c.f0, .string c.f1, .string c.f2, .slice A5 c.f3.length c5] 61)
        refine hK.out _ _ ⟨(Below.cell hbL (Nat.lt_of_lt_of_le (cell_lt2 md3) hbB.size)).trans ((Below.cell hbB (cell_lt2 md3)).trans md3), (Below.cell hbL (Nat.lt_of_lt_of_le (cell_lt2 mb0) hbB.size)).trans ((Below.cell hbB (cell_lt2 mb0)).trans mb0), (Below.cell hbL (Nat.lt_of_lt_of_le (cell_lt2 mb1) hbB.size)).trans ((Below.cell hbB (cell_lt2 mb1)).trans mb1), (Below.cell hbL (Nat.lt_of_lt_of_le (cell_lt2 mb2) hbB.size)).trans ((Below.cell hbB (cell_lt2 mb2)).trans mb2), (Below.cell hbL (Nat.lt_of_lt_of_le (cell_lt2 mb3) hbB.size)).trans ((Below.cell hbB (cell_lt2 mb3)).trans mb3)⟩ (fun hHeld => ?_)
        clear hK K
        refine norm_ (a' := ?_) ?_ ?_
        rotate_left
        · show Act.put _ (some 51) _ = _
          simp only [Act.put, List.setIfInBounds_toArray, List.set_cons_zero, List.set_cons_succ, i64_w, i32_w]
          rfl
        refine one_ (i := 8) (N := some 52) #[true, true, true, true, true, true, true, true, true, false, false, false] rfl rfl (by kernel_rfl) (by decide) (fun K hK => ?_)
        refine Kd.N_append_step k61 (w0 := we) B (by rfl) (.tmp 48) (.tmp 51) 56 61 _ 64 rfl Tryd.underlying56 info61 rfl (by decide) (by omega) vw s.waits c [.int .i64 c.f0, .string c.f1, .string c.f2, .slice A5 c.f3.length c5] (fun k => B ≤ k ∧ k ≠ g) (fun k => we.heap.size ≤ k ∧ k < wB.heap.size) rfl rfl hFK (fun k hk => hfr k hk.1) (fun k hk => (hfr k (Nat.le_trans hbB.size hk)).1) (Kd.N_below hNe hbB) (hbB.mono hBe) (Nat.le_trans hBe hbB.size) hwl ?_
        intro v1 w1 hN1 hB1 hG1 hat1
        rw [← HWS.out] at hN1
        obtain ⟨A1, c1, rfl⟩ := Kd.N_slice hN1
        have hge1 : w1.heap[g]? = _ := (hG1.block g (Nat.lt_of_lt_of_le (blk_lt hXe.hg) hbB.size) hge).trans ((hbB.block g (blk_lt hXe.hg)).trans hXe.hg)
        have fz3 := blk_frozen hge1 3
        refine hK.out _ _ ⟨(hG1.cell_far _ (Nat.lt_of_lt_of_le (cell_lt2 md3) hbB.size) hge).trans ((Below.cell hbB (cell_lt2 md3)).trans md3), (hG1.cell_far _ (Nat.lt_of_lt_of_le (cell_lt2 mb0) hbB.size) hne3).trans ((Below.cell hbB (cell_lt2 mb0)).trans mb0), (hG1.cell_far _ (Nat.lt_of_lt_of_le (cell_lt2 mb1) hbB.size) hne3).trans ((Below.cell hbB (cell_lt2 mb1)).trans mb1), (hG1.cell_far _ (Nat.lt_of_lt_of_le (cell_lt2 mb2) hbB.size) hne3).trans ((Below.cell hbB (cell_lt2 mb2)).trans mb2), (hG1.cell_far _ (Nat.lt_of_lt_of_le (cell_lt2 mb3) hbB.size) hne3).trans ((Below.cell hbB (cell_lt2 mb3)).trans mb3)⟩ (fun hHeld => ?_)
        clear hK K
        refine norm_ (a' := ?_) ?_ ?_
        rotate_left
        · show Act.put _ (some 52) _ = _
          simp only [Act.put, List.setIfInBounds_toArray, List.set_cons_zero, List.set_cons_succ, i64_w, i32_w]
          rfl
        refine pure_ (i := 9) (N := some 53) (v := ?_) (a' := ?_) #[true, true, true, true, true, true, true, true, true, true, false, false] rfl rfl (by kernel_rfl) (fun _ _ _ h => h) (Or.inl ⟨by rfl, ?_⟩) ?_ ?_
        rotate_left
        · intro w'
          go_simp
          with_reducible rfl
        rotate_left
        · simp only [Act.put, List.setIfInBounds_toArray, List.set_cons_zero, List.set_cons_succ, i64_w, i32_w]
          rfl
        refine pure_ (i := 10) (N := some 54) (v := ?_) (a' := ?_) #[true, true, true, true, true, true, true, true, true, true, true, false] rfl rfl (by kernel_rfl) (fun _ _ _ h => h) (Or.inl ⟨by rfl, ?_⟩) ?_ ?_
        rotate_left
        · intro w'
          go_simp
          with_reducible rfl
        rotate_left
        · simp only [Act.put, List.setIfInBounds_toArray, List.set_cons_zero, List.set_cons_succ, i64_w, i32_w]
          rfl
        refine last_ (i := 11) (N := none) #[true, true, true, true, true, true, true, true, true, true, true, true] rfl rfl (by kernel_rfl) (by decide) (fun K hK => ?_)
        refine skip_ (w1 := ?_) (by rfl) rfl ?_ ?_
        rotate_left
        · go_simp
          rfl
        refine hK.out _ _ ?_
        clear hK K
        refine done_ (by kernel_rfl) ?_
        have c5' := blk_cell hge1 5
        have fz := fun i => blk_frozen hge1 i
        have HG1 := Aside0.mk hge1
        have HN1 := Aside0.mk hN1
        have hn1 := Kd.V_after (v1 := .slice A1 ws.length c1) (u := vw) (ok := fun k => B ≤ k ∧ k ≠ g) (Kd.V_mono (Kd.V_below hXe.n hbB) fun k h => ⟨⟨h.1, h.2.1⟩, h.2.2⟩) hG1 hat1
        have hl1 := Kd.V_after (v1 := .slice A1 ws.length c1) (u := vw) (ok := fun k => B ≤ k ∧ k ≠ g) (Kd.V_mono (Kd.V_below hXe.l hbB) fun k h => ⟨⟨h.1, h.2.1⟩, h.2.2⟩) hG1 hat1
        have hk1 := Kd.V_after (v1 := .slice A1 ws.length c1) (u := vw) (ok := fun k => B ≤ k ∧ k ≠ g) (Kd.V_mono (Kd.V_below hXe.k hbB) fun k h => ⟨⟨h.1, h.2.1⟩, h.2.2⟩) hG1 hat1
        have hK1 : Kept W w1 (fun k => k = g ∨ vw.ownBlock = some k) := Kept.of_grown hG1 (hKe.below hbB) (fun k hk => .inl (.inr hk))
        have HV1 := Aside0.mk (And.intro hn1 (And.intro hl1 hk1))
        have HK1 := Aside0.mk hK1
        have HB1 := Aside0.mk (hB7.trans hB1)
        have HXH := Aside0.mk hXe.hB
        clear hge1 hN1 hn1 hl1 hk1 hK1 hHeld hXe hKe hCe hNe hBe hge hne3 hfr hR5 hFK hG1 hat1 hB7 hB1 md3 mb0 mb1 mb2 mb3 hbB
        go_wp2_with (fail)
        go_ret
        have hk2 := blk_put HG1.out 3 (.slice A1 ws.length c1) (cs' := #[.int .i64 s.q, .slice A6 T1.length c6, vl, .slice A1 ws.length c1, .bool s.off, .int .i64 s.count, .int .i64 s.fuse, vk, .int .i64 s.torn]) rfl
        have hk3 := blk_put hk2 5 (.int .i64 (wrap64 (s.count + 1))) (cs' := #[.int .i64 s.q, .slice A6 T1.length c6, vl, .slice A1 ws.length c1, .bool s.off, .int .i64 (wrap64 (s.count + 1)), .int .i64 s.fuse, vk, .int .i64 s.torn]) rfl
        have hKs := Ke_set (Ke_set (Kept.refl w1 (fun k => k = g)) 3 (.slice A1 ws.length c1)) 5 (.int .i64 (wrap64 (s.count + 1)))
        have hKW := Kept.setCell (p := ⟨g, 5, none⟩) (Kept.setCell (p := ⟨g, 3, none⟩) HK1.out (.inl (.inl rfl)) (.slice A1 ws.length c1)) (.inl (.inl rfl)) (.int .i64 (wrap64 (s.count + 1)))
        have hBF := Be_set (Be_set HB1.out HXH.out 3 (.slice A1 ws.length c1)) HXH.out 5 (.int .i64 (wrap64 (s.count + 1)))
        have hd : do0 s c = ({ s with now := T1, waits := ws, count := wrap64 (s.count + 1) }, 0) := HDO.out
        rw [hd]
        generalize (w1.setCell ⟨g, 3, none⟩ (.slice A1 ws.length c1)).setCell ⟨g, 5, none⟩ (.int .i64 (wrap64 (s.count + 1))) = w2 at *
        refine ⟨rfl, ⟨.slice A6 T1.length c6, .slice A1 ws.length c1, At.turn hKs HXH.out hk3 (Kd.V_mono HV1.out.1 fun k h => ⟨h.1.1, h.1.2, h.2⟩) (Kd.V_mono HV1.out.2.1 fun k h => ⟨h.1.1, h.1.2, h.2⟩) HN1.out (Kd.V_mono HV1.out.2.2 fun k h => ⟨h.1.1, h.1.2, h.2⟩)⟩, hKW, hBF⟩
    · have g1 : (E1 != 0) = true := bne_iff_ne.2 hE
      have HE := Aside0.mk hE
      have HX5 := Aside0.mk hX5
      have HK5 := Aside0.mk hK5
      have HBd5 := Aside0.mk hBd5
      clear hE hX5 hK5 hBd5 hB35 hV5 hk5
      go_wp2_with (fail)
      go_ret
      have hd : do0 s c = (s, E1) := by
        rw [do0, if_neg (by rw [← HSO.out]; exact Bool.false_ne_true), HT.out, if_pos HE.out]
      rw [hd]
      first
        | exact ⟨_, _, rfl, HX5.out, HK5.out, HBd5.out⟩
        | exact ⟨rfl, ⟨_, _, HX5.out⟩, HK5.out, HBd5.out⟩
end Go.Proofs.YtidlldfghkaeeaaDoor.P
end
section
namespace Go.Proofs.YtidlldfghkaeeaaDoor.P
open Go.RowKit Go.Proofs.YtidlldfghkaeeaaDoorW.PrintWords Go.Proofs.YtidlldfghkaeeaaDoorW.PrintLast Go.Proofs.YtidlldfghkaeeaaDoorW.PrintMore
attribute [local go_sem] max2_int min2_int max_two min_two max_three min_three max_four min_four   -- for this text's walks alone
set_option linter.unusedVariables false
set_option linter.unusedSimpArgs false
/-! ### slices_Index_int_int: function 116 -/
def slices_Index_int_int.l0 : Nat → List Int → Int → Int → Int → Option (Int)
 | 0, _, _, _, _ => none
 | k + 1, x0, x1, x7, x8 => if x8 < x7 then (if 0 ≤ x8 then (if x8 < (x0.length : Int) then (if x1 = (rd x0 x8) then (some x8) else (slices_Index_int_int.l0 k x0 x1 x7 (wrap64 (x8 + 1)))) else (none)) else (none)) else (some (-1))
def slices_Index_int_int.f (k : Nat) (l0 : List Int) (a1 : Int) : Option (Int) := slices_Index_int_int.l0 k l0 a1 (l0.length : Int) 0
set_option maxHeartbeats 8000000 in
set_option maxRecDepth 100000 in
theorem slices_Index_int_int.calls (k : Nat) (A0 : Option Addr) (c0 : Nat) (l0 : List Int) (a1 : Int) (r : Int) (w : World) (hr0 : Kd.C (Kd.int .i64) w A0 l0.length l0) (hc0 : l0.length ≤ c0) (h : slices_Index_int_int.f k l0 a1 = some r) :
  Calls Tryd.prog 116 #[.slice A0 l0.length c0, .int .i64 a1] w fun e w' => e = .returned (.int .i64 r) ∧ Drawn0 w w' := by
 have HR0 := Aside0.mk hr0
 have HC0 := Aside0.mk hc0
 clear hr0 hc0
 have H : (slices_Index_int_int.l0 k l0 a1 (l0.length : Int) 0) = some r := h
 clear h
 have H' := Aside0.mk H
 clear H
 go_enter Tryd.func116, Tryd.ntmps116
 go_wp2
 go_loopg [8] k (fun kq v8 w' => ∃ (x8_1 : Int), v8 = .int .i64 x8_1 ∧ Aside0 (slices_Index_int_int.l0 kq l0 a1 (l0.length : Int) x8_1 = some r) ∧ Aside0 (kq ≤ k) ∧ Drawn0 w w')
 case atStart => exact ⟨(0), (by first | rfl | (simp; done) | (simp [*]; done)), H', ⟨Nat.le_refl _⟩, by repeat (first | exact Drawn0.refl _ | apply Drawn0.step)⟩
 case round =>
  clear H'
  try clear c1
  try clear p2
  obtain ⟨x8_1, rfl, HA, HK1, ⟨m1, rfl⟩⟩ := hrel
  cases gk with
  | zero => exact absurd HA.out (by simp [slices_Index_int_int.l0])
  | succ k1 =>
   have H := HA.out
   clear HA
   simp only [slices_Index_int_int.l0] at H
   by_cases c3 : x8_1 < (l0.length : Int)
   ·rw [if_pos c3] at H
    have c3b0 : decide (x8_1 < (l0.length : Int)) = true := decide_eq_true c3
    clear c3
    by_cases c4 : 0 ≤ x8_1
    ·rw [if_pos c4] at H
     have c4b0 : decide (0 ≤ x8_1) = true := decide_eq_true c4
     clear c4
     by_cases c5 : x8_1 < (l0.length : Int)
     ·rw [if_pos c5] at H
      have c5b0 : decide (x8_1 < (l0.length : Int)) = true := decide_eq_true c5
      clear c5
      by_cases c6 : a1 = (rd l0 x8_1)
      ·rw [if_pos c6] at H
       have c6b0 : (a1 == (rd l0 x8_1)) = true := beq_iff_eq.mpr c6
       have c6b1 : (a1 != (rd l0 x8_1)) = false := bne_eq_false_iff_eq.mpr c6
       clear c6
       obtain rfl := Option.some.inj H
       have p190 : 0 ≤ (x8_1 : Int) := of_decide_eq_true (by first | (with_reducible assumption) | assumption)
       have q190 : x8_1 < (l0.length : Int) := of_decide_eq_true (by first | (with_reducible assumption) | assumption)
       obtain ⟨ad190, e190, hx190_0⟩ := Kd.at_int HR0.out x8_1 p190 q190
       cases e190
       replace p190 := eq_true p190
       replace q190 := eq_true q190
       go_wp2
       go_ret
       exact ⟨by first | rfl | (simp; done) | (simp [*]; done), by repeat (first | exact Drawn0.refl _ | apply Drawn0.step)⟩
      ·rw [if_neg c6] at H
       have c6b0 : (a1 == (rd l0 x8_1)) = false := beq_eq_false_iff_ne.mpr c6
       have c6b1 : (a1 != (rd l0 x8_1)) = true := bne_iff_ne.mpr c6
       have H' := Aside0.mk H
       clear H
       have p190 : 0 ≤ (x8_1 : Int) := of_decide_eq_true (by first | (with_reducible assumption) | assumption)
       have q190 : x8_1 < (l0.length : Int) := of_decide_eq_true (by first | (with_reducible assumption) | assumption)
       obtain ⟨ad190, e190, hx190_0⟩ := Kd.at_int HR0.out x8_1 p190 q190
       cases e190
       replace p190 := eq_true p190
       replace q190 := eq_true q190
       go_wp2
       go_roundg k1
       case measure => have := HK1.out; omega
       case rel => exact ⟨(wrap64 (x8_1 + 1)), (by first | rfl | (simp; done) | (simp [*]; done)), H', ⟨by have := HK1.out; omega⟩, by repeat (first | exact Drawn0.refl _ | apply Drawn0.step)⟩
     ·rw [if_neg c5] at H
      exact absurd H (by simp)
    ·rw [if_neg c4] at H
     exact absurd H (by simp)
   ·rw [if_neg c3] at H
    have c3b0 : decide (x8_1 < (l0.length : Int)) = false := decide_eq_false c3
    clear c3
    obtain rfl := Option.some.inj H
    go_wp2
    go_ret
    exact ⟨by first | rfl | (simp; done) | (simp [*]; done), by repeat (first | exact Drawn0.refl _ | apply Drawn0.step)⟩


end Go.Proofs.YtidlldfghkaeeaaDoor.P
end
