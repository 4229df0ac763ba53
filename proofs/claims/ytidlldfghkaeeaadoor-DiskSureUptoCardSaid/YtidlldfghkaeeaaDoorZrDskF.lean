/- Put together by pack2.py: DskF -/
import Derived.Test.YtidlldfghkaeeaaDoorZrPfSlicesContainsIntIntEtc
namespace Go.Proofs.YtidlldfghkaeeaaDoor.P
open Go.RowKit Go.Proofs.YtidlldfghkaeeaaDoorW.PrintWords Go.Proofs.YtidlldfghkaeeaaDoorW.PrintLast Go.Proofs.YtidlldfghkaeeaaDoorW.PrintMore
set_option linter.unusedVariables false
set_option linter.unusedSimpArgs false
theorem size5_ : (Tryd.prog.info? 5).map (·.size) = some 1 := by kernel_rfl
attribute [local go_sem] max2_int min2_int max_two min_two
theorem Index_l0 (l : List Int) (a : Int) (hl : l.length ≤ 100000) : ∀ (d i k : Nat), i + d = l.length → d < k → (∀ j (hj : j < l.length), j < i → l[j] ≠ a) → ∃ r, slices_Index_int_int.l0 k l a (l.length : Int) (i : Int) = some r ∧ (0 ≤ r ↔ a ∈ l)
  | 0, i, k, hd, hk, ha => by
    obtain ⟨k, rfl⟩ : ∃ m, k = m + 1 := ⟨k - 1, by omega⟩
    refine ⟨-1, by rw [slices_Index_int_int.l0, if_neg (by omega)], ⟨fun h => by omega, fun h => ?_⟩⟩
    obtain ⟨j, hj, e⟩ := List.mem_iff_getElem.1 h
    exact absurd e (ha j hj (by omega))
  | d + 1, i, k, hd, hk, ha => by
    obtain ⟨k, rfl⟩ : ∃ m, k = m + 1 := ⟨k - 1, by omega⟩
    have hi : i < l.length := by omega
    have hr : rd l (i : Int) = l[i] := by
      unfold rd
      rw [Int.toNat_natCast, List.getD_eq_getElem?_getD, List.getElem?_eq_getElem hi]
      rfl
    rw [slices_Index_int_int.l0, if_pos (by omega), if_pos (by omega), if_pos (by omega), hr]
    by_cases h : a = l[i]
    · refine ⟨(i : Int), if_pos h, ⟨fun _ => by rw [h]; exact List.getElem_mem hi, fun _ => by omega⟩⟩
    · rw [if_neg h, wr1 (by omega)]
      refine Index_l0 l a hl d (i + 1) k (by omega) (by omega) fun j hj hji => ?_
      rcases Nat.lt_or_ge j i with h1 | h1
      · exact ha j hj h1
      · obtain rfl : j = i := by omega
        exact fun e => h e.symm
theorem ContainsI_eq (l : List Int) (a : Int) (hl : l.length ≤ 100000) : slices_Contains_int_int.f (l.length + 1) l a = some (decide (a ∈ l)) := by
  obtain ⟨r, h1, h2⟩ := Index_l0 l a hl l.length 0 (l.length + 1) (by omega) (by omega) fun j _ h => absurd h (Nat.not_lt_zero j)
  unfold slices_Contains_int_int.f slices_Index_int_int.f
  have h1' : slices_Index_int_int.l0 (l.length + 1) l a (l.length : Int) 0 = some r := h1
  rw [h1', Option.bind_some]
  congr 1
  rw [decide_eq_decide]
  exact h2
/-- A change as a fall leaves it: a file's bytes torn. -/
def cutC (torn : Int) (c : S61) : S61 := if c.f0 = 1 ∧ 0 ≤ torn then { c with f3 := c.f3.take torn.toNat } else c
/-- What lasts behind one change that waits. -/
def fall1 (keep : List Int) (torn : Int) (last : List S30) (i : Nat) (c : S61) : List S30 := if (i : Int) ∈ keep then (if (done0 last (cutC torn c)).2 = 0 then (done0 last (cutC torn c)).1 else last) else last
def fallN (keep : List Int) (torn : Int) (ws : List S61) (l : List S30) : Nat → List S30
  | 0 => l
  | i + 1 => match ws[i]? with
    | some c => fall1 keep torn (fallN keep torn ws l i) i c
    | none => fallN keep torn ws l i
theorem fall1_GT {keep : List Int} {torn : Int} {l : List S30} {i : Nat} {c : S61} (h : GT30 l) : GT30 (fall1 keep torn l i c) := by
  unfold fall1
  split
  · split
    · exact done0_GT h
    · exact h
  · exact h
theorem fallN_GT {keep : List Int} {torn : Int} {ws : List S61} {l : List S30} (h : GT30 l) : ∀ i, GT30 (fallN keep torn ws l i)
  | 0 => h
  | i + 1 => by
    rw [fallN]
    split
    · exact fall1_GT (fallN_GT h i)
    · exact fallN_GT h i
theorem cutC_okG {torn : Int} {c : S61} (h : okG c) : okG (cutC torn c) := by
  unfold cutC
  split
  · exact ⟨h.1, h.2.1, Nat.le_trans (List.length_take_le' _ _) h.2.2⟩
  · exact h
set_option maxHeartbeats 8000000 in
set_option maxRecDepth 100000 in
theorem Crash_calls (W : World) (B g : Nat) (s : Dk) (vn vl0 vw vk : Value) (A5 : Option Addr) (c5 : Nat) (keep : List Int) (torn : Int) (h : At W B g s vn vl0 vw vk) (hw : s.waits.length ≤ 100000) (ho : s.off = false) (hgl : GT30 s.last) (hz : ∀ x ∈ s.waits, okG x)
    (hk : ∀ W', Kept W W' (fun k => k = g) → Kd.C (Kd.int .i64) W' A5 keep.length keep) (hc5 : keep.length ≤ c5) (hkl : keep.length ≤ 100000) :
    Calls Tryd.prog 57 #[.pointer (some ⟨g, 0, none⟩), .slice A5 keep.length c5, .int .i64 torn] W fun e w' => ∃ vl, e = .returned (.tuple #[]) ∧ At w' B g { s with now := fallN keep torn s.waits s.last s.waits.length, last := fallN keep torn s.waits s.last s.waits.length, waits := [], off := true, fuse := 0 } vl vl (.slice none 0 0) vk ∧ Kept W w' (fun k => k = g) ∧ Below B W w' := by
  have hu101 := Tryd.underlying101
  have hu26 := Tryd.underlying26
  have hu61 := Tryd.underlying61
  have HH := Aside0.mk h
  have HW := Aside0.mk hw
  have HZ := Aside0.mk hz
  have HKP := Aside0.mk hk
  have HC5 := Aside0.mk hc5
  have HKL := Aside0.mk hkl
  have HGLL := Aside0.mk hgl
  obtain ⟨c0, c1, c2, c3, c4, c5', c6, c7, c8⟩ := h.cells
  rw [ho] at c4
  have HO := Aside0.mk ho
  obtain ⟨Aw, cw, hvw⟩ := Kd.N_slice h.w
  obtain ⟨nw, hnw⟩ : ∃ nw, nw = s.waits.length := ⟨_, rfl⟩
  obtain ⟨vw', hvw'⟩ : ∃ v, v = vw := ⟨_, rfl⟩
  rw [hvw] at c3
  clear hnw nw hvw' vw' h hw hz hk hc5 hkl hgl ho c0 c1 c2 c5' c6 c7 c8
  have HVW := Aside0.mk hvw
  clear hvw
  go_enter Tryd.func57, Tryd.ntmps57
  go_wp2_with (fail)
  go_loopg [6, 7, 8, 9, 19, 20, 21, 22, 23, 24, 25, 26, 27] s.waits.length (fun gg _ _ _ _ s19 _ _ _ _ _ _ _ _ wr => ∃ (i : Nat) (vl : Value), i ≤ s.waits.length ∧ gg = s.waits.length - i ∧ s19 = .int .i64 i ∧ At wr B g { s with last := fallN keep torn s.waits s.last i } vn vl vw vk ∧ Kept W wr (fun k => k = g) ∧ Below B W wr)
  case atStart => exact ⟨0, vl0, Nat.zero_le _, rfl, rfl, HH.out, Kept.refl _ _, Below.refl _ _⟩
  case round =>
    obtain ⟨i, vl, hi, rfl, rfl, hX, hKr, hBr⟩ := hrel
    by_cases a : i < s.waits.length
    · have a1 : decide ((i : Int) < (s.waits.length : Int)) = true := decide_eq_true (by omega)
      have hNw : Kd.N k61 61 wr B (fun k => B ≤ k ∧ k ≠ g) (.slice Aw s.waits.length cw) s.waits := by
        have h := hX.w
        rw [HVW.out] at h
        exact h
      have hC := (Kd.N_reads' hNw).2.2
      obtain ⟨ad, A3, c3', ead, K0, K1, K2, K3, hc3, hC3⟩ := at_T61 hC (i : Int) (by omega) (by omega)
      rw [rd61 a, Int.toNat_natCast] at K0 K1 K2 K3
      rw [rd61 a] at hc3 hC3
      subst ead
      have hz := HZ.out _ (List.getElem_mem a)
      have hstep : ∀ c, s.waits[i] = c → fallN keep torn s.waits s.last (i + 1) = fall1 keep torn (fallN keep torn s.waits s.last i) i c := fun c hc => by rw [fallN, List.getElem?_eq_getElem a, hc]
      obtain ⟨X, hXq⟩ : ∃ X, X = s.waits[i] := ⟨_, rfl⟩
      rw [← hXq] at K0 K1 K2 K3 hc3 hC3 hz
      have hgL : GT30 (fallN keep torn s.waits s.last i) := fallN_GT HGLL.out i
      have hst := hstep X hXq.symm
      obtain ⟨L, hL⟩ : ∃ L, L = fallN keep torn s.waits s.last i := ⟨_, rfl⟩
      rw [← hL] at hX hgL hst
      have HLN : Aside0 (∀ T, fall1 keep torn L i X = T → fallN keep torn s.waits s.last (i + 1) = T) := ⟨fun T h => hst.trans h⟩
      have HGL := Aside0.mk hgL
      have HXr := Aside0.mk hX
      have HKr := Aside0.mk hKr
      have HBr := Aside0.mk hBr
      have HC3 := Aside0.mk hC3
      have HZX := Aside0.mk hz
      clear hNw hC hXq hgL hst hL hstep hX hKr hBr hC3 hz
      go_wp2_with (fail)
      have hba := below_alloc (Below.refl wr.heap.size wr) (.cells #[.int .i64 X.f0, .string X.f1, .string X.f2, .slice A3 X.f3.length c3'] 61)
      have hk7 := blk_new wr (.cells #[.int .i64 X.f0, .string X.f1, .string X.f2, .slice A3 X.f3.length c3'] 61)
      obtain ⟨b7, hb7⟩ : ∃ b7, b7 = wr.heap.size := ⟨_, rfl⟩
      rw [← hb7] at hk7 ⊢
      have HG7 : Aside0 (g < b7) := ⟨by rw [hb7]; exact blk_lt HXr.out.hg⟩
      have HB7g : Aside0 (B ≤ b7) := ⟨by have := HG7.out; have := HXr.out.hB; omega⟩
      have HB7L : Aside0 (wr.heap.size ≤ b7) := ⟨by omega⟩
      generalize wr.alloc (.cells #[.int .i64 X.f0, .string X.f1, .string X.f2, .slice A3 X.f3.length c3'] 61) = wa at *
      clear hb7
      have hw1 : wrap64 ((i : Int) + 1) = ((i + 1 : Nat) : Int) := by have := HW.out; exact wr1 (by omega)
      refine (slices_Contains_int_int.calls (keep.length + 1) A5 c5 keep (i : Int) (decide ((i : Int) ∈ keep)) wa (HKP.out _ (HKr.out.below hba)) HC5.out (ContainsI_eq keep i HKL.out)).mono ?_
      rintro e wb ⟨rfl, hdb⟩
      have hbb := hdb.below
      have HB7 := Aside0.mk ((hbb.block _ (blk_lt hk7)).trans hk7)
      have HBL := Aside0.mk (hba.trans (hbb.mono hba.size))
      clear hk7 hdb hbb hba
      dsimp only
      by_cases hin : (i : Int) ∈ keep
      · rw [decide_eq_true hin]
        have HIN := Aside0.mk hin
        clear hin
        have mk0 := blk_cell HB7.out 0
        by_cases hcut : X.f0 = 1 ∧ 0 ≤ torn
        · have p1 : (X.f0 == 1) = true := beq_iff_eq.2 hcut.1
          have p2 : decide (0 ≤ torn) = true := decide_eq_true hcut.2
          have mk3 := blk_cell HB7.out 3
          have fk3 := blk_frozen HB7.out 3
          obtain ⟨Y, hY⟩ : ∃ Y, Y = cutC torn X := ⟨_, rfl⟩
          have hYe : Y = { X with f3 := X.f3.take torn.toNat } := by rw [hY, cutC, if_pos hcut]
          obtain ⟨m, hm⟩ : ∃ m, m = (X.f3.take torn.toNat).length := ⟨_, rfl⟩
          have hml : m ≤ X.f3.length := by rw [hm]; exact List.length_take_le' _ _
          have hmin : (if (X.f3.length : Int) < torn then (X.f3.length : Int) else torn) = (m : Int) := by
            rw [hm, List.length_take]
            split <;> omega
          have hT : ∀ W : World, (Instr.slice 23 (.slice A3 X.f3.length c3') none (some (.int .i64 (m : Int))) none).run Tryd.prog W = .ok (.slice A3 m c3') W := fun W => by
            obtain ⟨i5, hi5, hz5⟩ := Option.map_eq_some_iff.1 size5_
            have h := (print_take_of (P := Tryd.prog) (fun x : Int => Value.int .u8 x) 0 23 5 .i64 Tryd.underlying23 hi5 hz5 A3 c3' X.f3 (m : Int) (by omega) (by omega) hc3).1 W
            rw [Int.toNat_natCast, List.length_take, Nat.min_eq_left hml] at h
            exact h
          have HYC : Aside0 (cutC torn X = Y) := ⟨hY.symm⟩
          have HYE := Aside0.mk hYe
          have HM := Aside0.mk hm
          have HML := Aside0.mk hml
          clear hY hYe hm hml hcut
          go_wp2_with (fail)
          have hk7 := blk_put HB7.out 3 (.slice A3 m c3') (cs' := #[.int .i64 X.f0, .string X.f1, .string X.f2, .slice A3 m c3']) rfl
          have hbl := HBL.out.setCell (p := ⟨b7, 3, none⟩) HB7L.out (.slice A3 m c3')
          generalize wb.setCell ⟨b7, 3, none⟩ (.slice A3 m c3') = wc at *
          have hf : Y.f0 = X.f0 ∧ Y.f1 = X.f1 ∧ Y.f2 = X.f2 ∧ Y.f3 = X.f3.take torn.toNat := by rw [HYE.out]; exact ⟨rfl, rfl, rfl, rfl⟩
          have hmY : m = Y.f3.length := by rw [hf.2.2.2]; exact HM.out
          rw [← hf.1, ← hf.2.1, ← hf.2.2.1, hmY] at hk7
          have HCY : Aside0 (Kd.C (Kd.int .u8) wc A3 Y.f3.length Y.f3) := ⟨by
            have h := Kd.C_take (m := m) (Kd.C_below HC3.out hbl) HML.out
            rw [hf.2.2.2, ← HM.out]
            have e : X.f3.take m = X.f3.take torn.toNat := by
              rw [HM.out, List.length_take]
              rcases Nat.le_total torn.toNat X.f3.length with h1 | h1
              · rw [Nat.min_eq_left h1]
              · rw [Nat.min_eq_right h1, List.take_length, List.take_of_length_le h1]
            rw [e, ← HM.out] at h
            exact h⟩
          have HC3Y : Aside0 (Y.f3.length ≤ c3') := ⟨by rw [← hmY]; have := HML.out; omega⟩
          have HGY : Aside0 (okG Y) := ⟨by rw [← HYC.out]; exact cutC_okG HZX.out⟩
          have HB7 := Aside0.mk hk7
          have HXa := Aside0.mk (HXr.out.below hbl)
          have HKa := Aside0.mk (HKr.out.below hbl)
          have HBa := Aside0.mk (HXr.out.thenB HBr.out hbl)
          clear hf hmY hk7 hbl HXr HKr HBr HBL HC3 mk0 mk3 fk3 hmin hT
          obtain ⟨T1, E1, hT⟩ : ∃ T1 E1, done0 L Y = (T1, E1) := ⟨_, _, rfl⟩
          have HT := Aside0.mk hT
          have hgT : GT30 T1 := by have := done0_GT (c := Y) HGL.out; rw [hT] at this; exact this
          have HGT := Aside0.mk HGL.out
          obtain ⟨Al, cl, hvl, _⟩ := HXa.out.l
          subst hvl
          have hXd := HXa.out.below (below_drew (Below.refl wc.heap.size wc))
          have hKd : Kept W wc.drew (fun k => k = g) := HKa.out.drew
          have hBd : Below B W wc.drew := HBa.out.drew
          have hB7 : wc.drew.heap[b7]? = some (.cells #[.int .i64 Y.f0, .string Y.f1, .string Y.f2, .slice A3 Y.f3.length c3'] 61 (0, 0)) := HB7.out
          have md2 := hXd.cells.2.2.1
          have mb0 := blk_cell hB7 0
          have mb1 := blk_cell hB7 1
          have mb2 := blk_cell hB7 2
          have mb3 := blk_cell hB7 3
          have hPf : ∀ k, wc.drew.heap.size ≤ k → PD B g vw k := fun k hk => by
            have h1 := blk_lt hXd.hg
            refine ⟨Nat.le_trans hXd.hB (by omega), by omega, fun e => ?_⟩
            have := Kd.N_lt hXd.w k e.symm
            omega
          have hVd : Kd.V k30 30 wc.drew 0 (fun k => PD B g vw k ∧ k < wc.drew.heap.size) (.slice Al L.length cl) L := Kd.V_bound hXd.l
          have hCd := Kd.C_drew HCY.out
          have HGT1 := Aside0.mk hgT
          clear hT hgT HXa HKa HBa hB7 HB7
          refine start_ (n := 12) (S := fun w' => w'.cell? ⟨g, 2, none⟩ = some (.slice Al L.length cl) ∧ w'.cell? ⟨b7, 0, none⟩ = some (.int .i64 Y.f0) ∧ w'.cell? ⟨b7, 1, none⟩ = some (.string Y.f1) ∧ w'.cell? ⟨b7, 2, none⟩ = some (.string Y.f2) ∧ w'.cell? ⟨b7, 3, none⟩ = some (.slice A3 Y.f3.length c3')) (ds := [10]) #[false, false, false, false, false, false, false, false, false, false, false, false] (by kernel_rfl) rfl rfl ⟨md2, mb0, mb1, mb2, mb3⟩ (fun hHeld => ?_)
          generalize wc.drew = wd at md2 mb0 mb1 mb2 mb3 hPf hVd hCd hXd hKd hBd hHeld ⊢
          refine pure_ (i := 0) (N := some 45) (v := ?_) (a' := ?_) #[true, false, false, false, false, false, false, false, false, false, false, false] rfl rfl (by kernel_rfl) (fun _ _ _ h => h) (Or.inl ⟨by rfl, ?_⟩) ?_ ?_
          rotate_left
          · intro w'
            go_simp
            with_reducible rfl
          rotate_left
          · simp only [Act.put, List.setIfInBounds_toArray, List.set_cons_zero, List.set_cons_succ, i64_w, i32_w]
            rfl
          refine pure_ (i := 1) (N := some 46) (v := ?_) (a' := ?_) #[true, true, false, false, false, false, false, false, false, false, false, false] rfl rfl (by kernel_rfl) (fun _ _ _ h => h) (Or.inl ⟨by rfl, ?_⟩) ?_ ?_
          rotate_left
          · intro w'
            go_simp
            with_reducible rfl
          rotate_left
          · simp only [Act.put, List.setIfInBounds_toArray, List.set_cons_zero, List.set_cons_succ, i64_w, i32_w]
            rfl
          refine pure_ (i := 2) (N := some 47) (v := ?_) (a' := ?_) #[true, true, true, false, false, false, false, false, false, false, false, false] rfl rfl (by kernel_rfl) (fun _ _ _ h => h) (Or.inl ⟨by rfl, ?_⟩) ?_ ?_
          rotate_left
          · intro w'
            go_simp
            with_reducible rfl
          rotate_left
          · simp only [Act.put, List.setIfInBounds_toArray, List.set_cons_zero, List.set_cons_succ, i64_w, i32_w]
            rfl
          refine take_ (i := 3) (N := some 48) (v := ?_) (a' := ?_) #[true, true, true, true, false, false, false, false, false, false, false, false] rfl rfl (by kernel_rfl) (fun _ _ _ h => h) (Or.inl ⟨by rfl, ?_⟩) hHeld ?_ ?_
          rotate_left
          · rintro w' ⟨s0, s1, s2, s3, s4⟩
            go_simp
            with_reducible rfl
          rotate_left
          · simp only [Act.put, List.setIfInBounds_toArray, List.set_cons_zero, List.set_cons_succ, i64_w, i32_w]
            rfl
          refine take_ (i := 4) (N := some 49) (v := ?_) (a' := ?_) #[true, true, true, true, true, false, false, false, false, false, false, false] rfl rfl (by kernel_rfl) (fun _ _ _ h => h) (Or.inl ⟨by rfl, ?_⟩) hHeld ?_ ?_
          rotate_left
          · rintro w' ⟨s0, s1, s2, s3, s4⟩
            go_simp
            with_reducible rfl
          rotate_left
          · simp only [Act.put, List.setIfInBounds_toArray, List.set_cons_zero, List.set_cons_succ, i64_w, i32_w]
            rfl
          refine join_ (σ := Value × Nat) 2 #[true, true, true, true, true, true, true, true, true, true, false, false] (fun s_ => [(50, .tuple #[.agg #[s_.1], .int .i64 E1]), (44, .tuple #[.agg #[s_.1], .int .i64 E1]), (51, .agg #[s_.1]), (52, .int .i64 E1), (8, .pointer (some ⟨s_.2, 0, none⟩))]) (fun s_ w' => DoV (PD B g vw) wd w' (some s_.2) s_.1 T1) ?_ ?_
          rotate_left
          · intro hCont
            refine two_ (i := 5) (j := 9) (Ni := some 50) (Nj := some 8) #[true, true, true, true, true, true, false, false, false, false, false, false] #[true, true, true, true, true, false, false, false, false, true, false, false] rfl rfl rfl rfl (by kernel_rfl) (by decide) (by decide) (fun K hK => ?_) (fun K hK => ?_)
            · skip
              refine goes_ Tryd.func80 (by kernel_rfl) rfl #[.agg #[.slice Al L.length cl], .agg #[.int .i64 Y.f0, .string Y.f1, .string Y.f2, .slice A3 Y.f3.length c3']] (by rfl) rfl rfl (by simp only [List.map_toArray, List.map_cons, List.map_nil]; rfl) ?_
              with_reducible refine (Do_done0 HT.out hPf hVd hCd HC3Y.out (GT_okT HGT.out) HGY.out).mono ?_
              rintro e wA ⟨vA, rfl, hW⟩
              refine ⟨_, rfl, ?_⟩
              refine hK.out _ _ ⟨(Below.cell hW.hb (cell_lt2 md2)).trans md2, (Below.cell hW.hb (cell_lt2 mb0)).trans mb0, (Below.cell hW.hb (cell_lt2 mb1)).trans mb1, (Below.cell hW.hb (cell_lt2 mb2)).trans mb2, (Below.cell hW.hb (cell_lt2 mb3)).trans mb3⟩ (fun hHeld => ?_)
              clear hK K
              refine norm_ (a' := ?_) ?_ ?_
              rotate_left
              · show Act.put _ (some 50) _ = _
                simp only [Act.put, List.setIfInBounds_toArray, List.set_cons_zero, List.set_cons_succ, i64_w, i32_w]
                rfl
              refine pure_ (i := 6) (N := some 44) (v := ?_) (a' := ?_) #[true, true, true, true, true, true, true, false, false, false, false, false] rfl rfl (by kernel_rfl) (fun _ _ _ h => h) (Or.inl ⟨by rfl, ?_⟩) ?_ ?_
              rotate_left
              · intro w'
                go_simp
                with_reducible rfl
              rotate_left
              · simp only [Act.put, List.setIfInBounds_toArray, List.set_cons_zero, List.set_cons_succ, i64_w, i32_w]
                rfl
              refine pure_ (i := 7) (N := some 51) (v := ?_) (a' := ?_) #[true, true, true, true, true, true, true, true, false, false, false, false] rfl rfl (by kernel_rfl) (fun _ _ _ h => h) (Or.inl ⟨by rfl, ?_⟩) ?_ ?_
              rotate_left
              · intro w'
                go_simp
                with_reducible rfl
              rotate_left
              · simp only [Act.put, List.setIfInBounds_toArray, List.set_cons_zero, List.set_cons_succ, i64_w, i32_w]
                rfl
              refine pure_ (i := 8) (N := some 52) (v := ?_) (a' := ?_) #[true, true, true, true, true, true, true, true, true, false, false, false] rfl rfl (by kernel_rfl) (fun _ _ _ h => h) (Or.inl ⟨by rfl, ?_⟩) ?_ ?_
              rotate_left
              · intro w'
                go_simp
                with_reducible rfl
              rotate_left
              · simp only [Act.put, List.setIfInBounds_toArray, List.set_cons_zero, List.set_cons_succ, i64_w, i32_w]
                rfl
              refine one_ (i := 9) (N := some 8) #[true, true, true, true, true, true, true, true, true, true, false, false] rfl rfl (by kernel_rfl) (by decide) (fun K hK => ?_)
              refine value_ (w1 := ?_) (v := ?_) (by rfl) rfl ?_ ?_
              rotate_left 2
              · go_simp
                constructor
                · rfl
                · rfl
              replace hW := hW.alloc
              refine hK.out _ _ ⟨(Below.cell hW.hb (cell_lt2 md2)).trans md2, (Below.cell hW.hb (cell_lt2 mb0)).trans mb0, (Below.cell hW.hb (cell_lt2 mb1)).trans mb1, (Below.cell hW.hb (cell_lt2 mb2)).trans mb2, (Below.cell hW.hb (cell_lt2 mb3)).trans mb3⟩ (fun hHeld => ?_)
              clear hK K
              refine norm_ (a' := ?_) ?_ ?_
              rotate_left
              · show Act.put _ (some 8) _ = _
                simp only [Act.put, List.setIfInBounds_toArray, List.set_cons_zero, List.set_cons_succ, i64_w, i32_w]
                rfl
              exact norm_ (by simp only [putAll, Act.put, List.setIfInBounds_toArray, List.set_cons_zero, List.set_cons_succ]) (hCont (vA, wA.heap.size) _ hW)
            · skip
              refine value_ (w1 := ?_) (v := ?_) (by rfl) rfl ?_ ?_
              rotate_left 2
              · go_simp
                constructor
                · rfl
                · rfl
              have hb0 := below_alloc (Below.refl wd.heap.size wd) (.cells #[.slice none 0 0] 26)
              refine hK.out _ _ ⟨(Below.cell hb0 (cell_lt2 md2)).trans md2, (Below.cell hb0 (cell_lt2 mb0)).trans mb0, (Below.cell hb0 (cell_lt2 mb1)).trans mb1, (Below.cell hb0 (cell_lt2 mb2)).trans mb2, (Below.cell hb0 (cell_lt2 mb3)).trans mb3⟩ (fun hHeld => ?_)
              clear hK K
              refine norm_ (a' := ?_) ?_ ?_
              rotate_left
              · show Act.put _ (some 8) _ = _
                simp only [Act.put, List.setIfInBounds_toArray, List.set_cons_zero, List.set_cons_succ, i64_w, i32_w]
                rfl
              refine one_ (i := 5) (N := some 50) #[true, true, true, true, true, true, false, false, false, true, false, false] rfl rfl (by kernel_rfl) (by decide) (fun K hK => ?_)
              refine goes_ Tryd.func80 (by kernel_rfl) rfl #[.agg #[.slice Al L.length cl], .agg #[.int .i64 Y.f0, .string Y.f1, .string Y.f2, .slice A3 Y.f3.length c3']] (by rfl) rfl rfl (by simp only [List.map_toArray, List.map_cons, List.map_nil]; rfl) ?_
              with_reducible refine (Do_done1 HT.out hPf hVd hCd HC3Y.out (GT_okT HGT.out) HGY.out).mono ?_
              rintro e wA ⟨vA, rfl, hW⟩
              refine ⟨_, rfl, ?_⟩
              refine hK.out _ _ ⟨(Below.cell hW.hb (cell_lt2 md2)).trans md2, (Below.cell hW.hb (cell_lt2 mb0)).trans mb0, (Below.cell hW.hb (cell_lt2 mb1)).trans mb1, (Below.cell hW.hb (cell_lt2 mb2)).trans mb2, (Below.cell hW.hb (cell_lt2 mb3)).trans mb3⟩ (fun hHeld => ?_)
              clear hK K
              refine norm_ (a' := ?_) ?_ ?_
              rotate_left
              · show Act.put _ (some 50) _ = _
                simp only [Act.put, List.setIfInBounds_toArray, List.set_cons_zero, List.set_cons_succ, i64_w, i32_w]
                rfl
              refine pure_ (i := 6) (N := some 44) (v := ?_) (a' := ?_) #[true, true, true, true, true, true, true, false, false, true, false, false] rfl rfl (by kernel_rfl) (fun _ _ _ h => h) (Or.inl ⟨by rfl, ?_⟩) ?_ ?_
              rotate_left
              · intro w'
                go_simp
                with_reducible rfl
              rotate_left
              · simp only [Act.put, List.setIfInBounds_toArray, List.set_cons_zero, List.set_cons_succ, i64_w, i32_w]
                rfl
              refine pure_ (i := 7) (N := some 51) (v := ?_) (a' := ?_) #[true, true, true, true, true, true, true, true, false, true, false, false] rfl rfl (by kernel_rfl) (fun _ _ _ h => h) (Or.inl ⟨by rfl, ?_⟩) ?_ ?_
              rotate_left
              · intro w'
                go_simp
                with_reducible rfl
              rotate_left
              · simp only [Act.put, List.setIfInBounds_toArray, List.set_cons_zero, List.set_cons_succ, i64_w, i32_w]
                rfl
              refine pure_ (i := 8) (N := some 52) (v := ?_) (a' := ?_) #[true, true, true, true, true, true, true, true, true, true, false, false] rfl rfl (by kernel_rfl) (fun _ _ _ h => h) (Or.inl ⟨by rfl, ?_⟩) ?_ ?_
              rotate_left
              · intro w'
                go_simp
                with_reducible rfl
              rotate_left
              · simp only [Act.put, List.setIfInBounds_toArray, List.set_cons_zero, List.set_cons_succ, i64_w, i32_w]
                rfl
              exact norm_ (by simp only [putAll, Act.put, List.setIfInBounds_toArray, List.set_cons_zero, List.set_cons_succ]) (hCont (vA, wd.heap.size) _ hW)
          rintro ⟨vA, b⟩ wz hW
          dsimp only at hW ⊢
          obtain ⟨hbx, hbl⟩ := hW.hx b rfl
          have hbc := blk_cell hbx 0
          have hbf := blk_frozen hbx 0
          have hHeld : wz.cell? ⟨g, 2, none⟩ = some (.slice Al L.length cl) ∧ wz.cell? ⟨b7, 0, none⟩ = some (.int .i64 Y.f0) ∧ wz.cell? ⟨b7, 1, none⟩ = some (.string Y.f1) ∧ wz.cell? ⟨b7, 2, none⟩ = some (.string Y.f2) ∧ wz.cell? ⟨b7, 3, none⟩ = some (.slice A3 Y.f3.length c3') := ⟨(Below.cell hW.hb (cell_lt2 md2)).trans md2, (Below.cell hW.hb (cell_lt2 mb0)).trans mb0, (Below.cell hW.hb (cell_lt2 mb1)).trans mb1, (Below.cell hW.hb (cell_lt2 mb2)).trans mb2, (Below.cell hW.hb (cell_lt2 mb3)).trans mb3⟩
          obtain ⟨A6, c6, rfl, _⟩ := hW.hV
          refine norm_ (a' := ?_) ?_ ?_
          rotate_left
          · simp only [putAll, Act.put, List.setIfInBounds_toArray, List.set_cons_zero, List.set_cons_succ]
            rfl
          refine last_ (i := 10) (N := none) #[true, true, true, true, true, true, true, true, true, true, true, false] rfl rfl (by kernel_rfl) (by decide) (fun K hK => ?_)
          refine skip_ (w1 := ?_) (by rfl) rfl ?_ ?_
          rotate_left
          · go_simp
            rfl
          refine hK.out _ _ ?_
          clear hK K
          refine pure_ (i := 11) (N := some 9) (v := ?_) (a' := ?_) #[true, true, true, true, true, true, true, true, true, true, true, true] rfl rfl (by kernel_rfl) (fun _ _ _ h => h) (Or.inl ⟨by rfl, ?_⟩) ?_ ?_
          rotate_left
          · intro w'
            go_simp
            with_reducible rfl
          rotate_left
          · simp only [Act.put, List.setIfInBounds_toArray, List.set_cons_zero, List.set_cons_succ, i64_w, i32_w]
            rfl
          refine done_ (by kernel_rfl) ?_
          have hby := hW.hb.setCell (p := ⟨b, 0, none⟩) hbl (.slice A6 T1.length c6)
          have hX5 := hXd.below hby
          have hK5 := hKd.below hby
          have hB5 := hXd.thenB hBd hby
          have hV5 := Kd.V_far (p := ⟨b, 0, none⟩) hW.hV (fun k hk e => hk.2 (by rw [show k = b from e])) (.slice A6 T1.length c6)
          have hk5 := blk_put hbx 0 (.slice A6 T1.length c6) (cs' := #[.slice A6 T1.length c6]) rfl
          have hV5 : Kd.V k30 30 _ 0 (PD B g vw) (.slice A6 T1.length c6) T1 := Kd.V_mono hV5 fun k hk => hk.1
          generalize wz.setCell ⟨b, 0, none⟩ (.slice A6 T1.length c6) = wy at *
          clear hW hbx hbl hbc hbf hby hXd hKd hBd hCd hVd hPf md2 mb0 mb1 mb2 mb3 hHeld
          have m5 := blk_cell hk5 0
          have fz := hX5.frozen
          have c2y := hX5.cells.2.2.1
          have HX5 := Aside0.mk hX5
          have HK5 := Aside0.mk hK5
          have HB5 := Aside0.mk hB5
          have HV5 := Aside0.mk hV5
          clear hX5 hK5 hB5 hV5 hk5
          by_cases hE : E1 = 0
          · subst hE
            go_wp2_with (fail)
            have hk1 := blk_put HX5.out.hg 2 (.slice A6 T1.length c6) (cs' := #[.int .i64 s.q, vn, .slice A6 T1.length c6, vw, .bool s.off, .int .i64 s.count, .int .i64 s.fuse, vk, .int .i64 s.torn]) rfl
            have hKs := Ke_set (Kept.refl wy (fun k => k = g)) 2 (.slice A6 T1.length c6)
            have hX7 : At (wy.setCell ⟨g, 2, none⟩ (.slice A6 T1.length c6)) B g { s with last := T1 } vn (.slice A6 T1.length c6) vw vk := At.turn hKs HX5.out.hB hk1 HX5.out.n HV5.out HX5.out.w HX5.out.k
            have hK7 := HK5.out.then_ hKs (fun k h => .inl h)
            have hB7 := Be_set HB5.out HX5.out.hB 2 (.slice A6 T1.length c6)
            have hLn : fallN keep torn s.waits s.last (i + 1) = T1 := HLN.out T1 (by rw [fall1, if_pos HIN.out, HYC.out, HT.out, if_pos rfl])
            go_roundg (s.waits.length - (i + 1))
            case measure => omega
            case rel => exact ⟨i + 1, _, by omega, rfl, by first | rfl | rw [hw1], by rw [hLn]; exact hX7, hK7, hB7⟩
          · have g1 : (E1 == 0) = false := beq_eq_false_iff_ne.2 hE
            have HE := Aside0.mk hE
            clear hE
            go_wp2_with (fail)
            have hLn : fallN keep torn s.waits s.last (i + 1) = L := HLN.out L (by rw [fall1, if_pos HIN.out, HYC.out, HT.out, if_neg HE.out])
            go_roundg (s.waits.length - (i + 1))
            case measure => omega
            case rel => exact ⟨i + 1, _, by omega, rfl, by first | rfl | rw [hw1], by rw [hLn]; exact HX5.out, HK5.out, HB5.out⟩
        · obtain ⟨Y, hY⟩ : ∃ Y, Y = X := ⟨_, rfl⟩
          have HYC : Aside0 (cutC torn X = Y) := ⟨by rw [hY, cutC, if_neg hcut]⟩
          have HCY : Aside0 (Kd.C (Kd.int .u8) wb A3 Y.f3.length Y.f3) := ⟨by rw [hY]; exact Kd.C_below HC3.out HBL.out⟩
          have HC3Y : Aside0 (Y.f3.length ≤ c3') := ⟨by rw [hY]; exact hc3⟩
          have HGY : Aside0 (okG Y) := ⟨by rw [hY]; exact HZX.out⟩
          have hB7' := HB7.out
          rw [← hY] at hB7'
          have HB7 := Aside0.mk hB7'
          have HXa := Aside0.mk (HXr.out.below HBL.out)
          have HKa := Aside0.mk (HKr.out.below HBL.out)
          have HBa := Aside0.mk (HXr.out.thenB HBr.out HBL.out)
          clear hB7' hY HXr HKr HBr HBL HC3
          by_cases h1 : X.f0 = 1
          · have p1 : (X.f0 == 1) = true := beq_iff_eq.2 h1
            have p2 : decide (0 ≤ torn) = false := decide_eq_false fun h => hcut ⟨h1, h⟩
            clear h1 hcut
            go_wp2_with (fail)
            clear mk0
            obtain ⟨T1, E1, hT⟩ : ∃ T1 E1, done0 L Y = (T1, E1) := ⟨_, _, rfl⟩
            have HT := Aside0.mk hT
            have hgT : GT30 T1 := by have := done0_GT (c := Y) HGL.out; rw [hT] at this; exact this
            have HGT := Aside0.mk HGL.out
            obtain ⟨Al, cl, hvl, _⟩ := HXa.out.l
            subst hvl
            have hXd := HXa.out.below (below_drew (Below.refl wb.heap.size wb))
            have hKd : Kept W wb.drew (fun k => k = g) := HKa.out.drew
            have hBd : Below B W wb.drew := HBa.out.drew
            have hB7 : wb.drew.heap[b7]? = some (.cells #[.int .i64 Y.f0, .string Y.f1, .string Y.f2, .slice A3 Y.f3.length c3'] 61 (0, 0)) := HB7.out
            have md2 := hXd.cells.2.2.1
            have mb0 := blk_cell hB7 0
            have mb1 := blk_cell hB7 1
            have mb2 := blk_cell hB7 2
            have mb3 := blk_cell hB7 3
            have hPf : ∀ k, wb.drew.heap.size ≤ k → PD B g vw k := fun k hk => by
              have h1 := blk_lt hXd.hg
              refine ⟨Nat.le_trans hXd.hB (by omega), by omega, fun e => ?_⟩
              have := Kd.N_lt hXd.w k e.symm
              omega
            have hVd : Kd.V k30 30 wb.drew 0 (fun k => PD B g vw k ∧ k < wb.drew.heap.size) (.slice Al L.length cl) L := Kd.V_bound hXd.l
            have hCd := Kd.C_drew HCY.out
            have HGT1 := Aside0.mk hgT
            clear hT hgT HXa HKa HBa hB7 HB7
            refine start_ (n := 12) (S := fun w' => w'.cell? ⟨g, 2, none⟩ = some (.slice Al L.length cl) ∧ w'.cell? ⟨b7, 0, none⟩ = some (.int .i64 Y.f0) ∧ w'.cell? ⟨b7, 1, none⟩ = some (.string Y.f1) ∧ w'.cell? ⟨b7, 2, none⟩ = some (.string Y.f2) ∧ w'.cell? ⟨b7, 3, none⟩ = some (.slice A3 Y.f3.length c3')) (ds := [10]) #[false, false, false, false, false, false, false, false, false, false, false, false] (by kernel_rfl) rfl rfl ⟨md2, mb0, mb1, mb2, mb3⟩ (fun hHeld => ?_)
            generalize wb.drew = wd at md2 mb0 mb1 mb2 mb3 hPf hVd hCd hXd hKd hBd hHeld ⊢
            refine pure_ (i := 0) (N := some 45) (v := ?_) (a' := ?_) #[true, false, false, false, false, false, false, false, false, false, false, false] rfl rfl (by kernel_rfl) (fun _ _ _ h => h) (Or.inl ⟨by rfl, ?_⟩) ?_ ?_
            rotate_left
            · intro w'
              go_simp
              with_reducible rfl
            rotate_left
            · simp only [Act.put, List.setIfInBounds_toArray, List.set_cons_zero, List.set_cons_succ, i64_w, i32_w]
              rfl
            refine pure_ (i := 1) (N := some 46) (v := ?_) (a' := ?_) #[true, true, false, false, false, false, false, false, false, false, false, false] rfl rfl (by kernel_rfl) (fun _ _ _ h => h) (Or.inl ⟨by rfl, ?_⟩) ?_ ?_
            rotate_left
            · intro w'
              go_simp
              with_reducible rfl
            rotate_left
            · simp only [Act.put, List.setIfInBounds_toArray, List.set_cons_zero, List.set_cons_succ, i64_w, i32_w]
              rfl
            refine pure_ (i := 2) (N := some 47) (v := ?_) (a' := ?_) #[true, true, true, false, false, false, false, false, false, false, false, false] rfl rfl (by kernel_rfl) (fun _ _ _ h => h) (Or.inl ⟨by rfl, ?_⟩) ?_ ?_
            rotate_left
            · intro w'
              go_simp
              with_reducible rfl
            rotate_left
            · simp only [Act.put, List.setIfInBounds_toArray, List.set_cons_zero, List.set_cons_succ, i64_w, i32_w]
              rfl
            refine take_ (i := 3) (N := some 48) (v := ?_) (a' := ?_) #[true, true, true, true, false, false, false, false, false, false, false, false] rfl rfl (by kernel_rfl) (fun _ _ _ h => h) (Or.inl ⟨by rfl, ?_⟩) hHeld ?_ ?_
            rotate_left
            · rintro w' ⟨s0, s1, s2, s3, s4⟩
              go_simp
              with_reducible rfl
            rotate_left
            · simp only [Act.put, List.setIfInBounds_toArray, List.set_cons_zero, List.set_cons_succ, i64_w, i32_w]
              rfl
            refine take_ (i := 4) (N := some 49) (v := ?_) (a' := ?_) #[true, true, true, true, true, false, false, false, false, false, false, false] rfl rfl (by kernel_rfl) (fun _ _ _ h => h) (Or.inl ⟨by rfl, ?_⟩) hHeld ?_ ?_
            rotate_left
            · rintro w' ⟨s0, s1, s2, s3, s4⟩
              go_simp
              with_reducible rfl
            rotate_left
            · simp only [Act.put, List.setIfInBounds_toArray, List.set_cons_zero, List.set_cons_succ, i64_w, i32_w]
              rfl
            refine join_ (σ := Value × Nat) 2 #[true, true, true, true, true, true, true, true, true, true, false, false] (fun s_ => [(50, .tuple #[.agg #[s_.1], .int .i64 E1]), (44, .tuple #[.agg #[s_.1], .int .i64 E1]), (51, .agg #[s_.1]), (52, .int .i64 E1), (8, .pointer (some ⟨s_.2, 0, none⟩))]) (fun s_ w' => DoV (PD B g vw) wd w' (some s_.2) s_.1 T1) ?_ ?_
            rotate_left
            · intro hCont
              refine two_ (i := 5) (j := 9) (Ni := some 50) (Nj := some 8) #[true, true, true, true, true, true, false, false, false, false, false, false] #[true, true, true, true, true, false, false, false, false, true, false, false] rfl rfl rfl rfl (by kernel_rfl) (by decide) (by decide) (fun K hK => ?_) (fun K hK => ?_)
              · skip
                refine goes_ Tryd.func80 (by kernel_rfl) rfl #[.agg #[.slice Al L.length cl], .agg #[.int .i64 Y.f0, .string Y.f1, .string Y.f2, .slice A3 Y.f3.length c3']] (by rfl) rfl rfl (by simp only [List.map_toArray, List.map_cons, List.map_nil]; rfl) ?_
                with_reducible refine (Do_done0 HT.out hPf hVd hCd HC3Y.out (GT_okT HGT.out) HGY.out).mono ?_
                rintro e wA ⟨vA, rfl, hW⟩
                refine ⟨_, rfl, ?_⟩
                refine hK.out _ _ ⟨(Below.cell hW.hb (cell_lt2 md2)).trans md2, (Below.cell hW.hb (cell_lt2 mb0)).trans mb0, (Below.cell hW.hb (cell_lt2 mb1)).trans mb1, (Below.cell hW.hb (cell_lt2 mb2)).trans mb2, (Below.cell hW.hb (cell_lt2 mb3)).trans mb3⟩ (fun hHeld => ?_)
                clear hK K
                refine norm_ (a' := ?_) ?_ ?_
                rotate_left
                · show Act.put _ (some 50) _ = _
                  simp only [Act.put, List.setIfInBounds_toArray, List.set_cons_zero, List.set_cons_succ, i64_w, i32_w]
                  rfl
                refine pure_ (i := 6) (N := some 44) (v := ?_) (a' := ?_) #[true, true, true, true, true, true, true, false, false, false, false, false] rfl rfl (by kernel_rfl) (fun _ _ _ h => h) (Or.inl ⟨by rfl, ?_⟩) ?_ ?_
                rotate_left
                · intro w'
                  go_simp
                  with_reducible rfl
                rotate_left
                · simp only [Act.put, List.setIfInBounds_toArray, List.set_cons_zero, List.set_cons_succ, i64_w, i32_w]
                  rfl
                refine pure_ (i := 7) (N := some 51) (v := ?_) (a' := ?_) #[true, true, true, true, true, true, true, true, false, false, false, false] rfl rfl (by kernel_rfl) (fun _ _ _ h => h) (Or.inl ⟨by rfl, ?_⟩) ?_ ?_
                rotate_left
                · intro w'
                  go_simp
                  with_reducible rfl
                rotate_left
                · simp only [Act.put, List.setIfInBounds_toArray, List.set_cons_zero, List.set_cons_succ, i64_w, i32_w]
                  rfl
                refine pure_ (i := 8) (N := some 52) (v := ?_) (a' := ?_) #[true, true, true, true, true, true, true, true, true, false, false, false] rfl rfl (by kernel_rfl) (fun _ _ _ h => h) (Or.inl ⟨by rfl, ?_⟩) ?_ ?_
                rotate_left
                · intro w'
                  go_simp
                  with_reducible rfl
                rotate_left
                · simp only [Act.put, List.setIfInBounds_toArray, List.set_cons_zero, List.set_cons_succ, i64_w, i32_w]
                  rfl
                refine one_ (i := 9) (N := some 8) #[true, true, true, true, true, true, true, true, true, true, false, false] rfl rfl (by kernel_rfl) (by decide) (fun K hK => ?_)
                refine value_ (w1 := ?_) (v := ?_) (by rfl) rfl ?_ ?_
                rotate_left 2
                · go_simp
                  constructor
                  · rfl
                  · rfl
                replace hW := hW.alloc
                refine hK.out _ _ ⟨(Below.cell hW.hb (cell_lt2 md2)).trans md2, (Below.cell hW.hb (cell_lt2 mb0)).trans mb0, (Below.cell hW.hb (cell_lt2 mb1)).trans mb1, (Below.cell hW.hb (cell_lt2 mb2)).trans mb2, (Below.cell hW.hb (cell_lt2 mb3)).trans mb3⟩ (fun hHeld => ?_)
                clear hK K
                refine norm_ (a' := ?_) ?_ ?_
                rotate_left
                · show Act.put _ (some 8) _ = _
                  simp only [Act.put, List.setIfInBounds_toArray, List.set_cons_zero, List.set_cons_succ, i64_w, i32_w]
                  rfl
                exact norm_ (by simp only [putAll, Act.put, List.setIfInBounds_toArray, List.set_cons_zero, List.set_cons_succ]) (hCont (vA, wA.heap.size) _ hW)
              · skip
                refine value_ (w1 := ?_) (v := ?_) (by rfl) rfl ?_ ?_
                rotate_left 2
                · go_simp
                  constructor
                  · rfl
                  · rfl
                have hb0 := below_alloc (Below.refl wd.heap.size wd) (.cells #[.slice none 0 0] 26)
                refine hK.out _ _ ⟨(Below.cell hb0 (cell_lt2 md2)).trans md2, (Below.cell hb0 (cell_lt2 mb0)).trans mb0, (Below.cell hb0 (cell_lt2 mb1)).trans mb1, (Below.cell hb0 (cell_lt2 mb2)).trans mb2, (Below.cell hb0 (cell_lt2 mb3)).trans mb3⟩ (fun hHeld => ?_)
                clear hK K
                refine norm_ (a' := ?_) ?_ ?_
                rotate_left
                · show Act.put _ (some 8) _ = _
                  simp only [Act.put, List.setIfInBounds_toArray, List.set_cons_zero, List.set_cons_succ, i64_w, i32_w]
                  rfl
                refine one_ (i := 5) (N := some 50) #[true, true, true, true, true, true, false, false, false, true, false, false] rfl rfl (by kernel_rfl) (by decide) (fun K hK => ?_)
                refine goes_ Tryd.func80 (by kernel_rfl) rfl #[.agg #[.slice Al L.length cl], .agg #[.int .i64 Y.f0, .string Y.f1, .string Y.f2, .slice A3 Y.f3.length c3']] (by rfl) rfl rfl (by simp only [List.map_toArray, List.map_cons, List.map_nil]; rfl) ?_
                with_reducible refine (Do_done1 HT.out hPf hVd hCd HC3Y.out (GT_okT HGT.out) HGY.out).mono ?_
                rintro e wA ⟨vA, rfl, hW⟩
                refine ⟨_, rfl, ?_⟩
                refine hK.out _ _ ⟨(Below.cell hW.hb (cell_lt2 md2)).trans md2, (Below.cell hW.hb (cell_lt2 mb0)).trans mb0, (Below.cell hW.hb (cell_lt2 mb1)).trans mb1, (Below.cell hW.hb (cell_lt2 mb2)).trans mb2, (Below.cell hW.hb (cell_lt2 mb3)).trans mb3⟩ (fun hHeld => ?_)
                clear hK K
                refine norm_ (a' := ?_) ?_ ?_
                rotate_left
                · show Act.put _ (some 50) _ = _
                  simp only [Act.put, List.setIfInBounds_toArray, List.set_cons_zero, List.set_cons_succ, i64_w, i32_w]
                  rfl
                refine pure_ (i := 6) (N := some 44) (v := ?_) (a' := ?_) #[true, true, true, true, true, true, true, false, false, true, false, false] rfl rfl (by kernel_rfl) (fun _ _ _ h => h) (Or.inl ⟨by rfl, ?_⟩) ?_ ?_
                rotate_left
                · intro w'
                  go_simp
                  with_reducible rfl
                rotate_left
                · simp only [Act.put, List.setIfInBounds_toArray, List.set_cons_zero, List.set_cons_succ, i64_w, i32_w]
                  rfl
                refine pure_ (i := 7) (N := some 51) (v := ?_) (a' := ?_) #[true, true, true, true, true, true, true, true, false, true, false, false] rfl rfl (by kernel_rfl) (fun _ _ _ h => h) (Or.inl ⟨by rfl, ?_⟩) ?_ ?_
                rotate_left
                · intro w'
                  go_simp
                  with_reducible rfl
                rotate_left
                · simp only [Act.put, List.setIfInBounds_toArray, List.set_cons_zero, List.set_cons_succ, i64_w, i32_w]
                  rfl
                refine pure_ (i := 8) (N := some 52) (v := ?_) (a' := ?_) #[true, true, true, true, true, true, true, true, true, true, false, false] rfl rfl (by kernel_rfl) (fun _ _ _ h => h) (Or.inl ⟨by rfl, ?_⟩) ?_ ?_
                rotate_left
                · intro w'
                  go_simp
                  with_reducible rfl
                rotate_left
                · simp only [Act.put, List.setIfInBounds_toArray, List.set_cons_zero, List.set_cons_succ, i64_w, i32_w]
                  rfl
                exact norm_ (by simp only [putAll, Act.put, List.setIfInBounds_toArray, List.set_cons_zero, List.set_cons_succ]) (hCont (vA, wd.heap.size) _ hW)
            rintro ⟨vA, b⟩ wz hW
            dsimp only at hW ⊢
            obtain ⟨hbx, hbl⟩ := hW.hx b rfl
            have hbc := blk_cell hbx 0
            have hbf := blk_frozen hbx 0
            have hHeld : wz.cell? ⟨g, 2, none⟩ = some (.slice Al L.length cl) ∧ wz.cell? ⟨b7, 0, none⟩ = some (.int .i64 Y.f0) ∧ wz.cell? ⟨b7, 1, none⟩ = some (.string Y.f1) ∧ wz.cell? ⟨b7, 2, none⟩ = some (.string Y.f2) ∧ wz.cell? ⟨b7, 3, none⟩ = some (.slice A3 Y.f3.length c3') := ⟨(Below.cell hW.hb (cell_lt2 md2)).trans md2, (Below.cell hW.hb (cell_lt2 mb0)).trans mb0, (Below.cell hW.hb (cell_lt2 mb1)).trans mb1, (Below.cell hW.hb (cell_lt2 mb2)).trans mb2, (Below.cell hW.hb (cell_lt2 mb3)).trans mb3⟩
            obtain ⟨A6, c6, rfl, _⟩ := hW.hV
            refine norm_ (a' := ?_) ?_ ?_
            rotate_left
            · simp only [putAll, Act.put, List.setIfInBounds_toArray, List.set_cons_zero, List.set_cons_succ]
              rfl
            refine last_ (i := 10) (N := none) #[true, true, true, true, true, true, true, true, true, true, true, false] rfl rfl (by kernel_rfl) (by decide) (fun K hK => ?_)
            refine skip_ (w1 := ?_) (by rfl) rfl ?_ ?_
            rotate_left
            · go_simp
              rfl
            refine hK.out _ _ ?_
            clear hK K
            refine pure_ (i := 11) (N := some 9) (v := ?_) (a' := ?_) #[true, true, true, true, true, true, true, true, true, true, true, true] rfl rfl (by kernel_rfl) (fun _ _ _ h => h) (Or.inl ⟨by rfl, ?_⟩) ?_ ?_
            rotate_left
            · intro w'
              go_simp
              with_reducible rfl
            rotate_left
            · simp only [Act.put, List.setIfInBounds_toArray, List.set_cons_zero, List.set_cons_succ, i64_w, i32_w]
              rfl
            refine done_ (by kernel_rfl) ?_
            have hby := hW.hb.setCell (p := ⟨b, 0, none⟩) hbl (.slice A6 T1.length c6)
            have hX5 := hXd.below hby
            have hK5 := hKd.below hby
            have hB5 := hXd.thenB hBd hby
            have hV5 := Kd.V_far (p := ⟨b, 0, none⟩) hW.hV (fun k hk e => hk.2 (by rw [show k = b from e])) (.slice A6 T1.length c6)
            have hk5 := blk_put hbx 0 (.slice A6 T1.length c6) (cs' := #[.slice A6 T1.length c6]) rfl
            have hV5 : Kd.V k30 30 _ 0 (PD B g vw) (.slice A6 T1.length c6) T1 := Kd.V_mono hV5 fun k hk => hk.1
            generalize wz.setCell ⟨b, 0, none⟩ (.slice A6 T1.length c6) = wy at *
            clear hW hbx hbl hbc hbf hby hXd hKd hBd hCd hVd hPf md2 mb0 mb1 mb2 mb3 hHeld
            have m5 := blk_cell hk5 0
            have fz := hX5.frozen
            have c2y := hX5.cells.2.2.1
            have HX5 := Aside0.mk hX5
            have HK5 := Aside0.mk hK5
            have HB5 := Aside0.mk hB5
            have HV5 := Aside0.mk hV5
            clear hX5 hK5 hB5 hV5 hk5
            by_cases hE : E1 = 0
            · subst hE
              go_wp2_with (fail)
              have hk1 := blk_put HX5.out.hg 2 (.slice A6 T1.length c6) (cs' := #[.int .i64 s.q, vn, .slice A6 T1.length c6, vw, .bool s.off, .int .i64 s.count, .int .i64 s.fuse, vk, .int .i64 s.torn]) rfl
              have hKs := Ke_set (Kept.refl wy (fun k => k = g)) 2 (.slice A6 T1.length c6)
              have hX7 : At (wy.setCell ⟨g, 2, none⟩ (.slice A6 T1.length c6)) B g { s with last := T1 } vn (.slice A6 T1.length c6) vw vk := At.turn hKs HX5.out.hB hk1 HX5.out.n HV5.out HX5.out.w HX5.out.k
              have hK7 := HK5.out.then_ hKs (fun k h => .inl h)
              have hB7 := Be_set HB5.out HX5.out.hB 2 (.slice A6 T1.length c6)
              have hLn : fallN keep torn s.waits s.last (i + 1) = T1 := HLN.out T1 (by rw [fall1, if_pos HIN.out, HYC.out, HT.out, if_pos rfl])
              go_roundg (s.waits.length - (i + 1))
              case measure => omega
              case rel => exact ⟨i + 1, _, by omega, rfl, by first | rfl | rw [hw1], by rw [hLn]; exact hX7, hK7, hB7⟩
            · have g1 : (E1 == 0) = false := beq_eq_false_iff_ne.2 hE
              have HE := Aside0.mk hE
              clear hE
              go_wp2_with (fail)
              have hLn : fallN keep torn s.waits s.last (i + 1) = L := HLN.out L (by rw [fall1, if_pos HIN.out, HYC.out, HT.out, if_neg HE.out])
              go_roundg (s.waits.length - (i + 1))
              case measure => omega
              case rel => exact ⟨i + 1, _, by omega, rfl, by first | rfl | rw [hw1], by rw [hLn]; exact HX5.out, HK5.out, HB5.out⟩
          · have p1 : (X.f0 == 1) = false := beq_eq_false_iff_ne.2 h1
            clear h1 hcut
            go_wp2_with (fail)
            clear mk0
            obtain ⟨T1, E1, hT⟩ : ∃ T1 E1, done0 L Y = (T1, E1) := ⟨_, _, rfl⟩
            have HT := Aside0.mk hT
            have hgT : GT30 T1 := by have := done0_GT (c := Y) HGL.out; rw [hT] at this; exact this
            have HGT := Aside0.mk HGL.out
            obtain ⟨Al, cl, hvl, _⟩ := HXa.out.l
            subst hvl
            have hXd := HXa.out.below (below_drew (Below.refl wb.heap.size wb))
            have hKd : Kept W wb.drew (fun k => k = g) := HKa.out.drew
            have hBd : Below B W wb.drew := HBa.out.drew
            have hB7 : wb.drew.heap[b7]? = some (.cells #[.int .i64 Y.f0, .string Y.f1, .string Y.f2, .slice A3 Y.f3.length c3'] 61 (0, 0)) := HB7.out
            have md2 := hXd.cells.2.2.1
            have mb0 := blk_cell hB7 0
            have mb1 := blk_cell hB7 1
            have mb2 := blk_cell hB7 2
            have mb3 := blk_cell hB7 3
            have hPf : ∀ k, wb.drew.heap.size ≤ k → PD B g vw k := fun k hk => by
              have h1 := blk_lt hXd.hg
              refine ⟨Nat.le_trans hXd.hB (by omega), by omega, fun e => ?_⟩
              have := Kd.N_lt hXd.w k e.symm
              omega
            have hVd : Kd.V k30 30 wb.drew 0 (fun k => PD B g vw k ∧ k < wb.drew.heap.size) (.slice Al L.length cl) L := Kd.V_bound hXd.l
            have hCd := Kd.C_drew HCY.out
            have HGT1 := Aside0.mk hgT
            clear hT hgT HXa HKa HBa hB7 HB7
            refine start_ (n := 12) (S := fun w' => w'.cell? ⟨g, 2, none⟩ = some (.slice Al L.length cl) ∧ w'.cell? ⟨b7, 0, none⟩ = some (.int .i64 Y.f0) ∧ w'.cell? ⟨b7, 1, none⟩ = some (.string Y.f1) ∧ w'.cell? ⟨b7, 2, none⟩ = some (.string Y.f2) ∧ w'.cell? ⟨b7, 3, none⟩ = some (.slice A3 Y.f3.length c3')) (ds := [10]) #[false, false, false, false, false, false, false, false, false, false, false, false] (by kernel_rfl) rfl rfl ⟨md2, mb0, mb1, mb2, mb3⟩ (fun hHeld => ?_)
            generalize wb.drew = wd at md2 mb0 mb1 mb2 mb3 hPf hVd hCd hXd hKd hBd hHeld ⊢
            refine pure_ (i := 0) (N := some 45) (v := ?_) (a' := ?_) #[true, false, false, false, false, false, false, false, false, false, false, false] rfl rfl (by kernel_rfl) (fun _ _ _ h => h) (Or.inl ⟨by rfl, ?_⟩) ?_ ?_
            rotate_left
            · intro w'
              go_simp
              with_reducible rfl
            rotate_left
            · simp only [Act.put, List.setIfInBounds_toArray, List.set_cons_zero, List.set_cons_succ, i64_w, i32_w]
              rfl
            refine pure_ (i := 1) (N := some 46) (v := ?_) (a' := ?_) #[true, true, false, false, false, false, false, false, false, false, false, false] rfl rfl (by kernel_rfl) (fun _ _ _ h => h) (Or.inl ⟨by rfl, ?_⟩) ?_ ?_
            rotate_left
            · intro w'
              go_simp
              with_reducible rfl
            rotate_left
            · simp only [Act.put, List.setIfInBounds_toArray, List.set_cons_zero, List.set_cons_succ, i64_w, i32_w]
              rfl
            refine pure_ (i := 2) (N := some 47) (v := ?_) (a' := ?_) #[true, true, true, false, false, false, false, false, false, false, false, false] rfl rfl (by kernel_rfl) (fun _ _ _ h => h) (Or.inl ⟨by rfl, ?_⟩) ?_ ?_
            rotate_left
            · intro w'
              go_simp
              with_reducible rfl
            rotate_left
            · simp only [Act.put, List.setIfInBounds_toArray, List.set_cons_zero, List.set_cons_succ, i64_w, i32_w]
              rfl
            refine take_ (i := 3) (N := some 48) (v := ?_) (a' := ?_) #[true, true, true, true, false, false, false, false, false, false, false, false] rfl rfl (by kernel_rfl) (fun _ _ _ h => h) (Or.inl ⟨by rfl, ?_⟩) hHeld ?_ ?_
            rotate_left
            · rintro w' ⟨s0, s1, s2, s3, s4⟩
              go_simp
              with_reducible rfl
            rotate_left
            · simp only [Act.put, List.setIfInBounds_toArray, List.set_cons_zero, List.set_cons_succ, i64_w, i32_w]
              rfl
            refine take_ (i := 4) (N := some 49) (v := ?_) (a' := ?_) #[true, true, true, true, true, false, false, false, false, false, false, false] rfl rfl (by kernel_rfl) (fun _ _ _ h => h) (Or.inl ⟨by rfl, ?_⟩) hHeld ?_ ?_
            rotate_left
            · rintro w' ⟨s0, s1, s2, s3, s4⟩
              go_simp
              with_reducible rfl
            rotate_left
            · simp only [Act.put, List.setIfInBounds_toArray, List.set_cons_zero, List.set_cons_succ, i64_w, i32_w]
              rfl
            refine join_ (σ := Value × Nat) 2 #[true, true, true, true, true, true, true, true, true, true, false, false] (fun s_ => [(50, .tuple #[.agg #[s_.1], .int .i64 E1]), (44, .tuple #[.agg #[s_.1], .int .i64 E1]), (51, .agg #[s_.1]), (52, .int .i64 E1), (8, .pointer (some ⟨s_.2, 0, none⟩))]) (fun s_ w' => DoV (PD B g vw) wd w' (some s_.2) s_.1 T1) ?_ ?_
            rotate_left
            · intro hCont
              refine two_ (i := 5) (j := 9) (Ni := some 50) (Nj := some 8) #[true, true, true, true, true, true, false, false, false, false, false, false] #[true, true, true, true, true, false, false, false, false, true, false, false] rfl rfl rfl rfl (by kernel_rfl) (by decide) (by decide) (fun K hK => ?_) (fun K hK => ?_)
              · skip
                refine goes_ Tryd.func80 (by kernel_rfl) rfl #[.agg #[.slice Al L.length cl], .agg #[.int .i64 Y.f0, .string Y.f1, .string Y.f2, .slice A3 Y.f3.length c3']] (by rfl) rfl rfl (by simp only [List.map_toArray, List.map_cons, List.map_nil]; rfl) ?_
                with_reducible refine (Do_done0 HT.out hPf hVd hCd HC3Y.out (GT_okT HGT.out) HGY.out).mono ?_
                rintro e wA ⟨vA, rfl, hW⟩
                refine ⟨_, rfl, ?_⟩
                refine hK.out _ _ ⟨(Below.cell hW.hb (cell_lt2 md2)).trans md2, (Below.cell hW.hb (cell_lt2 mb0)).trans mb0, (Below.cell hW.hb (cell_lt2 mb1)).trans mb1, (Below.cell hW.hb (cell_lt2 mb2)).trans mb2, (Below.cell hW.hb (cell_lt2 mb3)).trans mb3⟩ (fun hHeld => ?_)
                clear hK K
                refine norm_ (a' := ?_) ?_ ?_
                rotate_left
                · show Act.put _ (some 50) _ = _
                  simp only [Act.put, List.setIfInBounds_toArray, List.set_cons_zero, List.set_cons_succ, i64_w, i32_w]
                  rfl
                refine pure_ (i := 6) (N := some 44) (v := ?_) (a' := ?_) #[true, true, true, true, true, true, true, false, false, false, false, false] rfl rfl (by kernel_rfl) (fun _ _ _ h => h) (Or.inl ⟨by rfl, ?_⟩) ?_ ?_
                rotate_left
                · intro w'
                  go_simp
                  with_reducible rfl
                rotate_left
                · simp only [Act.put, List.setIfInBounds_toArray, List.set_cons_zero, List.set_cons_succ, i64_w, i32_w]
                  rfl
                refine pure_ (i := 7) (N := some 51) (v := ?_) (a' := ?_) #[true, true, true, true, true, true, true, true, false, false, false, false] rfl rfl (by kernel_rfl) (fun _ _ _ h => h) (Or.inl ⟨by rfl, ?_⟩) ?_ ?_
                rotate_left
                · intro w'
                  go_simp
                  with_reducible rfl
                rotate_left
                · simp only [Act.put, List.setIfInBounds_toArray, List.set_cons_zero, List.set_cons_succ, i64_w, i32_w]
                  rfl
                refine pure_ (i := 8) (N := some 52) (v := ?_) (a' := ?_) #[true, true, true, true, true, true, true, true, true, false, false, false] rfl rfl (by kernel_rfl) (fun _ _ _ h => h) (Or.inl ⟨by rfl, ?_⟩) ?_ ?_
                rotate_left
                · intro w'
                  go_simp
                  with_reducible rfl
                rotate_left
                · simp only [Act.put, List.setIfInBounds_toArray, List.set_cons_zero, List.set_cons_succ, i64_w, i32_w]
                  rfl
                refine one_ (i := 9) (N := some 8) #[true, true, true, true, true, true, true, true, true, true, false, false] rfl rfl (by kernel_rfl) (by decide) (fun K hK => ?_)
                refine value_ (w1 := ?_) (v := ?_) (by rfl) rfl ?_ ?_
                rotate_left 2
                · go_simp
                  constructor
                  · rfl
                  · rfl
                replace hW := hW.alloc
                refine hK.out _ _ ⟨(Below.cell hW.hb (cell_lt2 md2)).trans md2, (Below.cell hW.hb (cell_lt2 mb0)).trans mb0, (Below.cell hW.hb (cell_lt2 mb1)).trans mb1, (Below.cell hW.hb (cell_lt2 mb2)).trans mb2, (Below.cell hW.hb (cell_lt2 mb3)).trans mb3⟩ (fun hHeld => ?_)
                clear hK K
                refine norm_ (a' := ?_) ?_ ?_
                rotate_left
                · show Act.put _ (some 8) _ = _
                  simp only [Act.put, List.setIfInBounds_toArray, List.set_cons_zero, List.set_cons_succ, i64_w, i32_w]
                  rfl
                exact norm_ (by simp only [putAll, Act.put, List.setIfInBounds_toArray, List.set_cons_zero, List.set_cons_succ]) (hCont (vA, wA.heap.size) _ hW)
              · skip
                refine value_ (w1 := ?_) (v := ?_) (by rfl) rfl ?_ ?_
                rotate_left 2
                · go_simp
                  constructor
                  · rfl
                  · rfl
                have hb0 := below_alloc (Below.refl wd.heap.size wd) (.cells #[.slice none 0 0] 26)
                refine hK.out _ _ ⟨(Below.cell hb0 (cell_lt2 md2)).trans md2, (Below.cell hb0 (cell_lt2 mb0)).trans mb0, (Below.cell hb0 (cell_lt2 mb1)).trans mb1, (Below.cell hb0 (cell_lt2 mb2)).trans mb2, (Below.cell hb0 (cell_lt2 mb3)).trans mb3⟩ (fun hHeld => ?_)
                clear hK K
                refine norm_ (a' := ?_) ?_ ?_
                rotate_left
                · show Act.put _ (some 8) _ = _
                  simp only [Act.put, List.setIfInBounds_toArray, List.set_cons_zero, List.set_cons_succ, i64_w, i32_w]
                  rfl
                refine one_ (i := 5) (N := some 50) #[true, true, true, true, true, true, false, false, false, true, false, false] rfl rfl (by kernel_rfl) (by decide) (fun K hK => ?_)
                refine goes_ Tryd.func80 (by kernel_rfl) rfl #[.agg #[.slice Al L.length cl], .agg #[.int .i64 Y.f0, .string Y.f1, .string Y.f2, .slice A3 Y.f3.length c3']] (by rfl) rfl rfl (by simp only [List.map_toArray, List.map_cons, List.map_nil]; rfl) ?_
                with_reducible refine (Do_done1 HT.out hPf hVd hCd HC3Y.out (GT_okT HGT.out) HGY.out).mono ?_
                rintro e wA ⟨vA, rfl, hW⟩
                refine ⟨_, rfl, ?_⟩
                refine hK.out _ _ ⟨(Below.cell hW.hb (cell_lt2 md2)).trans md2, (Below.cell hW.hb (cell_lt2 mb0)).trans mb0, (Below.cell hW.hb (cell_lt2 mb1)).trans mb1, (Below.cell hW.hb (cell_lt2 mb2)).trans mb2, (Below.cell hW.hb (cell_lt2 mb3)).trans mb3⟩ (fun hHeld => ?_)
                clear hK K
                refine norm_ (a' := ?_) ?_ ?_
                rotate_left
                · show Act.put _ (some 50) _ = _
                  simp only [Act.put, List.setIfInBounds_toArray, List.set_cons_zero, List.set_cons_succ, i64_w, i32_w]
                  rfl
                refine pure_ (i := 6) (N := some 44) (v := ?_) (a' := ?_) #[true, true, true, true, true, true, true, false, false, true, false, false] rfl rfl (by kernel_rfl) (fun _ _ _ h => h) (Or.inl ⟨by rfl, ?_⟩) ?_ ?_
                rotate_left
                · intro w'
                  go_simp
                  with_reducible rfl
                rotate_left
                · simp only [Act.put, List.setIfInBounds_toArray, List.set_cons_zero, List.set_cons_succ, i64_w, i32_w]
                  rfl
                refine pure_ (i := 7) (N := some 51) (v := ?_) (a' := ?_) #[true, true, true, true, true, true, true, true, false, true, false, false] rfl rfl (by kernel_rfl) (fun _ _ _ h => h) (Or.inl ⟨by rfl, ?_⟩) ?_ ?_
                rotate_left
                · intro w'
                  go_simp
                  with_reducible rfl
                rotate_left
                · simp only [Act.put, List.setIfInBounds_toArray, List.set_cons_zero, List.set_cons_succ, i64_w, i32_w]
                  rfl
                refine pure_ (i := 8) (N := some 52) (v := ?_) (a' := ?_) #[true, true, true, true, true, true, true, true, true, true, false, false] rfl rfl (by kernel_rfl) (fun _ _ _ h => h) (Or.inl ⟨by rfl, ?_⟩) ?_ ?_
                rotate_left
                · intro w'
                  go_simp
                  with_reducible rfl
                rotate_left
                · simp only [Act.put, List.setIfInBounds_toArray, List.set_cons_zero, List.set_cons_succ, i64_w, i32_w]
                  rfl
                exact norm_ (by simp only [putAll, Act.put, List.setIfInBounds_toArray, List.set_cons_zero, List.set_cons_succ]) (hCont (vA, wd.heap.size) _ hW)
            rintro ⟨vA, b⟩ wz hW
            dsimp only at hW ⊢
            obtain ⟨hbx, hbl⟩ := hW.hx b rfl
            have hbc := blk_cell hbx 0
            have hbf := blk_frozen hbx 0
            have hHeld : wz.cell? ⟨g, 2, none⟩ = some (.slice Al L.length cl) ∧ wz.cell? ⟨b7, 0, none⟩ = some (.int .i64 Y.f0) ∧ wz.cell? ⟨b7, 1, none⟩ = some (.string Y.f1) ∧ wz.cell? ⟨b7, 2, none⟩ = some (.string Y.f2) ∧ wz.cell? ⟨b7, 3, none⟩ = some (.slice A3 Y.f3.length c3') := ⟨(Below.cell hW.hb (cell_lt2 md2)).trans md2, (Below.cell hW.hb (cell_lt2 mb0)).trans mb0, (Below.cell hW.hb (cell_lt2 mb1)).trans mb1, (Below.cell hW.hb (cell_lt2 mb2)).trans mb2, (Below.cell hW.hb (cell_lt2 mb3)).trans mb3⟩
            obtain ⟨A6, c6, rfl, _⟩ := hW.hV
            refine norm_ (a' := ?_) ?_ ?_
            rotate_left
            · simp only [putAll, Act.put, List.setIfInBounds_toArray, List.set_cons_zero, List.set_cons_succ]
              rfl
            refine last_ (i := 10) (N := none) #[true, true, true, true, true, true, true, true, true, true, true, false] rfl rfl (by kernel_rfl) (by decide) (fun K hK => ?_)
            refine skip_ (w1 := ?_) (by rfl) rfl ?_ ?_
            rotate_left
            · go_simp
              rfl
            refine hK.out _ _ ?_
            clear hK K
            refine pure_ (i := 11) (N := some 9) (v := ?_) (a' := ?_) #[true, true, true, true, true, true, true, true, true, true, true, true] rfl rfl (by kernel_rfl) (fun _ _ _ h => h) (Or.inl ⟨by rfl, ?_⟩) ?_ ?_
            rotate_left
            · intro w'
              go_simp
              with_reducible rfl
            rotate_left
            · simp only [Act.put, List.setIfInBounds_toArray, List.set_cons_zero, List.set_cons_succ, i64_w, i32_w]
              rfl
            refine done_ (by kernel_rfl) ?_
            have hby := hW.hb.setCell (p := ⟨b, 0, none⟩) hbl (.slice A6 T1.length c6)
            have hX5 := hXd.below hby
            have hK5 := hKd.below hby
            have hB5 := hXd.thenB hBd hby
            have hV5 := Kd.V_far (p := ⟨b, 0, none⟩) hW.hV (fun k hk e => hk.2 (by rw [show k = b from e])) (.slice A6 T1.length c6)
            have hk5 := blk_put hbx 0 (.slice A6 T1.length c6) (cs' := #[.slice A6 T1.length c6]) rfl
            have hV5 : Kd.V k30 30 _ 0 (PD B g vw) (.slice A6 T1.length c6) T1 := Kd.V_mono hV5 fun k hk => hk.1
            generalize wz.setCell ⟨b, 0, none⟩ (.slice A6 T1.length c6) = wy at *
            clear hW hbx hbl hbc hbf hby hXd hKd hBd hCd hVd hPf md2 mb0 mb1 mb2 mb3 hHeld
            have m5 := blk_cell hk5 0
            have fz := hX5.frozen
            have c2y := hX5.cells.2.2.1
            have HX5 := Aside0.mk hX5
            have HK5 := Aside0.mk hK5
            have HB5 := Aside0.mk hB5
            have HV5 := Aside0.mk hV5
            clear hX5 hK5 hB5 hV5 hk5
            by_cases hE : E1 = 0
            · subst hE
              go_wp2_with (fail)
              have hk1 := blk_put HX5.out.hg 2 (.slice A6 T1.length c6) (cs' := #[.int .i64 s.q, vn, .slice A6 T1.length c6, vw, .bool s.off, .int .i64 s.count, .int .i64 s.fuse, vk, .int .i64 s.torn]) rfl
              have hKs := Ke_set (Kept.refl wy (fun k => k = g)) 2 (.slice A6 T1.length c6)
              have hX7 : At (wy.setCell ⟨g, 2, none⟩ (.slice A6 T1.length c6)) B g { s with last := T1 } vn (.slice A6 T1.length c6) vw vk := At.turn hKs HX5.out.hB hk1 HX5.out.n HV5.out HX5.out.w HX5.out.k
              have hK7 := HK5.out.then_ hKs (fun k h => .inl h)
              have hB7 := Be_set HB5.out HX5.out.hB 2 (.slice A6 T1.length c6)
              have hLn : fallN keep torn s.waits s.last (i + 1) = T1 := HLN.out T1 (by rw [fall1, if_pos HIN.out, HYC.out, HT.out, if_pos rfl])
              go_roundg (s.waits.length - (i + 1))
              case measure => omega
              case rel => exact ⟨i + 1, _, by omega, rfl, by first | rfl | rw [hw1], by rw [hLn]; exact hX7, hK7, hB7⟩
            · have g1 : (E1 == 0) = false := beq_eq_false_iff_ne.2 hE
              have HE := Aside0.mk hE
              clear hE
              go_wp2_with (fail)
              have hLn : fallN keep torn s.waits s.last (i + 1) = L := HLN.out L (by rw [fall1, if_pos HIN.out, HYC.out, HT.out, if_neg HE.out])
              go_roundg (s.waits.length - (i + 1))
              case measure => omega
              case rel => exact ⟨i + 1, _, by omega, rfl, by first | rfl | rw [hw1], by rw [hLn]; exact HX5.out, HK5.out, HB5.out⟩
      · rw [decide_eq_false hin]
        have hLn : fallN keep torn s.waits s.last (i + 1) = L := HLN.out L (by rw [fall1, if_neg hin])
        clear hin
        go_wp2_with (fail)
        go_roundg (s.waits.length - (i + 1))
        case measure => omega
        case rel => exact ⟨i + 1, _, by omega, rfl, by first | rfl | rw [hw1], by rw [hLn]; exact HXr.out.below HBL.out, HKr.out.below HBL.out, HXr.out.thenB HBr.out HBL.out⟩
    · have a1 : decide ((i : Int) < (s.waits.length : Int)) = false := decide_eq_false (by omega)
      obtain rfl : i = s.waits.length := by omega
      obtain ⟨L, hL⟩ : ∃ L, L = fallN keep torn s.waits s.last s.waits.length := ⟨_, rfl⟩
      rw [← hL] at hX
      have HL := Aside0.mk hL
      clear hL
      have HX := Aside0.mk hX
      have fz := hX.frozen
      obtain ⟨Al, cl, hvl, _⟩ := hX.l
      subst hvl
      obtain ⟨c0, c1, c2, c3, c4, c5', c6, c7, c8⟩ := hX.cells
      have HKr := Aside0.mk hKr
      have HBr := Aside0.mk hBr
      clear hX hKr hBr
      go_wp2_with (fail)
      go_end0
      rw [← HL.out]
      have hk1 := blk_put HX.out.hg 1 (.slice Al L.length cl) (cs' := #[.int .i64 s.q, .slice Al L.length cl, .slice Al L.length cl, vw, .bool s.off, .int .i64 s.count, .int .i64 s.fuse, vk, .int .i64 s.torn]) rfl
      have hk2 := blk_put hk1 3 (.slice none 0 0) (cs' := #[.int .i64 s.q, .slice Al L.length cl, .slice Al L.length cl, .slice none 0 0, .bool s.off, .int .i64 s.count, .int .i64 s.fuse, vk, .int .i64 s.torn]) rfl
      have hk3 := blk_put hk2 4 (.bool true) (cs' := #[.int .i64 s.q, .slice Al L.length cl, .slice Al L.length cl, .slice none 0 0, .bool true, .int .i64 s.count, .int .i64 s.fuse, vk, .int .i64 s.torn]) rfl
      have hk4 := blk_put hk3 6 (.int .i64 0) (cs' := #[.int .i64 s.q, .slice Al L.length cl, .slice Al L.length cl, .slice none 0 0, .bool true, .int .i64 s.count, .int .i64 0, vk, .int .i64 s.torn]) rfl
      have hK := Ke_set (Ke_set (Ke_set (Ke_set (Kept.refl wr (fun k => k = g)) 1 (.slice Al L.length cl)) 3 (.slice none 0 0)) 4 (.bool true)) 6 (.int .i64 0)
      have hKW := HKr.out.then_ hK (fun k h => .inl h)
      have hBB := Be_set (Be_set (Be_set (Be_set HBr.out HX.out.hB 1 (.slice Al L.length cl)) HX.out.hB 3 (.slice none 0 0)) HX.out.hB 4 (.bool true)) HX.out.hB 6 (.int .i64 0)
      generalize (((wr.setCell ⟨g, 1, none⟩ (.slice Al L.length cl)).setCell ⟨g, 3, none⟩ (.slice none 0 0)).setCell ⟨g, 4, none⟩ (.bool true)).setCell ⟨g, 6, none⟩ (.int .i64 0) = w2 at *
      clear hk1 hk2 hk3
      have hl := Kd.V_mono HX.out.l (ok' := fun k => B ≤ k ∧ k ≠ g ∧ some k ≠ (Value.slice none 0 0).ownBlock) fun k h => ⟨h.1, h.2.1, no_own⟩
      have hkp := Kd.V_mono HX.out.k (ok' := fun k => B ≤ k ∧ k ≠ g ∧ some k ≠ (Value.slice none 0 0).ownBlock) fun k h => ⟨h.1, h.2.1, no_own⟩
      first
        | exact ⟨rfl, ⟨_, At.turn hK HX.out.hB hk4 hl hl (Kd.N_nil _ _ _ _ _) hkp⟩, hKW, hBB⟩
        | exact ⟨_, rfl, At.turn hK HX.out.hB hk4 hl hl (Kd.N_nil _ _ _ _ _) hkp, hKW, hBB⟩
end Go.Proofs.YtidlldfghkaeeaaDoor.P
