/- tallymanref7.Cmp, walked: the order of paths, name by name. -/
import Derived.Test.YtidlldfghkaeeaaDoorRefUnder
namespace Go.Proofs.YtidlldfghkaeeaaDoor.P
open Go.RowKit Go.Proofs.YtidlldfghkaeeaaDoorW.PrintWords Go.Proofs.YtidlldfghkaeeaaDoorW.PrintLast Go.Proofs.YtidlldfghkaeeaaDoorW.PrintMore
set_option linter.unusedVariables false
set_option linter.unusedSimpArgs false

theorem cL_lens : ∀ {xs ys : List (List UInt8)}, xs = [] ∨ ys = [] → cL xs ys = if xs.length = ys.length then 0 else if xs.length < ys.length then -1 else 1
  | [], [], _ => rfl
  | [], _ :: _, _ => by simp [cL]
  | _ :: _, [], _ => by simp [cL]
  | _ :: _, _ :: _, h => by rcases h with h | h <;> cases h
def tallymanref7_Cmp.f (a0 a1 : ByteArray) : Option Int := if a0.size < 4294967280 then if a1.size < 4294967280 then some (cL (sp a0.data.toList) (sp a1.data.toList)) else none else none
set_option maxHeartbeats 4000000 in
theorem RefCmp_calls (a0 a1 : ByteArray) (xs ys : List ByteArray) (w : World) (hlx : xs.length ≤ 4611686018427387904) (hly : ys.length ≤ 4611686018427387904) (h0 : tallymanref7_names.f a0 = some xs) (h1 : tallymanref7_names.f a1 = some ys) :
    Calls Tryd.prog 52 #[.string a0, .string a1] w fun e w' => e = .returned (.int .i64 (cL (Ds xs) (Ds ys))) ∧ Below w.heap.size w w' := by
  have k0 := fun W => tallymanref7_names.calls a0 xs W h0
  have k1 := fun W => tallymanref7_names.calls a1 ys W h1
  have K1 := Aside0.mk k1
  have HX := Aside0.mk hlx
  have HY := Aside0.mk hly
  clear h0 h1 k1 hlx hly
  go_enter Tryd.func52, Tryd.ntmps52
  go_wp2_with (fail)
  refine (k0 _).mono ?_
  clear k0
  rintro e w2 ⟨v2, rfl, hR2, hb2⟩
  dsimp only
  go_wp2_with (fail)
  refine (K1.out _).mono ?_
  clear K1
  rintro e w3 ⟨v3, rfl, hR3, hb3⟩
  dsimp only
  have hX := Kd.R_below hR2 hb3
  have hY := Kd.R_lower hR3 hb2.size
  have hB := hb2.trans (hb3.mono hb2.size)
  clear hR2 hR3 hb2 hb3
  obtain ⟨A2, c2, rfl⟩ := Kd.R_slice hX
  obtain ⟨A3, c3, rfl⟩ := Kd.R_slice hY
  go_wp2_with (fail)
  go_loopg [7] xs.length (fun gg s7 wr => ∃ i : Nat, i ≤ xs.length ∧ i ≤ ys.length ∧ gg = xs.length - i ∧ s7 = .int .i64 i ∧ cL (Ds xs) (Ds ys) = cL (Ds (xs.drop i)) (Ds (ys.drop i)) ∧ Kd.R Kd.string 9 wr w.heap.size (fun _ => True) (.slice A2 xs.length c2) xs ∧ Kd.R Kd.string 9 wr w.heap.size (fun _ => True) (.slice A3 ys.length c3) ys ∧ Below w.heap.size w wr)
  case atStart => exact ⟨0, Nat.zero_le _, Nat.zero_le _, rfl, rfl, by rw [List.drop_zero, List.drop_zero], hX, hY, hB⟩
  case round =>
    obtain ⟨i, hi, hi2, rfl, rfl, he, hX, hY, hb⟩ := hrel
    by_cases a : i < xs.length ∧ i < ys.length
    · obtain ⟨ax, ay⟩ := a
      have a1 : decide ((i : Int) < (xs.length : Int)) = true := decide_eq_true (by omega)
      have a2 : decide ((i : Int) < (ys.length : Int)) = true := decide_eq_true (by omega)
      obtain ⟨ad, rfl, cx⟩ := Kd.at_string (Kd.R_reads' hX).2.2 (i : Int) (by omega) (by omega)
      obtain ⟨ad2, rfl, cy⟩ := Kd.at_string (Kd.R_reads' hY).2.2 (i : Int) (by omega) (by omega)
      rw [rdP ax] at cx
      rw [rdP ay] at cy
      rw [List.drop_eq_getElem_cons ax, List.drop_eq_getElem_cons ay] at he
      rw [show ∀ (p : ByteArray) ps, Ds (p :: ps) = p.data.toList :: Ds ps from fun _ _ => rfl, show ∀ (p : ByteArray) ps, Ds (p :: ps) = p.data.toList :: Ds ps from fun _ _ => rfl, cL, ← Lib.toList_data, ← Lib.toList_data] at he
      rw [Int.toNat_natCast] at cx cy
      generalize xs[i] = x at *
      generalize ys[i] = y at *
      have HE := Aside0.mk he
      have hRX := Aside0.mk hX
      have hRY := Aside0.mk hY
      have HBB := Aside0.mk hb
      clear he hX hY hb
      by_cases l1 : Op.bytesLess x.toList y.toList = true
      · have e : cL (Ds xs) (Ds ys) = -1 := by
          rw [HE.out, c1_lt.2 l1]
          rfl
        go_wp2_with (fail)
        repeat (go_quiet (fail); try go_wp2)
        go_ret
        exact ⟨by rw [e]; rfl, pw_below_drewN HBB.out _⟩
      · have l1f : Op.bytesLess x.toList y.toList = false := by simpa using l1
        clear l1
        have hgt : ∀ W : World, (binOp .gtr 9 (.string x) (.string y)).run Tryd.prog W = .ok (.bool (Op.bytesLess y.toList x.toList)) W := fun W => gtr_ x y W
        have cxn : ∀ n, (wr.drewN n).cell? (ad.add i) = some (.string x) := fun n => cx
        have cyn : ∀ n, (wr.drewN n).cell? (ad2.add i) = some (.string y) := fun n => cy
        by_cases l2 : Op.bytesLess y.toList x.toList = true
        · have e : cL (Ds xs) (Ds ys) = 1 := by
            have ec : c1 x.toList y.toList = 1 := by simp [c1, l1f, l2]
            rw [HE.out, ec]
            rfl
          go_wp2_with (fail)
          go_quiet (fail)
          have cx2 := cxn nq
          have cy2 := cyn nq
          have BQ := Aside0.mk (pw_below_drewN HBB.out nq)
          have XQ := Aside0.mk (Kd.R_drewN hRX.out nq)
          have YQ := Aside0.mk (Kd.R_drewN hRY.out nq)
          clear cxn cyn cx cy HBB hRX hRY
          generalize wr.drewN nq = wq at *
          go_wp2_with (fail)
          go_quiet (fail)
          go_wp2_with (fail)
          go_ret
          exact ⟨by rw [e]; rfl, pw_below_drewN BQ.out _⟩
        · have l2f : Op.bytesLess y.toList x.toList = false := by simpa using l2
          clear l2
          have e : cL (Ds xs) (Ds ys) = cL (Ds (xs.drop (i + 1))) (Ds (ys.drop (i + 1))) := by
            have ec : c1 x.toList y.toList = 0 := by simp [c1, l1f, l2f]
            rw [HE.out, if_pos ec]
          have HE2 := Aside0.mk e
          clear e
          go_wp2_with (fail)
          go_quiet (fail)
          have cx2 := cxn nq
          have cy2 := cyn nq
          have BQ := Aside0.mk (pw_below_drewN HBB.out nq)
          have XQ := Aside0.mk (Kd.R_drewN hRX.out nq)
          have YQ := Aside0.mk (Kd.R_drewN hRY.out nq)
          clear cxn cyn cx cy HBB hRX hRY
          generalize wr.drewN nq = wq at *
          go_wp2_with (fail)
          go_quiet (fail)
          go_wp2_with (fail)
          go_roundg (xs.length - (i + 1))
          case measure => omega
          case rel =>
            have hl := HX.out
            have hw : wrap64 ((i : Int) + 1) = ((i + 1 : Nat) : Int) := by unfold wrap64; omega
            exact ⟨i + 1, by omega, by omega, rfl, by first | rw [hw] | go_num, HE2.out, Kd.R_drewN XQ.out _, Kd.R_drewN YQ.out _, pw_below_drewN BQ.out _⟩
    · have e : cL (Ds xs) (Ds ys) = if xs.length = ys.length then 0 else if xs.length < ys.length then -1 else 1 := by
        rw [he, cL_lens]
        · simp only [Ds, List.length_map, List.length_drop]
          by_cases h1 : xs.length = ys.length
          · rw [if_pos (by omega), if_pos h1]
          · rw [if_neg (by omega), if_neg h1]
            by_cases h2 : xs.length < ys.length
            · rw [if_pos (by omega), if_pos h2]
            · rw [if_neg (by omega), if_neg h2]
        · by_cases h : i < xs.length
          · exact .inr (by rw [List.drop_eq_nil_of_le (by omega)]; rfl)
          · exact .inl (by rw [List.drop_eq_nil_of_le (by omega)]; rfl)
      have HBB := Aside0.mk hb
      have HE := Aside0.mk e
      clear he e hX hY hb
      have fin : ∀ (n1 : Nat), True := fun _ => trivial
      by_cases h : i < xs.length
      · have a1 : decide ((i : Int) < (xs.length : Int)) = true := decide_eq_true (by omega)
        have a2 : decide ((i : Int) < (ys.length : Int)) = false := decide_eq_false (by omega)
        by_cases h2 : xs.length = ys.length
        · exfalso
          omega
        · have b1 : ((xs.length : Int) != (ys.length : Int)) = true := bne_iff_ne.2 (by omega)
          have b2 : decide ((xs.length : Int) < (ys.length : Int)) = false := decide_eq_false (by omega)
          have b3 : decide (xs.length < ys.length) = false := decide_eq_false (by omega)
          go_wp2_with (fail)
          go_ret
          exact ⟨by rw [HE.out, if_neg h2, if_neg (by omega)]; rfl, HBB.out⟩
      · have a1 : decide ((i : Int) < (xs.length : Int)) = false := decide_eq_false (by omega)
        by_cases h2 : xs.length = ys.length
        · have b1 : ((xs.length : Int) != (ys.length : Int)) = false := by rw [h2]; exact bne_self_eq_false _
          go_wp2_with (fail)
          go_ret
          exact ⟨by rw [HE.out, if_pos h2]; rfl, HBB.out⟩
        · have b1 : ((xs.length : Int) != (ys.length : Int)) = true := bne_iff_ne.2 (by omega)
          have b2 : decide ((xs.length : Int) < (ys.length : Int)) = true := decide_eq_true (by omega)
          have b3 : decide (xs.length < ys.length) = true := decide_eq_true (by omega)
          go_wp2_with (fail)
          go_ret
          exact ⟨by rw [HE.out, if_neg h2, if_pos (by omega)]; rfl, HBB.out⟩
theorem Ds_mk (l : List (List UInt8)) : Ds (l.map mkB) = l := by
  unfold Ds
  rw [List.map_map]
  exact List.map_id l
theorem tallymanref7_Cmp.calls (a0 a1 : ByteArray) (r : Int) (w : World) (h : tallymanref7_Cmp.f a0 a1 = some r) :
    Calls Tryd.prog 52 #[.string a0, .string a1] w fun e w' => e = .returned (.int .i64 r) ∧ Below w.heap.size w w' := by
  unfold tallymanref7_Cmp.f at h
  split at h
  · rename_i h0
    split at h
    · rename_i h1
      have l0 := sp_len_le a0
      have l1 := sp_len_le a1
      have k := RefCmp_calls a0 a1 ((sp a0.data.toList).map mkB) ((sp a1.data.toList).map mkB) w (by rw [List.length_map]; omega) (by rw [List.length_map]; omega) (by unfold tallymanref7_names.f; rw [if_pos h0]) (by unfold tallymanref7_names.f; rw [if_pos h1])
      rw [Ds_mk, Ds_mk, Option.some.inj h] at k
      exact k
    · cases h
  · cases h
end Go.Proofs.YtidlldfghkaeeaaDoor.P
