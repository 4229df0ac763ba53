/- The document's own test of a path: tallymanref7.Good. -/
import Derived.Test.YtidlldfghkaeeaaDoorRefNames
namespace Go.Proofs.YtidlldfghkaeeaaDoor.P
open Go.RowKit Go.Proofs.YtidlldfghkaeeaaDoorW.PrintWords Go.Proofs.YtidlldfghkaeeaaDoorW.PrintLast
set_option linter.unusedVariables false
set_option linter.unusedSimpArgs false

theorem ok_iff (b : UInt8) : b ∈ letters_.data.toList ↔ (97 ≤ b.toNat ∧ b.toNat ≤ 122) ∨ (48 ≤ b.toNat ∧ b.toNat ≤ 57) ∨ b.toNat = 46 ∨ b.toNat = 45 ∨ b.toNat = 95 := by
  have h : ∀ n, n < 256 → (UInt8.ofNat n ∈ letters_.data.toList ↔ (97 ≤ n ∧ n ≤ 122) ∨ (48 ≤ n ∧ n ≤ 57) ∨ n = 46 ∨ n = 45 ∨ n = 95) := by decide +kernel
  have h2 := h b.toNat b.toNat_lt
  rwa [UInt8.ofNat_toNat] at h2
theorem rdP {l : List ByteArray} {i : Nat} (h : i < l.length) : rdOf ByteArray.empty l (i : Int) = l[i] := by
  unfold rdOf
  rw [Int.toNat_natCast, List.getD_eq_getElem?_getD, List.getElem?_eq_getElem h]
  rfl
theorem G1 (ps : List ByteArray) (i : Nat) (hi : i < ps.length) (hz : ps[i].size < 4294967281) (hi2 : i < 4294967281) (m : Nat) (R : Bool)
    (H : ∀ k, m ≤ k → ref7_Good.l0 k ps ((i + 1 : Nat) : Int) = some R) : ∀ (d j k : Nat), j + d = ps[i].size → m + d ≤ k →
    ref7_Good.l1 (k + 1) ps (i : Int) (j : Int) = some ((ps[i].data.toList.drop j).all (fun b => decide (b ∈ letters_.data.toList)) && R)
  | 0, j, k, hd, hk => by
    have hw : wrap64 ((i : Int) + 1) = ((i + 1 : Nat) : Int) := by unfold wrap64; omega
    rw [ref7_Good.l1, if_pos (by omega), if_pos (by omega), rdP hi, if_neg (by omega), hw, H k (by omega), List.drop_eq_nil_of_le (by rw [← D_size]; omega)]
    simp
  | d + 1, j, k, hd, hk => by
    obtain ⟨k, rfl⟩ : ∃ n, k = n + 1 := ⟨k - 1, by omega⟩
    have hw : wrap64 ((j : Int) + 1) = ((j + 1 : Nat) : Int) := by unfold wrap64; omega
    have hj : j < ps[i].size := by omega
    have ih := G1 ps i hi hz hi2 m R H d (j + 1) k (by omega) (by omega)
    have hj' : j < ps[i].data.toList.length := by rw [← D_size]; exact hj
    have hb : bt ps[i] (j : Int) = ((ps[i].data.toList[j]).toNat : Int) := by
      unfold bt
      rw [dif_pos (by omega)]
      rfl
    rw [ref7_Good.l1, if_pos (by omega), if_pos (by omega), rdP hi, if_pos (by omega), if_pos (by omega), hw, hb, ih, List.drop_eq_getElem_cons hj']
    have ho := ok_iff ps[i].data.toList[j]
    generalize ps[i].data.toList[j] = b at *
    have e : ((b :: ps[i].data.toList.drop (j + 1)).all (fun b => decide (b ∈ letters_.data.toList)) && R) = (if b ∈ letters_.data.toList then ((ps[i].data.toList.drop (j + 1)).all (fun b => decide (b ∈ letters_.data.toList)) && R) else false) := by
      rw [List.all_cons]
      by_cases h : b ∈ letters_.data.toList
      · rw [if_pos h, decide_eq_true h, Bool.true_and]
      · rw [if_neg h, decide_eq_false h]
        rfl
    rw [e]
    generalize ((ps[i].data.toList.drop (j + 1)).all (fun b => decide (b ∈ letters_.data.toList)) && R) = Q
    clear ih H e
    by_cases h : b ∈ letters_.data.toList
    · rw [if_pos h]
      have h := ho.1 h
      repeat' split
      all_goals first | rfl | (exfalso; omega)
    · rw [if_neg h]
      have h : ¬ _ := fun x => h (ho.2 x)
      repeat' split
      all_goals first | rfl | (exfalso; omega)
theorem G0 (ps : List ByteArray) (hn : ps.length < 4294967281) (N : Nat) (hz : ∀ x ∈ ps, x.size ≤ N) (hN : N < 4294967281) : ∀ (d i k : Nat), i + d = ps.length → d * (N + 3) + 1 ≤ k →
    ref7_Good.l0 k ps (i : Int) = some ((ps.drop i).all (fun x => decide (Nm x.data.toList)) && decide (ps.length ≤ 4))
  | 0, i, k, hd, hk => by
    obtain ⟨k, rfl⟩ : ∃ n, k = n + 1 := ⟨k - 1, by omega⟩
    rw [ref7_Good.l0, if_neg (by omega), List.drop_eq_nil_of_le (by omega)]
    congr 1
    rw [show decide ((ps.length : Int) ≤ 4) = decide (ps.length ≤ 4) from decide_eq_decide.2 (by omega)]
    simp
  | d + 1, i, k, hd, hk => by
    have hm : (d + 1) * (N + 3) = d * (N + 3) + (N + 3) := by rw [Nat.add_mul, Nat.one_mul]
    obtain ⟨k, rfl⟩ : ∃ n, k = n + 3 := ⟨k - 3, by omega⟩
    have hi : i < ps.length := by omega
    have hzi := hz _ (List.getElem_mem hi)
    have hD := D_size ps[i]
    have h1 := G1 ps i hi (by omega) (by omega) (d * (N + 3) + 1) _ (fun k hk => G0 ps hn N hz hN d (i + 1) k (by omega) hk) ps[i].size 0 k (by omega) (by omega)
    rw [List.drop_zero, show ((0 : Nat) : Int) = 0 from rfl] at h1
    generalize hQ : ((ps.drop (i + 1)).all (fun x => decide (Nm x.data.toList)) && decide (ps.length ≤ 4)) = Q at *
    have hj : ∀ b : Bool, ref7_Good.j1 (k + 2) ps (i : Int) b = if b = true then some false else some (ps[i].data.toList.all (fun b => decide (b ∈ letters_.data.toList)) && Q) := fun b => by
      rw [ref7_Good.j1, h1]
    have hR : ((ps[i] :: ps.drop (i + 1)).all (fun x => decide (Nm x.data.toList)) && decide (ps.length ≤ 4)) = (decide (Nm ps[i].data.toList) && Q) := by
      rw [← hQ, List.all_cons, Bool.and_assoc]
    rw [ref7_Good.l0, if_pos (by omega), if_pos (by omega), rdP hi, hj, hj, List.drop_eq_getElem_cons hi, hR, Lib.toList_data]
    generalize ps[i] = x at *
    clear hj h1 hR hQ
    have hn : (Nm x.data.toList ↔ (1 ≤ x.size ∧ x.size ≤ 16 ∧ x.data.toList ≠ [46] ∧ x.data.toList ≠ [46, 46] ∧ x.data.toList.all (fun b => decide (b ∈ letters_.data.toList)) = true)) := by
      unfold Nm
      rw [← hD, List.all_eq_true]
      constructor
      · rintro ⟨a, b, c, d, e⟩
        exact ⟨by rw [hD]; exact List.length_pos_iff.2 a, b, c, d, fun y hy => decide_eq_true (e y hy)⟩
      · rintro ⟨a, b, c, d, e⟩
        exact ⟨List.length_pos_iff.1 (by omega), b, c, d, fun y hy => of_decide_eq_true (e y hy)⟩
    by_cases c1 : (x.size : Int) < 1
    · rw [if_pos c1, if_pos rfl, decide_eq_false (fun h => by have := (hn.1 h).1; omega)]
      rfl
    · rw [if_neg c1]
      by_cases c2 : (x.size : Int) > 16
      · rw [if_pos c2, if_pos rfl, decide_eq_false (fun h => by have := (hn.1 h).2.1; omega)]
        rfl
      · rw [if_neg c2]
        by_cases c3 : x.data.toList = [46]
        · rw [if_pos c3, if_pos rfl, decide_eq_false (fun h => (hn.1 h).2.2.1 c3)]
          rfl
        · rw [if_neg c3]
          by_cases c4 : x.data.toList = [46, 46]
          · rw [if_pos (by rw [c4]; rfl), decide_eq_false (fun h => (hn.1 h).2.2.2.1 c4)]
            rfl
          · rw [if_neg (by simpa using c4)]
            congr 2
            rw [Bool.eq_iff_iff, decide_eq_true_eq, hn]
            exact ⟨fun h => ⟨by omega, by omega, c3, c4, h⟩, fun h => h.2.2.2.2⟩
theorem sp_le : ∀ (l x : List UInt8), x ∈ sp l → x.length ≤ l.length
  | [], x, h => by
    have : x = [] := by simpa [sp] using h
    rw [this]
    exact Nat.le_refl _
  | b :: l, x, h => by
    by_cases hb : b = 47
    · subst hb
      rw [sp_slash] at h
      rcases List.mem_cons.1 h with rfl | h
      · exact Nat.zero_le _
      · exact Nat.le_succ_of_le (sp_le l x h)
    · obtain ⟨y, ys, e⟩ := List.exists_cons_of_ne_nil (sp_ne l)
      rw [sp_cons hb e] at h
      rcases List.mem_cons.1 h with rfl | h
      · exact Nat.succ_le_succ (sp_le l y (by rw [e]; exact List.mem_cons_self))
      · exact Nat.le_succ_of_le (sp_le l x (by rw [e]; exact List.mem_cons_of_mem _ h))
theorem sp_len_le (s : ByteArray) : (sp s.data.toList).length ≤ s.size + 1 := by
  rw [sp_len, D_size]
  have := List.count_le_length (a := (47 : UInt8)) (l := s.data.toList)
  omega
theorem GoodRef_eq {s : ByteArray} (hs : s.size < 4294967280) {k : Nat} (hk : (s.size + 1) * (s.size + 3) + 2 ≤ k) : ref7_Good.f k s = some (decide (Gd s.data.toList)) := by
  have h1 := sp_len_le s
  have h2 : s.size + 2 ≤ k := by
    have : s.size + 3 ≤ (s.size + 1) * (s.size + 3) := Nat.le_mul_of_pos_left _ (by omega)
    omega
  have h3 : (sp s.data.toList).length * (s.size + 3) ≤ (s.size + 1) * (s.size + 3) := Nat.mul_le_mul_right _ h1
  unfold ref7_Good.f
  rw [names_eq (by omega) h2, Option.bind_some]
  have h := G0 ((sp s.data.toList).map mkB) (by rw [List.length_map]; omega) s.size (fun x hx => by
    obtain ⟨y, hy, rfl⟩ := List.mem_map.1 hx
    rw [D_size, D_size]
    exact sp_le _ _ hy) (by omega) (sp s.data.toList).length 0 k (by rw [List.length_map]; omega) (by omega)
  rw [show ((0 : Nat) : Int) = 0 from rfl, List.drop_zero, List.length_map] at h
  rw [h]
  congr 1
  rw [Bool.eq_iff_iff, Bool.and_eq_true, List.all_eq_true, decide_eq_true_eq, decide_eq_true_eq]
  show _ ↔ ((sp s.data.toList).length ≤ 4 ∧ ∀ x ∈ sp s.data.toList, Nm x)
  constructor
  · rintro ⟨a, b⟩
    exact ⟨b, fun x hx => of_decide_eq_true (a (mkB x) (List.mem_map_of_mem hx))⟩
  · rintro ⟨a, b⟩
    refine ⟨fun x hx => ?_, a⟩
    obtain ⟨y, hy, rfl⟩ := List.mem_map.1 hx
    exact decide_eq_true (b y hy)
end Go.Proofs.YtidlldfghkaeeaaDoor.P
