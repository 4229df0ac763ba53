/- Put together by pack.py: TreeRem -/
import Derived.Test.YtidlldfghkaeeaaDoorZmTreeSam
import Derived.Test.YtidlldfghkaeeaaDoorZmDelE
import Derived.Test.YtidlldfghkaeeaaDoorZmPfTreeFind
import Derived.Test.YtidlldfghkaeeaaDoorZmPfTreeKids
namespace Go.Proofs.YtidlldfghkaeeaaDoor.P
open Go.RowKit Go.Proofs.YtidlldfghkaeeaaDoorW.PrintWords Go.Proofs.YtidlldfghkaeeaaDoorW.PrintLast Go.Proofs.YtidlldfghkaeeaaDoorW.PrintMore
set_option linter.unusedVariables false
set_option linter.unusedSimpArgs false

/-- What tree.Find says of a path. -/
def findE (l : List S30) (p : ByteArray) : Int := if GT30 l then if Gd p.data.toList then if ∃ x ∈ l, x.f0 = p then 0 else 5 else 4 else 1
theorem tree_find.eq {l : List S30} {p : ByteArray} (h : okT l) (hp : p.size < 4294967280) (hs : Srt S30.f0 l) : tree_find.f l p = some ((lowB S30.f0 p l : Int), decide (∃ x ∈ l, x.f0 = p)) := by
  unfold tree_find.f
  rw [if_pos ⟨h.1, hp, hs⟩]
theorem nB_mem {l : List S30} : ∀ {x : S30}, x ∈ l → x.f2.length ≤ nB30 l := by
  induction l with
  | nil => intro x h; cases h
  | cons y l ih =>
    intro x h
    rw [nB30, nB_cons]
    rcases List.mem_cons.1 h with rfl | h
    · omega
    · have := ih h
      unfold nB30 at this
      omega
theorem tree_Find.eq {l : List S30} {p : ByteArray} (h : okT l) (hp : p.size < 4294967280) : ∃ r1 r2 r3, tree_Find.f l p = some (r1, r2, r3, findE l p) := by
  unfold tree_Find.f findE
  rw [tree_Good.eq h, Option.bind_some]
  by_cases hg : GT30 l
  · rw [if_pos (decide_eq_true hg), if_pos hg, Good_eq (by omega), Option.bind_some]
    by_cases hd : Gd p.data.toList
    · rw [if_pos (decide_eq_true hd), if_pos hd, tree_find.eq h hp hg.2.2.1, Option.bind_some]
      by_cases hx : ∃ x ∈ l, x.f0 = p
      · obtain ⟨hlt, _⟩ := (lowB_at hg.2.2.1).2 hx
        have hm := nB_mem (List.getElem_mem hlt)
        have hn := h.2
        dsimp only
        rw [if_pos (decide_eq_true hx), if_pos hx, if_pos (Int.natCast_nonneg _), if_pos (by omega), rdT hlt, own_eq (by omega), Option.bind_some]
        exact ⟨_, _, _, rfl⟩
      · dsimp only
        rw [if_neg (by simpa using hx), if_neg hx]
        exact ⟨_, _, _, rfl⟩
    · rw [if_neg (by simpa using hd), if_neg hd]
      exact ⟨_, _, _, rfl⟩
  · rw [if_neg (by simpa using hg), if_neg hg]
    exact ⟨_, _, _, rfl⟩
/-- What stands just within a path. -/
def kidsL (l : List S30) (p : ByteArray) : List ByteArray := if GT30 l then (l.filter fun x => decide (upB x.f0 = p)).map S30.f0 else []
theorem kids_l0 (l : List S30) (p : ByteArray) (hg : GT30 l) (hs : ∀ x ∈ l, x.f0.size < 4294967280) : ∀ (d i k : Nat) (acc : List ByteArray), i + d = l.length → d < k → acc.length ≤ i → tree_Kids.l0 k p acc l (l.length : Int) (i : Int) = some (acc ++ ((l.drop i).filter fun x => decide (upB x.f0 = p)).map S30.f0)
  | 0, i, k, acc, hd, hk, ha => by
    obtain ⟨k, rfl⟩ : ∃ m, k = m + 1 := ⟨k - 1, by omega⟩
    rw [tree_Kids.l0, if_neg (by omega), List.drop_eq_nil_of_le (by omega)]
    simp
  | d + 1, i, k, acc, hd, hk, ha => by
    obtain ⟨k, rfl⟩ : ∃ m, k = m + 1 := ⟨k - 1, by omega⟩
    have hi : i < l.length := by omega
    have hm := List.getElem_mem hi
    have hl := hg.1
    have hw : wrap64 ((i : Int) + 1) = ((i + 1 : Nat) : Int) := wr1 (by omega)
    rw [tree_Kids.l0, if_pos (by omega), if_pos (by omega), if_pos (by omega), rdT hi, Up_eq (by have := hs _ hm; omega), if_pos (hg.2.2.2 _ hm).1, Option.bind_some, hw, List.drop_eq_getElem_cons hi, List.filter_cons]
    dsimp only
    by_cases hq : upB l[i].f0 = p
    · rw [if_pos (by rw [hq]), if_pos (by omega), if_pos (decide_eq_true hq), kids_l0 l p hg hs d (i + 1) k _ (by omega) (by omega) (by rw [List.length_append, List.length_singleton]; omega)]
      simp
    · rw [if_neg (fun h => hq (by rw [Lib.toList_data, Lib.toList_data] at h; exact bext h)), if_neg (by simpa using hq), kids_l0 l p hg hs d (i + 1) k _ (by omega) (by omega) (by omega)]
theorem tree_Kids.eq {l : List S30} {p : ByteArray} {k : Nat} (h : okT l) (hk : 40 < k) : tree_Kids.f k l p = some (kidsL l p) := by
  unfold tree_Kids.f kidsL
  rw [tree_Good.eq h, Option.bind_some]
  by_cases hg : GT30 l
  · rw [if_pos (decide_eq_true hg), if_pos hg]
    have := kids_l0 l p hg (okP_iff.1 h.1).1 l.length 0 k [] (by omega) (by have := hg.1; omega) (Nat.zero_le _)
    rw [List.drop_zero, List.nil_append] at this
    exact this
  · rw [if_neg (by simpa using hg), if_neg hg]
def rem0 (l : List S30) (p : ByteArray) : List S30 × Int := if findE l p = 0 then if (kidsL l p).length > 0 then (l, 8) else (delE S30.f0 p l, 0) else (l, findE l p)
def tree_Remove.f (l : List S30) (p : ByteArray) : Option (List S30 × Int) := if okT l ∧ p.size < 4294967280 then some (rem0 l p) else none
/-- The two boxes: the tree, the result. -/
structure By (w W : World) (v : Value) : Prop where
  b : Below w.heap.size w W
  k2 : W.heap[w.heap.size]? = some (.cells #[v] 26 (0, 0))
  k4 : W.heap[w.heap.size + 1]? = some (.cells #[.slice none 0 0] 26 (0, 0))
theorem By.below {w W W' : World} {v : Value} (h : By w W v) (hb : Below W.heap.size W W') : By w W' v :=
  ⟨h.b.trans (hb.mono h.b.size), (hb.block _ (blk_lt h.k2)).trans h.k2, (hb.block _ (blk_lt h.k4)).trans h.k4⟩
theorem By.belowB {w W W' : World} {v : Value} {B : Nat} (h : By w W v) (hB : w.heap.size + 2 ≤ B) (hb : Below B W W') : By w W' v :=
  ⟨h.b.trans (hb.mono (by omega)), (hb.block _ (by omega)).trans h.k2, (hb.block _ (by omega)).trans h.k4⟩
theorem By.new (w : World) (v : Value) : By w ((w.alloc (.cells #[v] 26)).alloc (.cells #[.slice none 0 0] 26)) v := by
  refine ⟨below_alloc (below_alloc (Below.refl _ _) _) _, blk_alloc (blk_new w _) _, ?_⟩
  have h := blk_new (w.alloc (.cells #[v] 26)) (.cells #[.slice none 0 0] 26)
  rw [World.size_alloc] at h
  exact h
theorem By.cells {w W : World} {v : Value} (h : By w W v) : W.cell? ⟨w.heap.size, 0, none⟩ = some v ∧ W.cell? ⟨w.heap.size + 1, 0, none⟩ = some (.slice none 0 0) ∧ W.frozen? ⟨w.heap.size + 1, 0, none⟩ = false :=
  ⟨blk_cell h.k2 0, blk_cell h.k4 0, blk_frozen h.k4 0⟩
set_option maxHeartbeats 8000000 in
set_option maxRecDepth 100000 in
theorem Remove_calls (P : Nat → Prop) (A0 : Option Addr) (c0 : Nat) (l0 : List S30) (p : ByteArray) (w : World) (hs0 : Kd.V k30 30 w w.heap.size (fun k_ => P k_) (.slice A0 l0.length c0) l0) (hok : okT l0) (hp : p.size < 4294967280) (R : List S30 × Int) (hR : R = rem0 l0 p) :
    Calls Tryd.prog 19 #[.agg #[.slice A0 l0.length c0], .string p] w fun e w' => ∃ v0_ : Value, e = .returned (.tuple #[.agg #[v0_], .int .i64 R.2]) ∧ Kd.V k30 30 w' w.heap.size (fun k_ => (P k_ ∨ w.heap.size ≤ k_)) v0_ R.1 ∧ Below w.heap.size w w' := by
  have hu26 := Tryd.underlying26
  have hu30 := Tryd.underlying30
  have HS := Aside0.mk hs0
  have HRR := Aside0.mk hR
  clear hR
  have hC0 := (Kd.V_reads' hs0).2.2
  have hc0 := (Kd.V_reads' hs0).2.1
  obtain ⟨r1, r2, r3, hfe⟩ := tree_Find.eq hok hp
  have hkd := tree_Kids.eq (p := p) (k := 41) hok (by decide)
  have X0 := By.new w (.slice A0 l0.length c0)
  obtain ⟨m20, m40, f40⟩ := X0.cells
  obtain ⟨fe, hfq⟩ : ∃ fe, fe = findE l0 p := ⟨_, rfl⟩
  obtain ⟨kl, hkl⟩ : ∃ kl, kl = kidsL l0 p := ⟨_, rfl⟩
  rw [← hfq] at hfe
  rw [← hkl] at hkd
  have HFQ := Aside0.mk hfq
  have HKL := Aside0.mk hkl
  clear hfq hkl hs0
  go_enter Tryd.func19, Tryd.ntmps19
  go_wp2_with (fail)
  refine (tree_Find.calls A0 c0 l0 p r1 r2 r3 fe _ (Kd.C_below hC0 X0.b) hc0 hfe).mono ?_
  rintro e W1 ⟨v1, rfl, hr1, hb1⟩
  obtain ⟨A1, c1, rfl⟩ := Kd.R_slice hr1
  have X1 := (X0.below hb1).below (below_alloc (Below.refl _ W1) (.cells #[.string r1, .bool r2, .slice A1 r3.length c1] 30))
  clear X0 hb1 hr1 hfe m20 m40 f40
  dsimp only
  obtain ⟨m20, m40, f40⟩ := X1.cells
  by_cases q1 : fe = 0
  · subst q1
    go_wp2_with (fail)
    refine (tree_Kids.calls 41 A0 c0 l0 p kl _ (Kd.C_below hC0 X1.b) hc0 hkd).mono ?_
    rintro e W2 ⟨v2, rfl, hr2, hb2⟩
    obtain ⟨A2, c2, rfl⟩ := Kd.R_slice hr2
    have X2 := X1.below hb2
    clear X1 hb2 hr2 hkd m20 m40 f40
    dsimp only
    obtain ⟨m20, m40, f40⟩ := X2.cells
    obtain ⟨nk, hnk⟩ : ∃ nk, nk = kl.length := ⟨_, rfl⟩
    rw [← hnk]
    have HNK := Aside0.mk hnk
    clear hnk
    by_cases q2 : nk > 0
    · have p2 : decide ((0 : Int) < (nk : Int)) = true := decide_eq_true (by omega)
      go_wp2_with (fail)
      refine bodyPost_ret (results_ct rfl _ _ (w.heap.size + 1) 26 #[.slice A0 l0.length c0] (0, 0) _ rfl (blk_put (cs := #[.slice none 0 0]) X2.k4 0 _ rfl) Tryd.underlying26 rfl (by kernel_rfl)) rfl ?_
      obtain rfl : R = (l0, 8) := by rw [HRR.out, rem0, if_pos HFQ.out.symm, if_pos (by rw [← HKL.out, ← HNK.out]; exact q2)]
      exact ⟨_, rfl, V_came HS.out X2.b (by omega) _, X2.b.setCell (p := ⟨w.heap.size + 1, 0, none⟩) (by show w.heap.size ≤ w.heap.size + 1; omega) _⟩
    · have p2 : decide ((0 : Int) < (nk : Int)) = false := decide_eq_false (by omega)
      have hgt : GT30 l0 ∧ ∃ x ∈ l0, x.f0 = p := by
        have h := HFQ.out
        unfold findE at h
        split at h
        · rename_i hg
          split at h
          · split at h
            · rename_i hx
              exact ⟨hg, hx⟩
            · cases h
          · cases h
        · cases h
      have hfd := tree_find.eq hok hp hgt.1.2.2.1
      rw [decide_eq_true hgt.2] at hfd
      obtain ⟨hlt, hat⟩ := (lowB_at hgt.1.2.2.1).2 hgt.2
      have HAT := Aside0.mk (erase_del hgt.1.2.2.1 hlt hat)
      have hl40 := hgt.1.1
      clear hgt hat
      go_wp2_with (fail)
      refine (tree_find.calls A0 c0 l0 p _ _ _ (Kd.C_below hC0 X2.b) hc0 hfd).mono ?_
      rintro e W3 ⟨rfl, hb3⟩
      have X3 := X2.below hb3
      clear X2 hb3 hfd m20 m40 f40
      dsimp only
      obtain ⟨m20, m40, f40⟩ := X3.cells
      obtain ⟨i, hi⟩ : ∃ i, i = lowB S30.f0 p l0 := ⟨_, rfl⟩
      rw [← hi] at hlt HAT ⊢
      clear hi
      go_wp2_with (fail)
      have hbase : w.heap.size + 2 ≤ W3.heap.size := by
        have := blk_lt X3.k4
        omega
      have hV3 : Kd.V k30 30 W3 W3.heap.size (fun k => P k ∧ k < w.heap.size) (.slice A0 l0.length c0) l0 := Kd.V_below (Kd.V_bound HS.out) X3.b
      refine (CloneE_calls (fun k => P k ∧ k < w.heap.size) A0 c0 l0 W3 hV3 (by omega)).mono ?_
      rintro e W4 ⟨v4, rfl, hN4, hb4⟩
      have X4 := X3.below hb4
      have hs4 := hb4.size
      clear hV3 X3 hb4 m20 m40 f40
      dsimp only
      obtain ⟨m20, m40, f40⟩ := X4.cells
      obtain ⟨ii, hii⟩ : ∃ ii : Int, ii = (i : Int) := ⟨_, rfl⟩
      have hw : wrap64 (ii + 1) = ((i + 1 : Nat) : Int) := by rw [hii]; exact wr1 (by omega)
      obtain ⟨jj, hjj⟩ : ∃ jj : Int, jj = ((i + 1 : Nat) : Int) := ⟨_, rfl⟩
      rw [← hjj] at hw
      rw [← hii]
      have HII := Aside0.mk hii
      have HJJ := Aside0.mk hjj
      clear hii hjj
      go_wp2_with (fail)
      refine (DeleteE_calls W3.heap.size _ v4 i ii jj l0 W4 hN4 hs4 hlt (by omega) HII.out HJJ.out).mono ?_
      rintro e W5 ⟨v5, rfl, hN5, hb5⟩
      have X5 := X4.belowB hbase hb5
      rw [List.eraseIdx_eq_take_drop_succ, HAT.out] at hN5
      obtain ⟨A5, c5, rfl⟩ := Kd.N_slice hN5
      have HN5 := Aside0.mk hN5
      clear hN4 hN5 X4 m20 m40 f40
      dsimp only
      obtain ⟨m20, m40, f40⟩ := X5.cells
      go_wp2_with (fail)
      refine bodyPost_ret (results_ct rfl _ _ (w.heap.size + 1) 26 #[.slice A5 (delE S30.f0 p l0).length c5] (0, 0) _ rfl (blk_put (cs := #[.slice none 0 0]) X5.k4 0 _ rfl) Tryd.underlying26 rfl (by kernel_rfl)) rfl ?_
      obtain rfl : R = (delE S30.f0 p l0, 0) := by rw [HRR.out, rem0, if_pos HFQ.out.symm, if_neg (by rw [← HKL.out, ← HNK.out]; exact q2)]
      refine ⟨_, rfl, Kd.V_mono (Kd.V_far (p := ⟨w.heap.size + 1, 0, none⟩) (Kd.N_V HN5.out) (fun k hk => ?_) _) (fun k hk => ?_), X5.b.setCell (p := ⟨w.heap.size + 1, 0, none⟩) (by show w.heap.size ≤ w.heap.size + 1; omega) _⟩
      · show k ≠ w.heap.size + 1
        rcases hk with hk | hk <;> omega
      · rcases hk with hk | hk
        · exact .inl hk.1
        · exact .inr (by omega)
  · have p1 : (fe != 0) = true := bne_iff_ne.2 q1
    go_wp2_with (fail)
    refine bodyPost_ret (results_ct rfl _ _ (w.heap.size + 1) 26 #[.slice A0 l0.length c0] (0, 0) _ rfl (blk_put (cs := #[.slice none 0 0]) X1.k4 0 _ rfl) Tryd.underlying26 rfl (by kernel_rfl)) rfl ?_
    obtain rfl : R = (l0, fe) := by rw [HRR.out, rem0, if_neg (by rw [← HFQ.out]; exact q1), HFQ.out]
    exact ⟨_, rfl, V_came HS.out X1.b (by omega) _, X1.b.setCell (p := ⟨w.heap.size + 1, 0, none⟩) (by show w.heap.size ≤ w.heap.size + 1; omega) _⟩
theorem tree_Remove.calls (P0_0_ : Nat → Prop) (A0_0 : Option Addr) (c0_0 : Nat) (l0_0 : List S30) (a1 : ByteArray) (r1 : List S30) (r2 : Int) (w : World) (hs0_0 : Kd.V k30 30 w w.heap.size (fun k_ => P0_0_ k_) (.slice A0_0 l0_0.length c0_0) l0_0) (h : tree_Remove.f l0_0 a1 = some (r1, r2)) :
    Calls Tryd.prog 19 #[.agg #[.slice A0_0 l0_0.length c0_0], .string a1] w fun e w' => ∃ v0_ : Value, e = .returned (.tuple #[.agg #[v0_], .int .i64 r2]) ∧ Kd.V k30 30 w' w.heap.size (fun k_ => (P0_0_ k_ ∨ w.heap.size ≤ k_)) v0_ r1 ∧ Below w.heap.size w w' := by
  unfold tree_Remove.f at h
  split at h
  · rename_i hh
    exact Remove_calls P0_0_ A0_0 c0_0 l0_0 a1 w hs0_0 hh.1 hh.2 (r1, r2) (Option.some.inj h).symm
  · cases h
end Go.Proofs.YtidlldfghkaeeaaDoor.P
