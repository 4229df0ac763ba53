/- tallymanref7.Sort, walked: those that may be, in order, each once. -/
import Derived.Test.YtidlldfghkaeeaaDoorRefCmp
import Derived.Test.YtidlldfghkaeeaaDoorSrtUniq
namespace Go.Proofs.YtidlldfghkaeeaaDoor.P
open Go.RowKit Go.Proofs.YtidlldfghkaeeaaDoorW.PrintWords Go.Proofs.YtidlldfghkaeeaaDoorW.PrintLast Go.Proofs.YtidlldfghkaeeaaDoorW.PrintMore
set_option linter.unusedVariables false
set_option linter.unusedSimpArgs false

section
variable {ops : Array Oper} {op : Oper} {a : Act} {Q : Exit → Act → World → Prop} {Kc : Act → World → Prop}
theorem catS {wd W : World} (hw : Region.wanted op (yielded ops a.tmps) = true) (s x : Operand) (ho : op.op = .call { callee := .builtin .append, args := #[s, x], argTypes := #[52, 52] })
    {v : Value} {A : Option Addr} {m c : Nat} {ys xs : List ByteArray} (hs : a.eval s = v) (hx : a.eval x = .slice A m c)
    (HO : Kd.R Kd.string 9 W wd.heap.size (fun _ => True) v ys) (HC : Kd.C Kd.string W A m xs) (hb : Below wd.heap.size wd W) (hl : ys.length + m ≤ 10000)
    (h : ∀ v1 w1, Kd.R Kd.string 9 w1 wd.heap.size (fun _ => True) v1 (ys ++ xs) → Below wd.heap.size wd w1 → W.grownBy w1 v.ownBlock → Kc (a.put op.dst v1) w1) :
    if Region.wanted op (yielded ops a.tmps) = true then Oper.wp Tryd.prog op a W Kc Q else Kc (a.put op.dst undef) W := by
  refine Kd.R_append_rows_step (Rr := Kd.string.K W) Kd.string (w0 := wd) wd.heap.size hw s x 52 9 (.string ⟨#[]⟩) 16 ho Tryd.underlying52 info9o rfl (by decide) (by omega) v ys xs A m c (fun _ => True) (fun _ => False) hs hx HO HC (fun y cs hy => hy) (fun _ hk => hk.elim) (fun _ _ => trivial) hb hb.size (by omega) ?_
  intro v1 w1 h1 hb1 hg _
  exact h v1 w1 h1 hb1 hg
end
theorem newS (W : World) {B : Nat} (hB : B ≤ W.heap.size) : Kd.R Kd.string 9 (W.alloc (.cells #[] 9)) B (fun _ => True) (.slice (some ⟨W.heap.size, 0, none⟩) 0 0) [] := by
  have h2 := World.ownsRow_lit (base := B) (e := 9) (size := 1) W #[] 0 hB (by decide) (by rfl)
  exact ⟨fun _ _ => trivial, [], h2, rfl, fun j p hj => by simp at hj⟩
theorem oneB {W : World} {b : Nat} {y : ByteArray} (h : W.heap[b]? = some (.cells #[.string y] 9 (0, 0))) : Kd.C Kd.string W (some ⟨b, 0, none⟩) 1 [y] := by
  refine ⟨rfl, by decide, fun _ => ⟨_, rfl, fun j p hj => ?_⟩⟩
  have hj0 : j = 0 := by
    have := (List.getElem?_eq_some_iff.1 hj).1
    simpa using this
  subst hj0
  obtain rfl : y = p := by simpa using hj
  refine ⟨[.string y], rfl, rfl, fun q u hq => ?_⟩
  have hq0 : q = 0 := by
    have := (List.getElem?_eq_some_iff.1 hq).1
    simpa using this
  subst hq0
  have hu : Value.string y = u := by simpa using hq
  subst hu
  exact blk_cell h 0
theorem cell_lt2 {w : World} {a : Addr} {v : Value} (h : w.cell? a = some v) : a.block < w.heap.size := World.block_lt_of_cell? w a h
theorem lePl {x y : ByteArray} (h : cL (sp y.data.toList) (sp x.data.toList) > 0) : leP x y = true ∧ x ≠ y := by
  refine ⟨leP_iff.2 (by rw [cL_anti (sp y.data.toList)]; omega), ?_⟩
  rintro rfl
  rw [cL_eq.2 rfl] at h
  omega
/-- Behind the inner loop: what lies ahead is ahead. -/
theorem ahead {r : List ByteArray} {x : ByteArray} {k : Nat} (hkl : k ≤ r.length) (hs : r.Pairwise (fun a b => leP a b = true ∧ a ≠ b)) (hk : ∀ m (h : m < r.length), k = m + 1 → leP r[m] x = true ∧ r[m] ≠ x) : ∀ y ∈ r.take k, leP y x = true ∧ y ≠ x := by
  intro y hy
  obtain ⟨j, hj, rfl⟩ := List.mem_iff_getElem.1 hy
  have hj' := hj
  rw [List.length_take] at hj'
  rw [List.getElem_take]
  have h1 := hk (k - 1) (by omega) (by omega)
  rcases Nat.lt_or_ge j (k - 1) with h | h
  · have h2 := List.pairwise_iff_getElem.1 hs j (k - 1) (by omega) (by omega) h
    refine ⟨leP_trans _ _ _ h2.1 h1.1, fun e => ?_⟩
    exact h1.2 (leP_anti h1.1 (e ▸ h2.1))
  · obtain rfl : j = k - 1 := by omega
    exact h1
def tallymanref7_Sort.f (l0 : List ByteArray) : Option (List ByteArray) := if l0.length ≤ 1000 then if l0.all (fun x => decide (x.size < 4294967280)) then some (srt l0) else none else none
set_option maxHeartbeats 8000000 in
set_option maxRecDepth 100000 in
theorem RefSort_calls (A0 : Option Addr) (c0 : Nat) (l0 : List ByteArray) (w : World) (hr0 : Kd.C Kd.string w A0 l0.length l0) (hc0 : l0.length ≤ c0) (hl0 : l0.length ≤ 1000) (hs0 : ∀ x ∈ l0, x.size < 4294967280) :
    Calls Tryd.prog 55 #[.slice A0 l0.length c0] w fun e w' => ∃ v0_ : Value, e = .returned (v0_) ∧ Kd.R Kd.string 9 w' w.heap.size (fun _ => True) v0_ (srt l0) ∧ Below w.heap.size w w' := by
  have HS := Aside0.mk hs0
  have HL := Aside0.mk hl0
  clear hs0 hl0
  go_enter Tryd.func55, Tryd.ntmps55
  go_wp2_with (fail)
  go_loopg [3, 4, 5] l0.length (fun gg s3 s4 s5 wr => ∃ (i : Nat) (r : List ByteArray) (A : Option Addr) (c : Nat), i ≤ l0.length ∧ gg = l0.length - i ∧ s4 = .int .i64 i ∧ s3 = .slice A r.length c ∧ Kd.R Kd.string 9 wr w.heap.size (fun _ => True) (.slice A r.length c) r ∧ r.length ≤ i ∧ r.Pairwise (fun a b => leP a b = true ∧ a ≠ b) ∧ (∀ x, x ∈ r ↔ x ∈ l0.take i ∧ gd x = true) ∧ Below w.heap.size w wr)
  case atStart => exact ⟨0, [], none, 0, Nat.zero_le _, rfl, rfl, rfl, Kd.R_nil _ _ _ _ _, Nat.le_refl _, List.Pairwise.nil, by simp, Below.refl _ _⟩
  case round =>
    obtain ⟨i, r, A, c, hi, rfl, rfl, rfl, hR, hri, hst, hm, hb⟩ := hrel
    by_cases a : i < l0.length
    · have a1 : decide ((i : Int) < (l0.length : Int)) = true := decide_eq_true (by omega)
      obtain ⟨ad, rfl, cx⟩ := Kd.at_string (Kd.C_below hr0 hb) (i : Int) (by omega) (by omega)
      rw [rdP a, Int.toNat_natCast] at cx
      have hmem : l0[i] ∈ l0 := List.getElem_mem a
      have htk : ∀ z, z ∈ l0.take (i + 1) ↔ z ∈ l0.take i ∨ z = l0[i] := fun z => by
        rw [List.take_add_one, List.getElem?_eq_getElem a, List.mem_append]
        simp
      generalize l0[i] = x at *
      have hsx := HS.out x hmem
      have kG := fun W => tallymanref7_Good.calls x (decide (Gd x.data.toList)) W (by unfold tallymanref7_Good.f; rw [if_pos hsx])
      have hgd : gd x = decide (Gd x.data.toList) := by
        unfold gd
        rw [decide_eq_decide]
        exact GPieces_iff x
      have hl0 := HL.out
      have hwi : wrap64 ((i : Int) + 1) = ((i + 1 : Nat) : Int) := by unfold wrap64; omega
      have hrl : r.length ≤ 1000 := by omega
      have HWI := Aside0.mk hwi
      have HM := Aside0.mk hm
      have HST := Aside0.mk hst
      have HTK := Aside0.mk htk
      have HRL := Aside0.mk hrl
      have HSX := Aside0.mk hsx
      have HMEM := Aside0.mk hmem
      have HRI := Aside0.mk hri
      clear hwi hm hst htk hl0 hrl hsx hmem hri
      by_cases g : Gd x.data.toList
      · rw [decide_eq_true g] at kG hgd
        have HGD := Aside0.mk hgd
        clear hgd
        go_wp2_with (fail)
        refine (kG _).mono ?_
        clear kG
        rintro e w2 ⟨rfl, hb2⟩
        dsimp only
        have hR2 := Kd.R_below hR hb2
        have cx2 := (Below.cell hb2 (cell_lt2 cx)).trans cx
        have hb3 := hb.trans (hb2.mono hb.size)
        clear hR cx hb hb2
        go_upto_block 2 with (fail)
        go_cut [5] from 20 to 36 (fun s5 wz => ∃ k : Nat, k ≤ r.length ∧ s5 = .int .i64 k ∧ (∀ y ∈ r.drop k, leP x y = true ∧ x ≠ y) ∧ (∀ m (h : m < r.length), k = m + 1 → leP r[m] x = true) ∧ Kd.R Kd.string 9 wz w.heap.size (fun _ => True) (.slice A r.length c) r ∧ wz.cell? (ad.add i) = some (.string x) ∧ Below w.heap.size w wz)
        case first =>
          go_wp2_with (fail)
          go_loopg [5] r.length (fun gg s5 wq => ∃ k : Nat, k ≤ r.length ∧ k = gg ∧ s5 = .int .i64 k ∧ (∀ y ∈ r.drop k, leP x y = true ∧ x ≠ y) ∧ Kd.R Kd.string 9 wq w.heap.size (fun _ => True) (.slice A r.length c) r ∧ wq.cell? (ad.add i) = some (.string x) ∧ Below w.heap.size w wq)
          case atStart => exact ⟨r.length, Nat.le_refl _, rfl, rfl, by simp, hR2, cx2, hb3⟩
          case round =>
            clear hR2 cx2 hb3
            obtain ⟨k, hk, rfl, rfl, hdr, hR, cx, hb⟩ := hrel
            have hrl := HRL.out
            by_cases hk0 : 0 < k
            · obtain ⟨m, rfl⟩ : ∃ m, k = m + 1 := ⟨k - 1, by omega⟩
              obtain ⟨ad2, rfl, cy⟩ := Kd.at_string (Kd.R_reads' hR).2.2 (m : Int) (by omega) (by omega)
              have hmr : m < r.length := by omega
              rw [rdP hmr, Int.toNat_natCast] at cy
              have hyr : r[m] ∈ r := List.getElem_mem hmr
              have hdm : r.drop m = r[m] :: r.drop (m + 1) := List.drop_eq_getElem_cons hmr
              have hun : ∀ m' (h : m' < r.length), m + 1 = m' + 1 → r[m'] = r[m] := fun m' h e => by
                obtain rfl : m' = m := by omega
                rfl
              generalize r[m] = y at *
              have hsy := HS.out y (List.mem_of_mem_take ((HM.out y).1 hyr).1)
              have hsx := HSX.out
              have kC := fun W => tallymanref7_Cmp.calls y x (cL (sp y.data.toList) (sp x.data.toList)) W (by unfold tallymanref7_Cmp.f; rw [if_pos hsy, if_pos hsx])
              obtain ⟨kk, hkk⟩ : ∃ kk : Int, kk = ((m + 1 : Nat) : Int) := ⟨_, rfl⟩
              rw [← hkk]
              have p1 : decide ((0 : Int) < kk) = true := decide_eq_true (by omega)
              have p2 : wrap64 (kk - 1) = (m : Int) := by unfold wrap64; omega
              have p3 : decide ((m : Int) < (r.length : Int)) = true := decide_eq_true (by omega)
              have hRd := Kd.R_drew hR
              have hBd := below_drew hb
              have cxd : wr.drew.cell? (ad.add i) = some (.string x) := cx
              have cyd : wr.drew.cell? (ad2.add m) = some (.string y) := cy
              have HDR := Aside0.mk hdr
              have HDM := Aside0.mk hdm
              have HUN := Aside0.mk hun
              have HK := Aside0.mk hk
              have HMR := Aside0.mk hmr
              have HKK := Aside0.mk hkk
              clear hdr hdm hun hk hkk hyr hsy hsx hR cx cy hb hk0 hrl
              obtain ⟨cc, hcc⟩ : ∃ cc, cc = cL (sp y.data.toList) (sp x.data.toList) := ⟨_, rfl⟩
              rw [← hcc] at kC
              have HCC := Aside0.mk hcc
              clear hcc
              by_cases hc0 : cc > 0
              · have p5 : decide ((0 : Int) < cc) = true := decide_eq_true hc0
                go_wp2_with (fail)
                refine start_ (n := 15) (S := fun w' => w'.cell? (ad2.add m) = some (.string y) ∧ w'.cell? (ad.add i) = some (.string x)) (ds := []) #[false, false, false, false, false, false, false, false, false, false, false, false, false, false, false] (by kernel_rfl) rfl rfl ⟨cyd, cxd⟩ (fun hHeld => ?_)
                generalize wr.drew = wd at cyd cxd hRd hBd hHeld ⊢
                refine pure_ (i := 0) (N := some 20) (v := ?_) (a' := ?_) #[true, false, false, false, false, false, false, false, false, false, false, false, false, false, false] rfl rfl (by kernel_rfl) (fun _ _ _ h => h) (Or.inl ⟨by rfl, ?_⟩) ?_ ?_
                rotate_left
                · intro w'
                  go_simp
                  with_reducible rfl
                rotate_left
                · simp only [Act.put, List.setIfInBounds_toArray, List.set_cons_zero, List.set_cons_succ, i64_w, i32_w]
                  rfl
                refine pure_ (i := 1) (N := some 21) (v := ?_) (a' := ?_) #[true, true, false, false, false, false, false, false, false, false, false, false, false, false, false] rfl rfl (by kernel_rfl) (fun _ _ _ h => h) (Or.inl ⟨by rfl, ?_⟩) ?_ ?_
                rotate_left
                · intro w'
                  go_simp
                  with_reducible rfl
                rotate_left
                · simp only [Act.put, List.setIfInBounds_toArray, List.set_cons_zero, List.set_cons_succ, i64_w, i32_w]
                  rfl
                refine pure_ (i := 2) (N := some 22) (v := ?_) (a' := ?_) #[true, true, true, false, false, false, false, false, false, false, false, false, false, false, false] rfl rfl (by kernel_rfl) (fun _ _ _ h => h) (Or.inl ⟨by rfl, ?_⟩) ?_ ?_
                rotate_left
                · intro w'
                  go_simp
                  with_reducible rfl
                rotate_left
                · simp only [Act.put, List.setIfInBounds_toArray, List.set_cons_zero, List.set_cons_succ, i64_w, i32_w]
                  rfl
                refine pure_ (i := 3) (N := some 23) (v := ?_) (a' := ?_) #[true, true, true, true, false, false, false, false, false, false, false, false, false, false, false] rfl rfl (by kernel_rfl) (fun _ _ _ h => h) (Or.inl ⟨by rfl, ?_⟩) ?_ ?_
                rotate_left
                · intro w'
                  go_simp
                  with_reducible rfl
                rotate_left
                · simp only [Act.put, List.setIfInBounds_toArray, List.set_cons_zero, List.set_cons_succ, i64_w, i32_w]
                  rfl
                refine pure_ (i := 4) (N := some 24) (v := ?_) (a' := ?_) #[true, true, true, true, true, false, false, false, false, false, false, false, false, false, false] rfl rfl (by kernel_rfl) (fun _ _ _ h => h) (Or.inl ⟨by rfl, ?_⟩) ?_ ?_
                rotate_left
                · intro w'
                  go_simp
                  with_reducible rfl
                rotate_left
                · simp only [Act.put, List.setIfInBounds_toArray, List.set_cons_zero, List.set_cons_succ, i64_w, i32_w]
                  rfl
                refine pure_ (i := 5) (N := some 25) (v := ?_) (a' := ?_) #[true, true, true, true, true, true, false, false, false, false, false, false, false, false, false] rfl rfl (by kernel_rfl) (fun _ _ _ h => h) (Or.inl ⟨by rfl, ?_⟩) ?_ ?_
                rotate_left
                · intro w'
                  go_simp
                  with_reducible rfl
                rotate_left
                · simp only [Act.put, List.setIfInBounds_toArray, List.set_cons_zero, List.set_cons_succ, i64_w, i32_w]
                  rfl
                refine pure_ (i := 6) (N := some 26) (v := ?_) (a' := ?_) #[true, true, true, true, true, true, true, false, false, false, false, false, false, false, false] rfl rfl (by kernel_rfl) (fun _ _ _ h => h) (Or.inl ⟨by rfl, ?_⟩) ?_ ?_
                rotate_left
                · intro w'
                  go_simp
                  with_reducible rfl
                rotate_left
                · simp only [Act.put, List.setIfInBounds_toArray, List.set_cons_zero, List.set_cons_succ, i64_w, i32_w]
                  rfl
                refine pure_ (i := 8) (N := some 28) (v := ?_) (a' := ?_) #[true, true, true, true, true, true, true, false, true, false, false, false, false, false, false] rfl rfl (by kernel_rfl) (fun _ _ _ h => h) (Or.inl ⟨by rfl, ?_⟩) ?_ ?_
                rotate_left
                · intro w'
                  go_simp
                  with_reducible rfl
                rotate_left
                · simp only [Act.put, List.setIfInBounds_toArray, List.set_cons_zero, List.set_cons_succ, i64_w, i32_w]
                  rfl
                refine pure_ (i := 9) (N := some 29) (v := ?_) (a' := ?_) #[true, true, true, true, true, true, true, false, true, true, false, false, false, false, false] rfl rfl (by kernel_rfl) (fun _ _ _ h => h) (Or.inl ⟨by rfl, ?_⟩) ?_ ?_
                rotate_left
                · intro w'
                  go_simp
                  with_reducible rfl
                rotate_left
                · simp only [Act.put, List.setIfInBounds_toArray, List.set_cons_zero, List.set_cons_succ, i64_w, i32_w]
                  rfl
                refine pure_ (i := 10) (N := some 30) (v := ?_) (a' := ?_) #[true, true, true, true, true, true, true, false, true, true, true, false, false, false, false] rfl rfl (by kernel_rfl) (fun _ _ _ h => h) (Or.inl ⟨by rfl, ?_⟩) ?_ ?_
                rotate_left
                · intro w'
                  go_simp
                  with_reducible rfl
                rotate_left
                · simp only [Act.put, List.setIfInBounds_toArray, List.set_cons_zero, List.set_cons_succ, i64_w, i32_w]
                  rfl
                refine take_ (i := 7) (N := some 27) (v := ?_) (a' := ?_) #[true, true, true, true, true, true, true, true, true, true, true, false, false, false, false] rfl rfl (by kernel_rfl) (fun _ _ _ h => h) (Or.inl ⟨by rfl, ?_⟩) hHeld ?_ ?_
                rotate_left
                · rintro w' ⟨s0, s1⟩
                  go_simp
                  with_reducible rfl
                rotate_left
                · simp only [Act.put, List.setIfInBounds_toArray, List.set_cons_zero, List.set_cons_succ, i64_w, i32_w]
                  rfl
                refine take_ (i := 11) (N := some 31) (v := ?_) (a' := ?_) #[true, true, true, true, true, true, true, true, true, true, true, true, false, false, false] rfl rfl (by kernel_rfl) (fun _ _ _ h => h) (Or.inl ⟨by rfl, ?_⟩) hHeld ?_ ?_
                rotate_left
                · rintro w' ⟨s0, s1⟩
                  go_simp
                  with_reducible rfl
                rotate_left
                · simp only [Act.put, List.setIfInBounds_toArray, List.set_cons_zero, List.set_cons_succ, i64_w, i32_w]
                  rfl
                refine one_ (i := 12) (N := some 32) #[true, true, true, true, true, true, true, true, true, true, true, true, true, false, false] rfl rfl (by kernel_rfl) (by decide) (fun K hK => ?_)
                refine goes_ Tryd.func52 (by kernel_rfl) rfl #[.string y, .string x] (by rfl) rfl rfl (by simp only [List.map_toArray, List.map_cons, List.map_nil]; rfl) ?_
                with_reducible refine (kC wd).mono ?_
                rintro e w3 ⟨rfl, hb3⟩
                refine ⟨_, rfl, ?_⟩
                refine hK.out _ _ ⟨(Below.cell hb3 (cell_lt2 cyd)).trans cyd, (Below.cell hb3 (cell_lt2 cxd)).trans cxd⟩ (fun hHeld => ?_)
                clear hK K
                refine norm_ (a' := ?_) ?_ ?_
                rotate_left
                · show Act.put _ (some 32) _ = _
                  simp only [Act.put, List.setIfInBounds_toArray, List.set_cons_zero, List.set_cons_succ, i64_w, i32_w]
                  rfl
                refine pure_ (i := 13) (N := some 33) (v := ?_) (a' := ?_) #[true, true, true, true, true, true, true, true, true, true, true, true, true, true, false] rfl rfl (by kernel_rfl) (fun _ _ _ h => h) (Or.inl ⟨by rfl, ?_⟩) ?_ ?_
                rotate_left
                · intro w'
                  go_simp
                  with_reducible rfl
                rotate_left
                · simp only [Act.put, List.setIfInBounds_toArray, List.set_cons_zero, List.set_cons_succ, i64_w, i32_w]
                  rfl
                refine pure_ (i := 14) (N := some 34) (v := ?_) (a' := ?_) #[true, true, true, true, true, true, true, true, true, true, true, true, true, true, true] rfl rfl (by kernel_rfl) (fun _ _ _ h => h) (Or.inl ⟨by rfl, ?_⟩) ?_ ?_
                rotate_left
                · intro w'
                  go_simp
                  with_reducible rfl
                rotate_left
                · simp only [Act.put, List.setIfInBounds_toArray, List.set_cons_zero, List.set_cons_succ, i64_w, i32_w]
                  rfl
                refine done_ (by kernel_rfl) ?_
                go_wp2_with (fail)
                go_roundg m
                case measure => omega
                case rel =>
                  refine ⟨m, Nat.le_of_lt HMR.out, rfl, by rw [p2], fun z hz => ?_, Kd.R_below hRd hb3, hHeld.2, hBd.trans (hb3.mono hBd.size)⟩
                  rw [HDM.out] at hz
                  rcases List.mem_cons.1 hz with rfl | hz
                  · exact lePl (HCC.out ▸ hc0)
                  · exact HDR.out z hz
              · have p5 : decide ((0 : Int) < cc) = false := decide_eq_false hc0
                go_wp2_with (fail)
                refine start_ (n := 15) (S := fun w' => w'.cell? (ad2.add m) = some (.string y) ∧ w'.cell? (ad.add i) = some (.string x)) (ds := []) #[false, false, false, false, false, false, false, false, false, false, false, false, false, false, false] (by kernel_rfl) rfl rfl ⟨cyd, cxd⟩ (fun hHeld => ?_)
                generalize wr.drew = wd at cyd cxd hRd hBd hHeld ⊢
                refine pure_ (i := 0) (N := some 20) (v := ?_) (a' := ?_) #[true, false, false, false, false, false, false, false, false, false, false, false, false, false, false] rfl rfl (by kernel_rfl) (fun _ _ _ h => h) (Or.inl ⟨by rfl, ?_⟩) ?_ ?_
                rotate_left
                · intro w'
                  go_simp
                  with_reducible rfl
                rotate_left
                · simp only [Act.put, List.setIfInBounds_toArray, List.set_cons_zero, List.set_cons_succ, i64_w, i32_w]
                  rfl
                refine pure_ (i := 1) (N := some 21) (v := ?_) (a' := ?_) #[true, true, false, false, false, false, false, false, false, false, false, false, false, false, false] rfl rfl (by kernel_rfl) (fun _ _ _ h => h) (Or.inl ⟨by rfl, ?_⟩) ?_ ?_
                rotate_left
                · intro w'
                  go_simp
                  with_reducible rfl
                rotate_left
                · simp only [Act.put, List.setIfInBounds_toArray, List.set_cons_zero, List.set_cons_succ, i64_w, i32_w]
                  rfl
                refine pure_ (i := 2) (N := some 22) (v := ?_) (a' := ?_) #[true, true, true, false, false, false, false, false, false, false, false, false, false, false, false] rfl rfl (by kernel_rfl) (fun _ _ _ h => h) (Or.inl ⟨by rfl, ?_⟩) ?_ ?_
                rotate_left
                · intro w'
                  go_simp
                  with_reducible rfl
                rotate_left
                · simp only [Act.put, List.setIfInBounds_toArray, List.set_cons_zero, List.set_cons_succ, i64_w, i32_w]
                  rfl
                refine pure_ (i := 3) (N := some 23) (v := ?_) (a' := ?_) #[true, true, true, true, false, false, false, false, false, false, false, false, false, false, false] rfl rfl (by kernel_rfl) (fun _ _ _ h => h) (Or.inl ⟨by rfl, ?_⟩) ?_ ?_
                rotate_left
                · intro w'
                  go_simp
                  with_reducible rfl
                rotate_left
                · simp only [Act.put, List.setIfInBounds_toArray, List.set_cons_zero, List.set_cons_succ, i64_w, i32_w]
                  rfl
                refine pure_ (i := 4) (N := some 24) (v := ?_) (a' := ?_) #[true, true, true, true, true, false, false, false, false, false, false, false, false, false, false] rfl rfl (by kernel_rfl) (fun _ _ _ h => h) (Or.inl ⟨by rfl, ?_⟩) ?_ ?_
                rotate_left
                · intro w'
                  go_simp
                  with_reducible rfl
                rotate_left
                · simp only [Act.put, List.setIfInBounds_toArray, List.set_cons_zero, List.set_cons_succ, i64_w, i32_w]
                  rfl
                refine pure_ (i := 5) (N := some 25) (v := ?_) (a' := ?_) #[true, true, true, true, true, true, false, false, false, false, false, false, false, false, false] rfl rfl (by kernel_rfl) (fun _ _ _ h => h) (Or.inl ⟨by rfl, ?_⟩) ?_ ?_
                rotate_left
                · intro w'
                  go_simp
                  with_reducible rfl
                rotate_left
                · simp only [Act.put, List.setIfInBounds_toArray, List.set_cons_zero, List.set_cons_succ, i64_w, i32_w]
                  rfl
                refine pure_ (i := 6) (N := some 26) (v := ?_) (a' := ?_) #[true, true, true, true, true, true, true, false, false, false, false, false, false, false, false] rfl rfl (by kernel_rfl) (fun _ _ _ h => h) (Or.inl ⟨by rfl, ?_⟩) ?_ ?_
                rotate_left
                · intro w'
                  go_simp
                  with_reducible rfl
                rotate_left
                · simp only [Act.put, List.setIfInBounds_toArray, List.set_cons_zero, List.set_cons_succ, i64_w, i32_w]
                  rfl
                refine pure_ (i := 8) (N := some 28) (v := ?_) (a' := ?_) #[true, true, true, true, true, true, true, false, true, false, false, false, false, false, false] rfl rfl (by kernel_rfl) (fun _ _ _ h => h) (Or.inl ⟨by rfl, ?_⟩) ?_ ?_
                rotate_left
                · intro w'
                  go_simp
                  with_reducible rfl
                rotate_left
                · simp only [Act.put, List.setIfInBounds_toArray, List.set_cons_zero, List.set_cons_succ, i64_w, i32_w]
                  rfl
                refine pure_ (i := 9) (N := some 29) (v := ?_) (a' := ?_) #[true, true, true, true, true, true, true, false, true, true, false, false, false, false, false] rfl rfl (by kernel_rfl) (fun _ _ _ h => h) (Or.inl ⟨by rfl, ?_⟩) ?_ ?_
                rotate_left
                · intro w'
                  go_simp
                  with_reducible rfl
                rotate_left
                · simp only [Act.put, List.setIfInBounds_toArray, List.set_cons_zero, List.set_cons_succ, i64_w, i32_w]
                  rfl
                refine pure_ (i := 10) (N := some 30) (v := ?_) (a' := ?_) #[true, true, true, true, true, true, true, false, true, true, true, false, false, false, false] rfl rfl (by kernel_rfl) (fun _ _ _ h => h) (Or.inl ⟨by rfl, ?_⟩) ?_ ?_
                rotate_left
                · intro w'
                  go_simp
                  with_reducible rfl
                rotate_left
                · simp only [Act.put, List.setIfInBounds_toArray, List.set_cons_zero, List.set_cons_succ, i64_w, i32_w]
                  rfl
                refine take_ (i := 7) (N := some 27) (v := ?_) (a' := ?_) #[true, true, true, true, true, true, true, true, true, true, true, false, false, false, false] rfl rfl (by kernel_rfl) (fun _ _ _ h => h) (Or.inl ⟨by rfl, ?_⟩) hHeld ?_ ?_
                rotate_left
                · rintro w' ⟨s0, s1⟩
                  go_simp
                  with_reducible rfl
                rotate_left
                · simp only [Act.put, List.setIfInBounds_toArray, List.set_cons_zero, List.set_cons_succ, i64_w, i32_w]
                  rfl
                refine take_ (i := 11) (N := some 31) (v := ?_) (a' := ?_) #[true, true, true, true, true, true, true, true, true, true, true, true, false, false, false] rfl rfl (by kernel_rfl) (fun _ _ _ h => h) (Or.inl ⟨by rfl, ?_⟩) hHeld ?_ ?_
                rotate_left
                · rintro w' ⟨s0, s1⟩
                  go_simp
                  with_reducible rfl
                rotate_left
                · simp only [Act.put, List.setIfInBounds_toArray, List.set_cons_zero, List.set_cons_succ, i64_w, i32_w]
                  rfl
                refine one_ (i := 12) (N := some 32) #[true, true, true, true, true, true, true, true, true, true, true, true, true, false, false] rfl rfl (by kernel_rfl) (by decide) (fun K hK => ?_)
                refine goes_ Tryd.func52 (by kernel_rfl) rfl #[.string y, .string x] (by rfl) rfl rfl (by simp only [List.map_toArray, List.map_cons, List.map_nil]; rfl) ?_
                with_reducible refine (kC wd).mono ?_
                rintro e w3 ⟨rfl, hb3⟩
                refine ⟨_, rfl, ?_⟩
                refine hK.out _ _ ⟨(Below.cell hb3 (cell_lt2 cyd)).trans cyd, (Below.cell hb3 (cell_lt2 cxd)).trans cxd⟩ (fun hHeld => ?_)
                clear hK K
                refine norm_ (a' := ?_) ?_ ?_
                rotate_left
                · show Act.put _ (some 32) _ = _
                  simp only [Act.put, List.setIfInBounds_toArray, List.set_cons_zero, List.set_cons_succ, i64_w, i32_w]
                  rfl
                refine pure_ (i := 13) (N := some 33) (v := ?_) (a' := ?_) #[true, true, true, true, true, true, true, true, true, true, true, true, true, true, false] rfl rfl (by kernel_rfl) (fun _ _ _ h => h) (Or.inl ⟨by rfl, ?_⟩) ?_ ?_
                rotate_left
                · intro w'
                  go_simp
                  with_reducible rfl
                rotate_left
                · simp only [Act.put, List.setIfInBounds_toArray, List.set_cons_zero, List.set_cons_succ, i64_w, i32_w]
                  rfl
                refine pure_ (i := 14) (N := some 34) (v := ?_) (a' := ?_) #[true, true, true, true, true, true, true, true, true, true, true, true, true, true, true] rfl rfl (by kernel_rfl) (fun _ _ _ h => h) (Or.inl ⟨by rfl, ?_⟩) ?_ ?_
                rotate_left
                · intro w'
                  go_simp
                  with_reducible rfl
                rotate_left
                · simp only [Act.put, List.setIfInBounds_toArray, List.set_cons_zero, List.set_cons_succ, i64_w, i32_w]
                  rfl
                refine done_ (by kernel_rfl) ?_
                go_wp2_with (fail)
                go_meet
                case rel =>
                  refine ⟨m + 1, HK.out, by rw [HKK.out], HDR.out, fun m' h e => ?_, Kd.R_below hRd hb3, hHeld.2, hBd.trans (hb3.mono hBd.size)⟩
                  rw [HUN.out m' h e]
                  exact leP_iff.2 (by rw [← HCC.out]; omega)
            · obtain rfl : k = 0 := by omega
              have p1 : decide ((0 : Int) < ((0 : Nat) : Int)) = false := by decide
              go_wp2_with (fail)
              go_quiet (fail)
              go_wp2_with (fail)
              go_meet
              case rel => exact ⟨0, Nat.zero_le _, rfl, hdr, fun m' h e => by omega, Kd.R_drewN hR _, cx, pw_below_drewN hb _⟩
        case rest =>
          clear hR2 cx2 hb3
          obtain ⟨k, hk, rfl, hdr, hpr, hR, cx, hb⟩ := hcut
          have hrl := HRL.out
          have go10 : ∀ nq, (∀ m (h : m < r.length), k = m + 1 → r[m] ≠ x) → ∀ wz, wz = wc.drewN nq → (Kd.R Kd.string 9 wz w.heap.size (fun _ => True) (.slice A r.length c) r ∧ wz.cell? (ad.add i) = some (.string x) ∧ Below w.heap.size w wz) ∧ ∀ y ∈ r.take k, leP y x = true ∧ y ≠ x := by
            rintro nq hne wz rfl
            exact ⟨⟨Kd.R_drewN hR _, cx, pw_below_drewN hb _⟩, ahead hk HST.out fun m h e => ⟨hpr m h e, hne m h e⟩⟩
          have hkc := (Kd.R_reads' hR).2.1
          have hA' : ∃ A', ∀ W : World, True := ⟨A, fun _ => trivial⟩
          by_cases hd : ∃ m, ∃ h : m < r.length, k = m + 1 ∧ r[m] = x
          · obtain ⟨m, hmr, rfl, hmx⟩ := hd
            obtain ⟨ad2, rfl, cy⟩ := Kd.at_string (Kd.R_reads' hR).2.2 (m : Int) (by omega) (by omega)
            rw [rdP hmr, Int.toNat_natCast, hmx] at cy
            have hxr : x ∈ r := hmx ▸ List.getElem_mem hmr
            obtain ⟨kk, hkk⟩ : ∃ kk : Int, kk = ((m + 1 : Nat) : Int) := ⟨_, rfl⟩
            rw [← hkk]
            have p1 : decide ((0 : Int) < kk) = true := decide_eq_true (by omega)
            have p2 : wrap64 (kk - 1) = (m : Int) := by unfold wrap64; omega
            have p3 : decide ((m : Int) < (r.length : Int)) = true := decide_eq_true (by omega)
            have HR := Aside0.mk hR
            have HBB := Aside0.mk hb
            have HXR := Aside0.mk hxr
            clear hdr hpr hR hb go10 hmx hkk hkc hA' hxr hrl hk
            go_wp2_with (fail)
            go_quiet (fail)
            go_wp2_with (fail)
            go_roundg (l0.length - (i + 1))
            case measure => omega
            case rel =>
              refine ⟨i + 1, r, _, c, by omega, rfl, by rw [HWI.out], rfl, Kd.R_drewN HR.out _, Nat.le_succ_of_le HRI.out, HST.out, fun z => ?_, pw_below_drewN HBB.out _⟩
              rw [HM.out, HTK.out]
              constructor
              · rintro ⟨h1, h2⟩
                exact ⟨.inl h1, h2⟩
              · rintro ⟨h1 | rfl, h2⟩
                · exact ⟨h1, h2⟩
                · exact (HM.out _).1 HXR.out
          · have hne : ∀ m (h : m < r.length), k = m + 1 → r[m] ≠ x := fun m h e hx => hd ⟨m, h, e, hx⟩
            have G10 := fun nq => go10 nq hne
            obtain ⟨i9, hi9, hz9⟩ := Option.map_eq_some_iff.1 info9o
            simp only [Prod.mk.injEq] at hz9
            have hT : ∀ W : World, (Instr.slice 52 (.slice A r.length c) none (some (.int .i64 (k : Int))) none).run Tryd.prog W = .ok (.slice A k c) W := fun W => by
              have h := (print_take_of (P := Tryd.prog) Value.string ByteArray.empty 52 9 .i64 Tryd.underlying52 hi9 hz9.2.1 A c r (k : Int) (by omega) (by omega) hkc).1 W
              rw [Int.toNat_natCast, List.length_take, Nat.min_eq_left hk] at h
              exact h
            obtain ⟨A', hD, hDr⟩ := print_cut_of (P := Tryd.prog) Value.string ByteArray.empty 52 9 .i64 Tryd.underlying52 hi9 hz9.2.1 A r.length c k hk
            have hCt : ∀ W : World, Kd.R Kd.string 9 W w.heap.size (fun _ => True) (.slice A r.length c) r → Kd.C Kd.string W A k (r.take k) := fun W h => by
              have h2 := Kd.C_take (m := k) (Kd.R_reads' h).2.2 hk
              rw [List.length_take, Nat.min_eq_left hk] at h2
              exact h2
            have hCd : ∀ W : World, Kd.R Kd.string 9 W w.heap.size (fun _ => True) (.slice A r.length c) r → Kd.C Kd.string W A' (r.length - k) (r.drop k) := fun W h =>
              Kd.C_of_reads (d := ByteArray.empty) (hDr W r hkc (Kd.reads_of_C (d := ByteArray.empty) (Kd.R_reads' h).2.2))
            have hb_1 : ([] : List ByteArray).length + k ≤ 10000 := by rw [List.length_nil]; omega
            have hb_2 : (r.take k).length + 1 ≤ 10000 := by rw [List.length_take]; omega
            have hb_3 : (r.take k ++ [x]).length + (r.length - k) ≤ 10000 := by rw [List.length_append, List.length_take, List.length_singleton]; omega
            have END : ∀ (w9 : World) (v9 : Value) (wd : World), Below w.heap.size w wd → (∀ y ∈ r.take k, leP y x = true ∧ y ≠ x) → Kd.R Kd.string 9 w9 wd.heap.size (fun _ => True) v9 (r.take k ++ [x] ++ r.drop k) → Below wd.heap.size wd w9 → ∃ (r' : List ByteArray) (A9 : Option Addr) (c9 : Nat), v9 = .slice A9 r'.length c9 ∧ Kd.R Kd.string 9 w9 w.heap.size (fun _ => True) (.slice A9 r'.length c9) r' ∧ r'.length ≤ i + 1 ∧ r'.Pairwise (fun a b => leP a b = true ∧ a ≠ b) ∧ (∀ z, z ∈ r' ↔ z ∈ l0.take (i + 1) ∧ gd z = true) ∧ Below w.heap.size w w9 := by
              intro w9 v9 wd hBd hah hR9 hb9
              obtain ⟨A9, c9, rfl⟩ := Kd.R_slice hR9
              refine ⟨_, A9, c9, rfl, Kd.R_lower hR9 hBd.size, ?_, ?_, fun z => ?_, hBd.trans (hb9.mono hBd.size)⟩
              · have := HRI.out
                simp only [List.length_append, List.length_take, List.length_drop, List.length_singleton]
                omega
              · have h := put_strict k HST.out hah hdr
                rw [List.append_assoc, List.singleton_append]
                exact h
              · rw [HTK.out]
                have h1 := HM.out z
                have h2 : z ∈ r ↔ z ∈ r.take k ∨ z ∈ r.drop k := by
                  conv => lhs; rw [← List.take_append_drop k r]
                  exact List.mem_append
                rw [List.mem_append, List.mem_append, List.mem_singleton]
                constructor
                · rintro ((h | rfl) | h)
                  · have := h1.1 (h2.2 (.inl h))
                    exact ⟨.inl this.1, this.2⟩
                  · exact ⟨.inr rfl, HGD.out⟩
                  · have := h1.1 (h2.2 (.inr h))
                    exact ⟨.inl this.1, this.2⟩
                · rintro ⟨h | h, h3⟩
                  · rcases h2.1 (h1.2 ⟨h, h3⟩) with h | h
                    · exact .inl (.inl h)
                    · exact .inr h
                  · exact .inl (.inr h)
            have HEND := Aside0.mk END
            have HG10 := Aside0.mk G10
            have HCT := Aside0.mk hCt
            have HCD := Aside0.mk hCd
            have HNE := Aside0.mk hne
            clear END G10 hCt hCd hDr hz9 hi9 go10 hd hpr hdr hA' hrl
            obtain ⟨kk, hkk⟩ : ∃ kk : Int, kk = (k : Int) := ⟨_, rfl⟩
            rw [← hkk] at hT hD ⊢
            by_cases hk0 : 0 < k
            · have p1 : decide ((0 : Int) < kk) = true := decide_eq_true (by omega)
              obtain ⟨m, hm⟩ : ∃ m, k = m + 1 := ⟨k - 1, by omega⟩
              obtain ⟨ad2, rfl, cy⟩ := Kd.at_string (Kd.R_reads' hR).2.2 (m : Int) (by omega) (by omega)
              have hmr : m < r.length := by omega
              rw [rdP hmr, Int.toNat_natCast] at cy
              have hyx := HNE.out m hmr hm
              generalize r[m] = y at *
              have p2 : wrap64 (kk - 1) = (m : Int) := by unfold wrap64; omega
              have p3 : decide ((m : Int) < (r.length : Int)) = true := decide_eq_true (by omega)
              have p4 : (y.toList == x.toList) = false := by
                refine beq_eq_false_iff_ne.2 fun e => hyx ?_
                rw [Lib.toList_data, Lib.toList_data] at e
                exact bext e
              have HBB := Aside0.mk hb
              clear hb hR hm hyx hk0 hkk
              go_wp2_with (fail)
              go_quiet (fail)
              obtain ⟨⟨hRz, cxz, hbz⟩, hah⟩ := HG10.out nq _ rfl
              clear cx cy
              generalize wc.drewN nq = wz at *
              have hBd := below_drew hbz
              have cxd : wz.drew.cell? (ad.add i) = some (.string x) := cxz
              have hCt := HCT.out _ (Kd.R_drew hRz)
              have hCd := HCD.out _ (Kd.R_drew hRz)
              clear hbz cxz hRz
              go_wp2_with (fail)
              refine start_ (n := 16) (S := fun w' => w'.cell? (ad.add i) = some (.string x)) (ds := []) #[false, false, false, false, false, false, false, false, false, false, false, false, false, false, false, false] (by kernel_rfl) rfl rfl (cxd) (fun hHeld => ?_)
              generalize wz.drew = wd at cxd hCt hCd hBd hHeld ⊢
              refine pure_ (i := 1) (N := some 52) (v := ?_) (a' := ?_) #[false, true, false, false, false, false, false, false, false, false, false, false, false, false, false, false] rfl rfl (by kernel_rfl) (fun _ _ _ h => h) (Or.inl ⟨by rfl, ?_⟩) ?_ ?_
              rotate_left
              · intro w'
                go_simp
                with_reducible rfl
              rotate_left
              · simp only [Act.put, List.setIfInBounds_toArray, List.set_cons_zero, List.set_cons_succ, i64_w, i32_w]
                rfl
              refine pure_ (i := 2) (N := some 53) (v := ?_) (a' := ?_) #[false, true, true, false, false, false, false, false, false, false, false, false, false, false, false, false] rfl rfl (by kernel_rfl) (fun _ _ _ h => h) (Or.inl ⟨by rfl, ?_⟩) ?_ ?_
              rotate_left
              · intro w'
                go_simp
                with_reducible rfl
              rotate_left
              · simp only [Act.put, List.setIfInBounds_toArray, List.set_cons_zero, List.set_cons_succ, i64_w, i32_w]
                rfl
              refine pure_ (i := 3) (N := some 54) (v := ?_) (a' := ?_) #[false, true, true, true, false, false, false, false, false, false, false, false, false, false, false, false] rfl rfl (by kernel_rfl) (fun _ _ _ h => h) (Or.inl ⟨by rfl, ?_⟩) ?_ ?_
              rotate_left
              · intro w'
                go_simp
                with_reducible rfl
              rotate_left
              · simp only [Act.put, List.setIfInBounds_toArray, List.set_cons_zero, List.set_cons_succ, i64_w, i32_w]
                rfl
              refine pure_ (i := 5) (N := some 56) (v := ?_) (a' := ?_) #[false, true, true, true, false, true, false, false, false, false, false, false, false, false, false, false] rfl rfl (by kernel_rfl) (fun _ _ _ h => h) (Or.inl ⟨by rfl, ?_⟩) ?_ ?_
              rotate_left
              · intro w'
                go_simp
                with_reducible rfl
              rotate_left
              · simp only [Act.put, List.setIfInBounds_toArray, List.set_cons_zero, List.set_cons_succ, i64_w, i32_w]
                rfl
              refine pure_ (i := 6) (N := some 57) (v := ?_) (a' := ?_) #[false, true, true, true, false, true, true, false, false, false, false, false, false, false, false, false] rfl rfl (by kernel_rfl) (fun _ _ _ h => h) (Or.inl ⟨by rfl, ?_⟩) ?_ ?_
              rotate_left
              · intro w'
                go_simp
                with_reducible rfl
              rotate_left
              · simp only [Act.put, List.setIfInBounds_toArray, List.set_cons_zero, List.set_cons_succ, i64_w, i32_w]
                rfl
              refine pure_ (i := 7) (N := some 58) (v := ?_) (a' := ?_) #[false, true, true, true, false, true, true, true, false, false, false, false, false, false, false, false] rfl rfl (by kernel_rfl) (fun _ _ _ h => h) (Or.inl ⟨by rfl, ?_⟩) ?_ ?_
              rotate_left
              · intro w'
                go_simp
                with_reducible rfl
              rotate_left
              · simp only [Act.put, List.setIfInBounds_toArray, List.set_cons_zero, List.set_cons_succ, i64_w, i32_w]
                rfl
              refine pure_ (i := 11) (N := some 62) (v := ?_) (a' := ?_) #[false, true, true, true, false, true, true, true, false, false, false, true, false, false, false, false] rfl rfl (by kernel_rfl) (fun _ _ _ h => h) (Or.inl ⟨by rfl, ?_⟩) ?_ ?_
              rotate_left
              · intro w'
                go_simp
                with_reducible rfl
              rotate_left
              · simp only [Act.put, List.setIfInBounds_toArray, List.set_cons_zero, List.set_cons_succ, i64_w, i32_w]
                rfl
              refine pure_ (i := 12) (N := some 63) (v := ?_) (a' := ?_) #[false, true, true, true, false, true, true, true, false, false, false, true, true, false, false, false] rfl rfl (by kernel_rfl) (fun _ _ _ h => h) (Or.inl ⟨by rfl, ?_⟩) ?_ ?_
              rotate_left
              · intro w'
                go_simp
                with_reducible rfl
              rotate_left
              · simp only [Act.put, List.setIfInBounds_toArray, List.set_cons_zero, List.set_cons_succ, i64_w, i32_w]
                rfl
              refine pure_ (i := 13) (N := some 64) (v := ?_) (a' := ?_) #[false, true, true, true, false, true, true, true, false, false, false, true, true, true, false, false] rfl rfl (by kernel_rfl) (fun _ _ _ h => h) (Or.inl ⟨by rfl, ?_⟩) ?_ ?_
              rotate_left
              · intro w'
                go_simp
                with_reducible rfl
              rotate_left
              · simp only [Act.put, List.setIfInBounds_toArray, List.set_cons_zero, List.set_cons_succ, i64_w, i32_w]
                rfl
              refine take_ (i := 8) (N := some 59) (v := ?_) (a' := ?_) #[false, true, true, true, false, true, true, true, true, false, false, true, true, true, false, false] rfl rfl (by kernel_rfl) (fun _ _ _ h => h) (Or.inl ⟨by rfl, ?_⟩) hHeld ?_ ?_
              rotate_left
              · intro w' s0
                go_simp
                with_reducible rfl
              rotate_left
              · simp only [Act.put, List.setIfInBounds_toArray, List.set_cons_zero, List.set_cons_succ, i64_w, i32_w]
                rfl
              refine join_ (σ := Value × Nat × Nat) 3 #[true, true, true, true, true, true, true, true, true, true, false, true, true, true, false, false] (fun s => [(51, .slice (some ⟨s.2.2, 0, none⟩) 0 0), (55, s.1), (60, .slice (some ⟨s.2.1, 0, none⟩) 1 1)]) (fun s w' => Kd.R Kd.string 9 w' wd.heap.size (fun _ => True) s.1 (r.take k) ∧ w'.heap[s.2.1]? = some (.cells #[.string x] 9 (0, 0)) ∧ Below wd.heap.size wd w') ?_ ?_
              rotate_left
              · intro hCont
                refine two_ (i := 0) (j := 9) (Ni := some 51) (Nj := some 60) #[true, true, true, true, false, true, true, true, true, false, false, true, true, true, false, false] #[false, true, true, true, false, true, true, true, true, true, false, true, true, true, false, false] rfl rfl rfl rfl (by kernel_rfl) (by decide) (by decide) (fun K hK => ?_) (fun K hK => ?_)
                · skip
                  refine value_ (w1 := ?_) (v := ?_) (by rfl) rfl ?_ ?_
                  rotate_left 2
                  · go_simp
                    constructor
                    · rfl
                    · rfl
                  have hw1 := newS wd (Nat.le_refl _)
                  have hb1 := below_alloc (Below.refl wd.heap.size wd) (.cells #[] 9)
                  refine hK.out _ _ (((Below.cell hb1 (cell_lt2 cxd)).trans cxd)) (fun hHeld => ?_)
                  clear hK K
                  refine norm_ (a' := ?_) ?_ ?_
                  rotate_left
                  · show Act.put _ (some 51) _ = _
                    simp only [Act.put, List.setIfInBounds_toArray, List.set_cons_zero, List.set_cons_succ, i64_w, i32_w]
                    rfl
                  refine two_ (i := 4) (j := 9) (Ni := some 55) (Nj := some 60) #[true, true, true, true, true, true, true, true, true, false, false, true, true, true, false, false] #[true, true, true, true, false, true, true, true, true, true, false, true, true, true, false, false] rfl rfl rfl rfl (by kernel_rfl) (by decide) (by decide) (fun K hK => ?_) (fun K hK => ?_)
                  · skip
                    refine catS (wd := wd) (by rfl) (.tmp 51) (.tmp 54) rfl (v := .slice (some ⟨wd.heap.size, 0, none⟩) 0 0) (A := _) (m := k) (c := c) (ys := []) (xs := r.take k) (by rfl) (by rfl) hw1 (Kd.C_below hCt hb1) hb1 hb_1 ?_
                    intro v5 w5 hR5 hb5 hg5
                    rw [List.nil_append] at hR5
                    refine hK.out _ _ (((Below.cell hb5 (cell_lt2 cxd)).trans cxd)) (fun hHeld => ?_)
                    clear hK K
                    refine norm_ (a' := ?_) ?_ ?_
                    rotate_left
                    · show Act.put _ (some 55) _ = _
                      simp only [Act.put, List.setIfInBounds_toArray, List.set_cons_zero, List.set_cons_succ, i64_w, i32_w]
                      rfl
                    refine one_ (i := 9) (N := some 60) #[true, true, true, true, true, true, true, true, true, true, false, true, true, true, false, false] rfl rfl (by kernel_rfl) (by decide) (fun K hK => ?_)
                    refine value_ (w1 := ?_) (v := ?_) (by rfl) rfl ?_ ?_
                    rotate_left 2
                    · go_simp
                      constructor
                      · rfl
                      · rfl
                    have hR6 := Kd.R_below hR5 (below_alloc (Below.refl _ w5) (.cells #[.string x] 9))
                    have hB6 := blk_new w5 (.cells #[.string x] 9)
                    have hb6 := hb5.trans ((below_alloc (Below.refl _ w5) (.cells #[.string x] 9)).mono hb5.size)
                    refine hK.out _ _ (((Below.cell hb6 (cell_lt2 cxd)).trans cxd)) (fun hHeld => ?_)
                    clear hK K
                    refine norm_ (a' := ?_) ?_ ?_
                    rotate_left
                    · show Act.put _ (some 60) _ = _
                      simp only [Act.put, List.setIfInBounds_toArray, List.set_cons_zero, List.set_cons_succ, i64_w, i32_w]
                      rfl
                    exact norm_ (by simp only [putAll, Act.put, List.setIfInBounds_toArray, List.set_cons_zero, List.set_cons_succ]) (hCont (v5, w5.heap.size, wd.heap.size) _ ⟨hR6, hB6, hb6⟩)
                  · skip
                    refine value_ (w1 := ?_) (v := ?_) (by rfl) rfl ?_ ?_
                    rotate_left 2
                    · go_simp
                      constructor
                      · rfl
                      · rfl
                    have hw2 := Kd.R_below hw1 (below_alloc (Below.refl _ _) (.cells #[.string x] 9))
                    have hB2 := blk_new (wd.alloc (.cells #[] 9)) (.cells #[.string x] 9)
                    rw [World.size_alloc] at hB2
                    have hb2 := hb1.trans ((below_alloc (Below.refl _ (wd.alloc (.cells #[] 9))) (.cells #[.string x] 9)).mono hb1.size)
                    refine hK.out _ _ (((Below.cell hb2 (cell_lt2 cxd)).trans cxd)) (fun hHeld => ?_)
                    clear hK K
                    refine norm_ (a' := ?_) ?_ ?_
                    rotate_left
                    · show Act.put _ (some 60) _ = _
                      simp only [Act.put, List.setIfInBounds_toArray, List.set_cons_zero, List.set_cons_succ, i64_w, i32_w]
                      rfl
                    refine one_ (i := 4) (N := some 55) #[true, true, true, true, true, true, true, true, true, true, false, true, true, true, false, false] rfl rfl (by kernel_rfl) (by decide) (fun K hK => ?_)
                    refine catS (wd := wd) (by rfl) (.tmp 51) (.tmp 54) rfl (v := .slice (some ⟨wd.heap.size, 0, none⟩) 0 0) (A := _) (m := k) (c := c) (ys := []) (xs := r.take k) (by rfl) (by rfl) hw2 (Kd.C_below hCt hb2) hb2 hb_1 ?_
                    intro v5 w5 hR5 hb5 hg5
                    rw [List.nil_append] at hR5
                    have hB5 := (hg5.block _ (blk_lt hB2) (by simp [Value.ownBlock])).trans hB2
                    refine hK.out _ _ (((Below.cell hb5 (cell_lt2 cxd)).trans cxd)) (fun hHeld => ?_)
                    clear hK K
                    refine norm_ (a' := ?_) ?_ ?_
                    rotate_left
                    · show Act.put _ (some 55) _ = _
                      simp only [Act.put, List.setIfInBounds_toArray, List.set_cons_zero, List.set_cons_succ, i64_w, i32_w]
                      rfl
                    exact norm_ (by simp only [putAll, Act.put, List.setIfInBounds_toArray, List.set_cons_zero, List.set_cons_succ]) (hCont (v5, wd.heap.size + 1, wd.heap.size) _ ⟨hR5, hB5, hb5⟩)
                · skip
                  refine value_ (w1 := ?_) (v := ?_) (by rfl) rfl ?_ ?_
                  rotate_left 2
                  · go_simp
                    constructor
                    · rfl
                    · rfl
                  have hB2 := blk_new wd (.cells #[.string x] 9)
                  have hb2 := below_alloc (Below.refl wd.heap.size wd) (.cells #[.string x] 9)
                  refine hK.out _ _ (((Below.cell hb2 (cell_lt2 cxd)).trans cxd)) (fun hHeld => ?_)
                  clear hK K
                  refine norm_ (a' := ?_) ?_ ?_
                  rotate_left
                  · show Act.put _ (some 60) _ = _
                    simp only [Act.put, List.setIfInBounds_toArray, List.set_cons_zero, List.set_cons_succ, i64_w, i32_w]
                    rfl
                  refine one_ (i := 0) (N := some 51) #[true, true, true, true, false, true, true, true, true, true, false, true, true, true, false, false] rfl rfl (by kernel_rfl) (by decide) (fun K hK => ?_)
                  refine value_ (w1 := ?_) (v := ?_) (by rfl) rfl ?_ ?_
                  rotate_left 2
                  · go_simp
                    constructor
                    · rfl
                    · rfl
                  have hw1 := newS (wd.alloc (.cells #[.string x] 9)) (B := wd.heap.size) (by rw [World.size_alloc]; omega)
                  rw [World.size_alloc] at hw1
                  have hb1 := hb2.trans ((below_alloc (Below.refl _ (wd.alloc (.cells #[.string x] 9))) (.cells #[] 9)).mono hb2.size)
                  have hB1 := blk_below hB2 (below_alloc (Below.refl _ (wd.alloc (.cells #[.string x] 9))) (.cells #[] 9))
                  refine hK.out _ _ (((Below.cell hb1 (cell_lt2 cxd)).trans cxd)) (fun hHeld => ?_)
                  clear hK K
                  refine norm_ (a' := ?_) ?_ ?_
                  rotate_left
                  · show Act.put _ (some 51) _ = _
                    simp only [Act.put, List.setIfInBounds_toArray, List.set_cons_zero, List.set_cons_succ, i64_w, i32_w]
                    rfl
                  refine one_ (i := 4) (N := some 55) #[true, true, true, true, true, true, true, true, true, true, false, true, true, true, false, false] rfl rfl (by kernel_rfl) (by decide) (fun K hK => ?_)
                  refine catS (wd := wd) (by rfl) (.tmp 51) (.tmp 54) rfl (v := .slice (some ⟨(wd.heap.size + 1), 0, none⟩) 0 0) (A := _) (m := k) (c := c) (ys := []) (xs := r.take k) (by rfl) (by rfl) hw1 (Kd.C_below hCt hb1) hb1 hb_1 ?_
                  intro v5 w5 hR5 hb5 hg5
                  rw [List.nil_append] at hR5
                  have hB5 := (hg5.block _ (blk_lt hB1) (by simp [Value.ownBlock])).trans hB1
                  refine hK.out _ _ (((Below.cell hb5 (cell_lt2 cxd)).trans cxd)) (fun hHeld => ?_)
                  clear hK K
                  refine norm_ (a' := ?_) ?_ ?_
                  rotate_left
                  · show Act.put _ (some 55) _ = _
                    simp only [Act.put, List.setIfInBounds_toArray, List.set_cons_zero, List.set_cons_succ, i64_w, i32_w]
                    rfl
                  exact norm_ (by simp only [putAll, Act.put, List.setIfInBounds_toArray, List.set_cons_zero, List.set_cons_succ]) (hCont (v5, wd.heap.size, wd.heap.size + 1) _ ⟨hR5, hB5, hb5⟩)
              rintro ⟨v5, b9, b1⟩ w5 ⟨hR5, hB5, hb5⟩
              dsimp only at hR5 hB5 ⊢
              have hHeld : w5.cell? (ad.add i) = some (.string x) := ((Below.cell hb5 (cell_lt2 cxd)).trans cxd)
              refine norm_ (a' := ?_) ?_ ?_
              rotate_left
              · simp only [putAll, Act.put, List.setIfInBounds_toArray, List.set_cons_zero, List.set_cons_succ]
                rfl
              refine one_ (i := 10) (N := some 61) #[true, true, true, true, true, true, true, true, true, true, true, true, true, true, false, false] rfl rfl (by kernel_rfl) (by decide) (fun K hK => ?_)
              refine catS (wd := wd) (by rfl) (.tmp 55) (.tmp 60) rfl (v := v5) (A := some ⟨b9, 0, none⟩) (m := 1) (c := 1) (ys := r.take k) (xs := [x]) (by rfl) (by rfl) hR5 (oneB hB5) hb5 hb_2 ?_
              intro v7 w7 hR7 hb7 hg7
              refine hK.out _ _ (((Below.cell hb7 (cell_lt2 cxd)).trans cxd)) (fun hHeld => ?_)
              clear hK K
              refine norm_ (a' := ?_) ?_ ?_
              rotate_left
              · show Act.put _ (some 61) _ = _
                simp only [Act.put, List.setIfInBounds_toArray, List.set_cons_zero, List.set_cons_succ, i64_w, i32_w]
                rfl
              refine one_ (i := 14) (N := some 65) #[true, true, true, true, true, true, true, true, true, true, true, true, true, true, true, false] rfl rfl (by kernel_rfl) (by decide) (fun K hK => ?_)
              refine catS (wd := wd) (by rfl) (.tmp 61) (.tmp 64) rfl (v := v7) (A := A') (m := r.length - k) (c := c - k) (ys := r.take k ++ [x]) (xs := r.drop k) (by rfl) (by first | rfl | (simp; done)) hR7 (Kd.C_below hCd hb7) hb7 hb_3 ?_
              intro v9 w9 hR9 hb9 hg9
              refine hK.out _ _ (((Below.cell hb9 (cell_lt2 cxd)).trans cxd)) (fun hHeld => ?_)
              clear hK K
              refine norm_ (a' := ?_) ?_ ?_
              rotate_left
              · show Act.put _ (some 65) _ = _
                simp only [Act.put, List.setIfInBounds_toArray, List.set_cons_zero, List.set_cons_succ, i64_w, i32_w]
                rfl
              refine pure_ (i := 15) (N := some 3) (v := ?_) (a' := ?_) #[true, true, true, true, true, true, true, true, true, true, true, true, true, true, true, true] rfl rfl (by kernel_rfl) (fun _ _ _ h => h) (Or.inl ⟨by rfl, ?_⟩) ?_ ?_
              rotate_left
              · intro w'
                go_simp
                with_reducible rfl
              rotate_left
              · simp only [Act.put, List.setIfInBounds_toArray, List.set_cons_zero, List.set_cons_succ, i64_w, i32_w]
                rfl
              refine done_ (by kernel_rfl) ?_
              obtain ⟨r', A9, c9, rfl, e1, e2, e3, e4, e5⟩ := HEND.out _ _ _ hBd hah hR9 hb9
              clear hR9 hb9 hHeld hCt hCd cxd
              go_wp2_with (fail)
              go_roundg (l0.length - (i + 1))
              case measure => omega
              case rel => exact ⟨i + 1, r', A9, c9, by omega, rfl, by rw [HWI.out], rfl, e1, e2, e3, e4, e5⟩
            · have p1 : decide ((0 : Int) < kk) = false := decide_eq_false (by omega)
              have HBB := Aside0.mk hb
              clear hb hR hk0 hkk
              go_wp2_with (fail)
              go_quiet (fail)
              obtain ⟨⟨hRz, cxz, hbz⟩, hah⟩ := HG10.out nq _ rfl
              clear cx
              generalize wc.drewN nq = wz at *
              have hBd := below_drew hbz
              have cxd : wz.drew.cell? (ad.add i) = some (.string x) := cxz
              have hCt := HCT.out _ (Kd.R_drew hRz)
              have hCd := HCD.out _ (Kd.R_drew hRz)
              clear hbz cxz hRz
              go_wp2_with (fail)
              refine start_ (n := 16) (S := fun w' => w'.cell? (ad.add i) = some (.string x)) (ds := []) #[false, false, false, false, false, false, false, false, false, false, false, false, false, false, false, false] (by kernel_rfl) rfl rfl (cxd) (fun hHeld => ?_)
              generalize wz.drew = wd at cxd hCt hCd hBd hHeld ⊢
              refine pure_ (i := 1) (N := some 52) (v := ?_) (a' := ?_) #[false, true, false, false, false, false, false, false, false, false, false, false, false, false, false, false] rfl rfl (by kernel_rfl) (fun _ _ _ h => h) (Or.inl ⟨by rfl, ?_⟩) ?_ ?_
              rotate_left
              · intro w'
                go_simp
                with_reducible rfl
              rotate_left
              · simp only [Act.put, List.setIfInBounds_toArray, List.set_cons_zero, List.set_cons_succ, i64_w, i32_w]
                rfl
              refine pure_ (i := 2) (N := some 53) (v := ?_) (a' := ?_) #[false, true, true, false, false, false, false, false, false, false, false, false, false, false, false, false] rfl rfl (by kernel_rfl) (fun _ _ _ h => h) (Or.inl ⟨by rfl, ?_⟩) ?_ ?_
              rotate_left
              · intro w'
                go_simp
                with_reducible rfl
              rotate_left
              · simp only [Act.put, List.setIfInBounds_toArray, List.set_cons_zero, List.set_cons_succ, i64_w, i32_w]
                rfl
              refine pure_ (i := 3) (N := some 54) (v := ?_) (a' := ?_) #[false, true, true, true, false, false, false, false, false, false, false, false, false, false, false, false] rfl rfl (by kernel_rfl) (fun _ _ _ h => h) (Or.inl ⟨by rfl, ?_⟩) ?_ ?_
              rotate_left
              · intro w'
                go_simp
                with_reducible rfl
              rotate_left
              · simp only [Act.put, List.setIfInBounds_toArray, List.set_cons_zero, List.set_cons_succ, i64_w, i32_w]
                rfl
              refine pure_ (i := 5) (N := some 56) (v := ?_) (a' := ?_) #[false, true, true, true, false, true, false, false, false, false, false, false, false, false, false, false] rfl rfl (by kernel_rfl) (fun _ _ _ h => h) (Or.inl ⟨by rfl, ?_⟩) ?_ ?_
              rotate_left
              · intro w'
                go_simp
                with_reducible rfl
              rotate_left
              · simp only [Act.put, List.setIfInBounds_toArray, List.set_cons_zero, List.set_cons_succ, i64_w, i32_w]
                rfl
              refine pure_ (i := 6) (N := some 57) (v := ?_) (a' := ?_) #[false, true, true, true, false, true, true, false, false, false, false, false, false, false, false, false] rfl rfl (by kernel_rfl) (fun _ _ _ h => h) (Or.inl ⟨by rfl, ?_⟩) ?_ ?_
              rotate_left
              · intro w'
                go_simp
                with_reducible rfl
              rotate_left
              · simp only [Act.put, List.setIfInBounds_toArray, List.set_cons_zero, List.set_cons_succ, i64_w, i32_w]
                rfl
              refine pure_ (i := 7) (N := some 58) (v := ?_) (a' := ?_) #[false, true, true, true, false, true, true, true, false, false, false, false, false, false, false, false] rfl rfl (by kernel_rfl) (fun _ _ _ h => h) (Or.inl ⟨by rfl, ?_⟩) ?_ ?_
              rotate_left
              · intro w'
                go_simp
                with_reducible rfl
              rotate_left
              · simp only [Act.put, List.setIfInBounds_toArray, List.set_cons_zero, List.set_cons_succ, i64_w, i32_w]
                rfl
              refine pure_ (i := 11) (N := some 62) (v := ?_) (a' := ?_) #[false, true, true, true, false, true, true, true, false, false, false, true, false, false, false, false] rfl rfl (by kernel_rfl) (fun _ _ _ h => h) (Or.inl ⟨by rfl, ?_⟩) ?_ ?_
              rotate_left
              · intro w'
                go_simp
                with_reducible rfl
              rotate_left
              · simp only [Act.put, List.setIfInBounds_toArray, List.set_cons_zero, List.set_cons_succ, i64_w, i32_w]
                rfl
              refine pure_ (i := 12) (N := some 63) (v := ?_) (a' := ?_) #[false, true, true, true, false, true, true, true, false, false, false, true, true, false, false, false] rfl rfl (by kernel_rfl) (fun _ _ _ h => h) (Or.inl ⟨by rfl, ?_⟩) ?_ ?_
              rotate_left
              · intro w'
                go_simp
                with_reducible rfl
              rotate_left
              · simp only [Act.put, List.setIfInBounds_toArray, List.set_cons_zero, List.set_cons_succ, i64_w, i32_w]
                rfl
              refine pure_ (i := 13) (N := some 64) (v := ?_) (a' := ?_) #[false, true, true, true, false, true, true, true, false, false, false, true, true, true, false, false] rfl rfl (by kernel_rfl) (fun _ _ _ h => h) (Or.inl ⟨by rfl, ?_⟩) ?_ ?_
              rotate_left
              · intro w'
                go_simp
                with_reducible rfl
              rotate_left
              · simp only [Act.put, List.setIfInBounds_toArray, List.set_cons_zero, List.set_cons_succ, i64_w, i32_w]
                rfl
              refine take_ (i := 8) (N := some 59) (v := ?_) (a' := ?_) #[false, true, true, true, false, true, true, true, true, false, false, true, true, true, false, false] rfl rfl (by kernel_rfl) (fun _ _ _ h => h) (Or.inl ⟨by rfl, ?_⟩) hHeld ?_ ?_
              rotate_left
              · intro w' s0
                go_simp
                with_reducible rfl
              rotate_left
              · simp only [Act.put, List.setIfInBounds_toArray, List.set_cons_zero, List.set_cons_succ, i64_w, i32_w]
                rfl
              refine join_ (σ := Value × Nat × Nat) 3 #[true, true, true, true, true, true, true, true, true, true, false, true, true, true, false, false] (fun s => [(51, .slice (some ⟨s.2.2, 0, none⟩) 0 0), (55, s.1), (60, .slice (some ⟨s.2.1, 0, none⟩) 1 1)]) (fun s w' => Kd.R Kd.string 9 w' wd.heap.size (fun _ => True) s.1 (r.take k) ∧ w'.heap[s.2.1]? = some (.cells #[.string x] 9 (0, 0)) ∧ Below wd.heap.size wd w') ?_ ?_
              rotate_left
              · intro hCont
                refine two_ (i := 0) (j := 9) (Ni := some 51) (Nj := some 60) #[true, true, true, true, false, true, true, true, true, false, false, true, true, true, false, false] #[false, true, true, true, false, true, true, true, true, true, false, true, true, true, false, false] rfl rfl rfl rfl (by kernel_rfl) (by decide) (by decide) (fun K hK => ?_) (fun K hK => ?_)
                · skip
                  refine value_ (w1 := ?_) (v := ?_) (by rfl) rfl ?_ ?_
                  rotate_left 2
                  · go_simp
                    constructor
                    · rfl
                    · rfl
                  have hw1 := newS wd (Nat.le_refl _)
                  have hb1 := below_alloc (Below.refl wd.heap.size wd) (.cells #[] 9)
                  refine hK.out _ _ (((Below.cell hb1 (cell_lt2 cxd)).trans cxd)) (fun hHeld => ?_)
                  clear hK K
                  refine norm_ (a' := ?_) ?_ ?_
                  rotate_left
                  · show Act.put _ (some 51) _ = _
                    simp only [Act.put, List.setIfInBounds_toArray, List.set_cons_zero, List.set_cons_succ, i64_w, i32_w]
                    rfl
                  refine two_ (i := 4) (j := 9) (Ni := some 55) (Nj := some 60) #[true, true, true, true, true, true, true, true, true, false, false, true, true, true, false, false] #[true, true, true, true, false, true, true, true, true, true, false, true, true, true, false, false] rfl rfl rfl rfl (by kernel_rfl) (by decide) (by decide) (fun K hK => ?_) (fun K hK => ?_)
                  · skip
                    refine catS (wd := wd) (by rfl) (.tmp 51) (.tmp 54) rfl (v := .slice (some ⟨wd.heap.size, 0, none⟩) 0 0) (A := _) (m := k) (c := c) (ys := []) (xs := r.take k) (by rfl) (by rfl) hw1 (Kd.C_below hCt hb1) hb1 hb_1 ?_
                    intro v5 w5 hR5 hb5 hg5
                    rw [List.nil_append] at hR5
                    refine hK.out _ _ (((Below.cell hb5 (cell_lt2 cxd)).trans cxd)) (fun hHeld => ?_)
                    clear hK K
                    refine norm_ (a' := ?_) ?_ ?_
                    rotate_left
                    · show Act.put _ (some 55) _ = _
                      simp only [Act.put, List.setIfInBounds_toArray, List.set_cons_zero, List.set_cons_succ, i64_w, i32_w]
                      rfl
                    refine one_ (i := 9) (N := some 60) #[true, true, true, true, true, true, true, true, true, true, false, true, true, true, false, false] rfl rfl (by kernel_rfl) (by decide) (fun K hK => ?_)
                    refine value_ (w1 := ?_) (v := ?_) (by rfl) rfl ?_ ?_
                    rotate_left 2
                    · go_simp
                      constructor
                      · rfl
                      · rfl
                    have hR6 := Kd.R_below hR5 (below_alloc (Below.refl _ w5) (.cells #[.string x] 9))
                    have hB6 := blk_new w5 (.cells #[.string x] 9)
                    have hb6 := hb5.trans ((below_alloc (Below.refl _ w5) (.cells #[.string x] 9)).mono hb5.size)
                    refine hK.out _ _ (((Below.cell hb6 (cell_lt2 cxd)).trans cxd)) (fun hHeld => ?_)
                    clear hK K
                    refine norm_ (a' := ?_) ?_ ?_
                    rotate_left
                    · show Act.put _ (some 60) _ = _
                      simp only [Act.put, List.setIfInBounds_toArray, List.set_cons_zero, List.set_cons_succ, i64_w, i32_w]
                      rfl
                    exact norm_ (by simp only [putAll, Act.put, List.setIfInBounds_toArray, List.set_cons_zero, List.set_cons_succ]) (hCont (v5, w5.heap.size, wd.heap.size) _ ⟨hR6, hB6, hb6⟩)
                  · skip
                    refine value_ (w1 := ?_) (v := ?_) (by rfl) rfl ?_ ?_
                    rotate_left 2
                    · go_simp
                      constructor
                      · rfl
                      · rfl
                    have hw2 := Kd.R_below hw1 (below_alloc (Below.refl _ _) (.cells #[.string x] 9))
                    have hB2 := blk_new (wd.alloc (.cells #[] 9)) (.cells #[.string x] 9)
                    rw [World.size_alloc] at hB2
                    have hb2 := hb1.trans ((below_alloc (Below.refl _ (wd.alloc (.cells #[] 9))) (.cells #[.string x] 9)).mono hb1.size)
                    refine hK.out _ _ (((Below.cell hb2 (cell_lt2 cxd)).trans cxd)) (fun hHeld => ?_)
                    clear hK K
                    refine norm_ (a' := ?_) ?_ ?_
                    rotate_left
                    · show Act.put _ (some 60) _ = _
                      simp only [Act.put, List.setIfInBounds_toArray, List.set_cons_zero, List.set_cons_succ, i64_w, i32_w]
                      rfl
                    refine one_ (i := 4) (N := some 55) #[true, true, true, true, true, true, true, true, true, true, false, true, true, true, false, false] rfl rfl (by kernel_rfl) (by decide) (fun K hK => ?_)
                    refine catS (wd := wd) (by rfl) (.tmp 51) (.tmp 54) rfl (v := .slice (some ⟨wd.heap.size, 0, none⟩) 0 0) (A := _) (m := k) (c := c) (ys := []) (xs := r.take k) (by rfl) (by rfl) hw2 (Kd.C_below hCt hb2) hb2 hb_1 ?_
                    intro v5 w5 hR5 hb5 hg5
                    rw [List.nil_append] at hR5
                    have hB5 := (hg5.block _ (blk_lt hB2) (by simp [Value.ownBlock])).trans hB2
                    refine hK.out _ _ (((Below.cell hb5 (cell_lt2 cxd)).trans cxd)) (fun hHeld => ?_)
                    clear hK K
                    refine norm_ (a' := ?_) ?_ ?_
                    rotate_left
                    · show Act.put _ (some 55) _ = _
                      simp only [Act.put, List.setIfInBounds_toArray, List.set_cons_zero, List.set_cons_succ, i64_w, i32_w]
                      rfl
                    exact norm_ (by simp only [putAll, Act.put, List.setIfInBounds_toArray, List.set_cons_zero, List.set_cons_succ]) (hCont (v5, wd.heap.size + 1, wd.heap.size) _ ⟨hR5, hB5, hb5⟩)
                · skip
                  refine value_ (w1 := ?_) (v := ?_) (by rfl) rfl ?_ ?_
                  rotate_left 2
                  · go_simp
                    constructor
                    · rfl
                    · rfl
                  have hB2 := blk_new wd (.cells #[.string x] 9)
                  have hb2 := below_alloc (Below.refl wd.heap.size wd) (.cells #[.string x] 9)
                  refine hK.out _ _ (((Below.cell hb2 (cell_lt2 cxd)).trans cxd)) (fun hHeld => ?_)
                  clear hK K
                  refine norm_ (a' := ?_) ?_ ?_
                  rotate_left
                  · show Act.put _ (some 60) _ = _
                    simp only [Act.put, List.setIfInBounds_toArray, List.set_cons_zero, List.set_cons_succ, i64_w, i32_w]
                    rfl
                  refine one_ (i := 0) (N := some 51) #[true, true, true, true, false, true, true, true, true, true, false, true, true, true, false, false] rfl rfl (by kernel_rfl) (by decide) (fun K hK => ?_)
                  refine value_ (w1 := ?_) (v := ?_) (by rfl) rfl ?_ ?_
                  rotate_left 2
                  · go_simp
                    constructor
                    · rfl
                    · rfl
                  have hw1 := newS (wd.alloc (.cells #[.string x] 9)) (B := wd.heap.size) (by rw [World.size_alloc]; omega)
                  rw [World.size_alloc] at hw1
                  have hb1 := hb2.trans ((below_alloc (Below.refl _ (wd.alloc (.cells #[.string x] 9))) (.cells #[] 9)).mono hb2.size)
                  have hB1 := blk_below hB2 (below_alloc (Below.refl _ (wd.alloc (.cells #[.string x] 9))) (.cells #[] 9))
                  refine hK.out _ _ (((Below.cell hb1 (cell_lt2 cxd)).trans cxd)) (fun hHeld => ?_)
                  clear hK K
                  refine norm_ (a' := ?_) ?_ ?_
                  rotate_left
                  · show Act.put _ (some 51) _ = _
                    simp only [Act.put, List.setIfInBounds_toArray, List.set_cons_zero, List.set_cons_succ, i64_w, i32_w]
                    rfl
                  refine one_ (i := 4) (N := some 55) #[true, true, true, true, true, true, true, true, true, true, false, true, true, true, false, false] rfl rfl (by kernel_rfl) (by decide) (fun K hK => ?_)
                  refine catS (wd := wd) (by rfl) (.tmp 51) (.tmp 54) rfl (v := .slice (some ⟨(wd.heap.size + 1), 0, none⟩) 0 0) (A := _) (m := k) (c := c) (ys := []) (xs := r.take k) (by rfl) (by rfl) hw1 (Kd.C_below hCt hb1) hb1 hb_1 ?_
                  intro v5 w5 hR5 hb5 hg5
                  rw [List.nil_append] at hR5
                  have hB5 := (hg5.block _ (blk_lt hB1) (by simp [Value.ownBlock])).trans hB1
                  refine hK.out _ _ (((Below.cell hb5 (cell_lt2 cxd)).trans cxd)) (fun hHeld => ?_)
                  clear hK K
                  refine norm_ (a' := ?_) ?_ ?_
                  rotate_left
                  · show Act.put _ (some 55) _ = _
                    simp only [Act.put, List.setIfInBounds_toArray, List.set_cons_zero, List.set_cons_succ, i64_w, i32_w]
                    rfl
                  exact norm_ (by simp only [putAll, Act.put, List.setIfInBounds_toArray, List.set_cons_zero, List.set_cons_succ]) (hCont (v5, wd.heap.size, wd.heap.size + 1) _ ⟨hR5, hB5, hb5⟩)
              rintro ⟨v5, b9, b1⟩ w5 ⟨hR5, hB5, hb5⟩
              dsimp only at hR5 hB5 ⊢
              have hHeld : w5.cell? (ad.add i) = some (.string x) := ((Below.cell hb5 (cell_lt2 cxd)).trans cxd)
              refine norm_ (a' := ?_) ?_ ?_
              rotate_left
              · simp only [putAll, Act.put, List.setIfInBounds_toArray, List.set_cons_zero, List.set_cons_succ]
                rfl
              refine one_ (i := 10) (N := some 61) #[true, true, true, true, true, true, true, true, true, true, true, true, true, true, false, false] rfl rfl (by kernel_rfl) (by decide) (fun K hK => ?_)
              refine catS (wd := wd) (by rfl) (.tmp 55) (.tmp 60) rfl (v := v5) (A := some ⟨b9, 0, none⟩) (m := 1) (c := 1) (ys := r.take k) (xs := [x]) (by rfl) (by rfl) hR5 (oneB hB5) hb5 hb_2 ?_
              intro v7 w7 hR7 hb7 hg7
              refine hK.out _ _ (((Below.cell hb7 (cell_lt2 cxd)).trans cxd)) (fun hHeld => ?_)
              clear hK K
              refine norm_ (a' := ?_) ?_ ?_
              rotate_left
              · show Act.put _ (some 61) _ = _
                simp only [Act.put, List.setIfInBounds_toArray, List.set_cons_zero, List.set_cons_succ, i64_w, i32_w]
                rfl
              refine one_ (i := 14) (N := some 65) #[true, true, true, true, true, true, true, true, true, true, true, true, true, true, true, false] rfl rfl (by kernel_rfl) (by decide) (fun K hK => ?_)
              refine catS (wd := wd) (by rfl) (.tmp 61) (.tmp 64) rfl (v := v7) (A := A') (m := r.length - k) (c := c - k) (ys := r.take k ++ [x]) (xs := r.drop k) (by rfl) (by first | rfl | (simp; done)) hR7 (Kd.C_below hCd hb7) hb7 hb_3 ?_
              intro v9 w9 hR9 hb9 hg9
              refine hK.out _ _ (((Below.cell hb9 (cell_lt2 cxd)).trans cxd)) (fun hHeld => ?_)
              clear hK K
              refine norm_ (a' := ?_) ?_ ?_
              rotate_left
              · show Act.put _ (some 65) _ = _
                simp only [Act.put, List.setIfInBounds_toArray, List.set_cons_zero, List.set_cons_succ, i64_w, i32_w]
                rfl
              refine pure_ (i := 15) (N := some 3) (v := ?_) (a' := ?_) #[true, true, true, true, true, true, true, true, true, true, true, true, true, true, true, true] rfl rfl (by kernel_rfl) (fun _ _ _ h => h) (Or.inl ⟨by rfl, ?_⟩) ?_ ?_
              rotate_left
              · intro w'
                go_simp
                with_reducible rfl
              rotate_left
              · simp only [Act.put, List.setIfInBounds_toArray, List.set_cons_zero, List.set_cons_succ, i64_w, i32_w]
                rfl
              refine done_ (by kernel_rfl) ?_
              obtain ⟨r', A9, c9, rfl, e1, e2, e3, e4, e5⟩ := HEND.out _ _ _ hBd hah hR9 hb9
              clear hR9 hb9 hHeld hCt hCd cxd
              go_wp2_with (fail)
              go_roundg (l0.length - (i + 1))
              case measure => omega
              case rel => exact ⟨i + 1, r', A9, c9, by omega, rfl, by rw [HWI.out], rfl, e1, e2, e3, e4, e5⟩
      · rw [decide_eq_false g] at kG hgd
        have HGD := Aside0.mk hgd
        clear hgd
        go_wp2_with (fail)
        refine (kG _).mono ?_
        clear kG
        rintro e w2 ⟨rfl, hb2⟩
        dsimp only
        go_wp2_with (fail)
        go_roundg (l0.length - (i + 1))
        case measure => omega
        case rel =>
          refine ⟨i + 1, r, A, c, by omega, rfl, by rw [HWI.out], rfl, Kd.R_below hR hb2, Nat.le_succ_of_le HRI.out, HST.out, fun z => ?_, hb.trans (hb2.mono hb.size)⟩
          rw [HM.out, HTK.out]
          constructor
          · rintro ⟨h1, h2⟩
            exact ⟨.inl h1, h2⟩
          · rintro ⟨h1 | rfl, h2⟩
            · exact ⟨h1, h2⟩
            · rw [HGD.out] at h2
              cases h2
    · have a1 : decide ((i : Int) < (l0.length : Int)) = false := decide_eq_false (by omega)
      rw [List.take_of_length_le (by omega)] at hm
      have e := srt_uniq hst hm
      have HE := Aside0.mk e
      have HR := Aside0.mk hR
      clear hm e hR hst
      go_wp2_with (fail)
      go_ret
      refine ⟨_, rfl, ?_, hb⟩
      have h := HR.out
      rw [← HE.out]
      exact h
theorem tallymanref7_Sort.calls (A0 : Option Addr) (c0 : Nat) (l0 : List ByteArray) (r : List ByteArray) (w : World) (hr0 : Kd.C Kd.string w A0 l0.length l0) (hc0 : l0.length ≤ c0) (h : tallymanref7_Sort.f l0 = some r) :
    Calls Tryd.prog 55 #[.slice A0 l0.length c0] w fun e w' => ∃ v0_ : Value, e = .returned (v0_) ∧ Kd.R Kd.string 9 w' w.heap.size (fun _ => True) v0_ r ∧ Below w.heap.size w w' := by
  unfold tallymanref7_Sort.f at h
  split at h
  · rename_i h1
    split at h
    · rename_i h2
      obtain rfl := Option.some.inj h
      exact RefSort_calls A0 c0 l0 w hr0 hc0 h1 fun x hx => of_decide_eq_true (List.all_eq_true.1 h2 x hx)
    · cases h
  · cases h
end Go.Proofs.YtidlldfghkaeeaaDoor.P
