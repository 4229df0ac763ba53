/- Put together by pack.py: Del -/
import Derived.Test.YtidlldfghkaeeaaDoorZmIdx
namespace Go.Proofs.YtidlldfghkaeeaaDoor.P
open Go.RowKit Go.Proofs.YtidlldfghkaeeaaDoorW.PrintWords Go.Proofs.YtidlldfghkaeeaaDoorW.PrintLast Go.Proofs.YtidlldfghkaeeaaDoorW.PrintMore
set_option linter.unusedVariables false
set_option linter.unusedSimpArgs false

theorem tail1 {W : World} {B b n c o : Nat} {xs : List ByteArray} (h : Kd.string.R 9 W B (fun _ => True) (.slice (some ⟨b, 0, none⟩) n c) xs) (ho : n ≤ o) (u : Value) : Kd.string.R 9 (W.setCell ⟨b, o, none⟩ u) B (fun _ => True) (.slice (some ⟨b, 0, none⟩) n c) xs := by
  have hn := (Kd.R_reads' h).1
  obtain ⟨h0, inner, ⟨hl, hv⟩, hr⟩ := h
  refine ⟨h0, inner, ⟨hl, .inr ?_⟩, hr⟩
  rcases hv with ⟨hv, _⟩ | ⟨g', cap, cur, hv, hB, hb, h1, h2, h3, h4⟩
  · cases hv
  · injection hv with hg _ hc
    injection hg with hg
    injection hg with hg
    subst hg
    subst hc
    refine ⟨b, c, cur.setIfInBounds o u, by rw [← hn], hB, blk_put hb o u rfl, h1, h2, by rw [Array.size_setIfInBounds]; exact h3, ?_⟩
    rw [← h4, Array.toList_setIfInBounds, List.take_set_of_le (by rw [show Kd.string.sz = 1 from rfl, Nat.mul_one]; omega)]
theorem tails {B b n c : Nat} {xs : List ByteArray} : ∀ (vs : List Value) (W : World) (o : Nat), Kd.string.R 9 W B (fun _ => True) (.slice (some ⟨b, 0, none⟩) n c) xs → n ≤ o → B ≤ b → Kd.string.R 9 (W.setCells b o vs) B (fun _ => True) (.slice (some ⟨b, 0, none⟩) n c) xs ∧ Below B W (W.setCells b o vs)
  | [], W, o, h, _, _ => ⟨h, Below.refl _ _⟩
  | v :: vs, W, o, h, ho, hB => by
    have h1 := tail1 h ho v
    have hb : Below B W (W.setCell ⟨b, o, none⟩ v) := (Below.refl B W).setCell (p := ⟨b, o, none⟩) hB v
    obtain ⟨h2, h3⟩ := tails vs _ (o + 1) h1 (by omega) hB
    exact ⟨h2, hb.trans h3⟩
theorem rowS {W : World} {B b n c : Nat} {xs : List ByteArray} (h : Kd.string.R 9 W B (fun _ => True) (.slice (some ⟨b, 0, none⟩) n c) xs) : (∀ j, j < n → (W.cell? ⟨b, j, none⟩).isSome = true) ∧ (∀ j, W.frozen? ⟨b, j, none⟩ = false) ∧ (∀ j x, xs[j]? = some x → W.cell? ⟨b, j, none⟩ = some (.string x)) ∧ B ≤ b ∧ b < W.heap.size := by
  obtain ⟨h0, inner, ⟨hl, hv⟩, hr⟩ := id h
  have hn := (Kd.R_reads' h).1
  rcases hv with ⟨hv, _⟩ | ⟨g', cap, cur, hv, hB, hb, h1, h2, h3, h4⟩
  · cases hv
  · injection hv with hg _ hc
    injection hg with hg
    injection hg with hg
    subst hg
    have key : ∀ j x, xs[j]? = some x → W.cell? ⟨b, j, none⟩ = some (.string x) := fun j x hx => by
      have hj := (List.getElem?_eq_some_iff.1 hx).1
      obtain ⟨cs, _, hM, hcc, _⟩ := Kd.R_elem h ByteArray.empty (j : Int) (by omega) (by omega)
      have e : cs = [.string x] := by
        rw [Int.toNat_natCast, List.getD_eq_getElem?_getD, hx] at hM
        exact hM
      subst e
      have := hcc 0 _ rfl
      rwa [show Kd.string.sz = 1 from rfl, Nat.mul_one, Nat.add_zero, Int.toNat_natCast] at this
    refine ⟨fun j hj => ?_, fun j => ?_, key, hB, blk_lt hb⟩
    · rw [key j xs[j] (List.getElem?_eq_getElem (by omega))]
      rfl
    · simp [World.frozen?, hb]
theorem zero9 (w : World) : (zeroValue 9).run Tryd.prog w = .ok (.string ByteArray.empty) w := by kernel_rfl
set_option maxHeartbeats 8000000 in
theorem DeleteFunc_calls (g : Nat) (p : ByteArray → Bool) (eg : ∀ args w, (callFunc g args).run Tryd.prog w = .ok (.enter g args) w) (B : Nat) (v : Value) (ps : List ByteArray) (w : World) (hR : Kd.string.R 9 w B (fun _ => True) v ps) (hB : B ≤ w.heap.size) (hl : ps.length ≤ 4611686018427387904) (hs : ∀ x ∈ ps, Tst g p x) :
    Calls Tryd.prog 92 #[v, .func (.func g) #[] #[]] w fun e w' => ∃ v', e = .returned v' ∧ Kd.string.R 9 w' B (fun _ => True) v' (ps.filter fun x => !p x) ∧ Below B w w' := by
  obtain ⟨A, c, rfl, hc, hC⟩ := Kd.R_reads hR
  have hI := IndexFunc_calls g p eg A c ps w hC (by omega) hs
  have HS := Aside0.mk hs
  have HL := Aside0.mk hl
  have HB := Aside0.mk hB
  clear hs hl hB
  go_enter Tryd.func92, Tryd.ntmps92
  go_wp2_with (fail)
  refine hI.mono ?_
  clear hI
  rintro e w2 ⟨r, rfl, hr, hb2⟩
  dsimp only
  rcases hr with ⟨rfl, hno⟩ | ⟨i0, rfl, hi0, hno, hyes⟩
  · have hf : ps.filter (fun x => !p x) = ps := List.filter_eq_self.2 (fun x hx => by rw [hno x hx]; rfl)
    have HF := Aside0.mk hf
    clear hf hno
    go_wp2_with (fail)
    go_ret
    refine ⟨_, rfl, ?_, hb2.mono HB.out⟩
    rw [HF.out]
    exact Kd.R_below hR hb2
  · obtain ⟨ad, hA, _⟩ := hC.2.2 (by omega)
    subst hA
    obtain ⟨b, rfl⟩ := Kd.R_head hR
    have HNO := Aside0.mk hno
    have HYES := Aside0.mk hyes
    clear hno hyes
    have hl := HL.out
    have hw0 : wrap64 ((i0 : Int) + 1) = ((i0 + 1 : Nat) : Int) := by unfold wrap64; omega
    have hne : decide ((i0 : Int) = -1) = false := decide_eq_false (by omega)
    clear hl
    go_wp2_with (fail)
    have hR2 := Kd.R_below hR hb2
    have hB2 := hb2.mono HB.out
    have HC := Aside0.mk hc
    clear hb2 hC hR hc
    go_loopg [5, 6, 7] (ps.length - (i0 + 1)) (fun gg s5 s6 s7 wr => ∃ (i j : Nat) (xs : List ByteArray), xs.length = ps.length ∧ i < j ∧ j ≤ ps.length ∧ gg = ps.length - j ∧ s5 = .int .i64 i ∧ s6 = .int .i64 j ∧ xs.take i = (ps.take j).filter (fun x => !p x) ∧ xs.drop j = ps.drop j ∧ Kd.string.R 9 wr B (fun _ => True) (.slice (some ⟨b, 0, none⟩) ps.length c) xs ∧ Below B w wr)
    case atStart =>
      refine ⟨i0, i0 + 1, ps, rfl, by omega, by omega, rfl, rfl, by rw [hw0], ?_, rfl, hR2, hB2⟩
      rw [List.take_add_one, List.getElem?_eq_getElem hi0, List.filter_append, List.filter_eq_self.2 (fun x hx => by rw [HNO.out x hx]; rfl)]
      simp [HYES.out ps[i0] (List.getElem?_eq_getElem hi0)]
    case round =>
      clear hw0
      obtain ⟨i, j, xs, hxl, hij, hj, rfl, rfl, rfl, htk, hdr, hX, hbw⟩ := hrel
      obtain ⟨hcell, hfro, hkey, hBb, hbs⟩ := rowS hX
      by_cases a : j < ps.length
      · have a1 : decide ((j : Int) < (ps.length : Int)) = true := decide_eq_true (by omega)
        have hxj : xs[j]? = some ps[j] := by
          have h := congrArg (fun l : List ByteArray => l[0]?) hdr
          simp only [List.getElem?_drop, Nat.add_zero, List.getElem?_eq_getElem a] at h
          exact h
        have hmem : ps[j] ∈ ps := List.getElem_mem a
        have hnx : ps.take (j + 1) = ps.take j ++ [ps[j]] := by
          rw [List.take_add_one, List.getElem?_eq_getElem a]
          rfl
        generalize ps[j] = x at *
        have c0 := hkey j x hxj
        obtain ⟨y, hy⟩ : ∃ y, xs[i]? = some y := ⟨_, List.getElem?_eq_getElem (by omega)⟩
        have hP := HS.out x hmem
        have hNX := Aside0.mk hnx
        have hTK := Aside0.mk htk
        have hDR := Aside0.mk hdr
        have hXJ := Aside0.mk hxj
        have hYI := Aside0.mk hy
        clear hnx htk hdr hxj hfro hcell hkey hy
        have hl := HL.out
        have hwj : wrap64 ((j : Int) + 1) = ((j + 1 : Nat) : Int) := by unfold wrap64; omega
        have hwi : wrap64 ((i : Int) + 1) = ((i + 1 : Nat) : Int) := by unfold wrap64; omega
        have HWJ := Aside0.mk hwj
        have HWI := Aside0.mk hwi
        clear hl hwj hwi
        unfold Tst at hP
        cases hx : p x with
        | true =>
          simp only [hx] at hP
          have HX := Aside0.mk hx
          clear hx
          go_wp2_with (go_at_fn g; refine (hP _).mono ?_; rintro e w3 ⟨rfl, hb3⟩)
          go_roundg (ps.length - (j + 1))
          case measure => omega
          case rel =>
            refine ⟨i, j + 1, xs, hxl, by omega, by omega, rfl, rfl, by rw [HWJ.out], ?_, ?_, Kd.R_below hX hb3, hbw.trans (hb3.mono (by omega))⟩
            · rw [hNX.out, List.filter_append, hTK.out]
              simp [HX.out]
            · rw [← List.drop_drop, ← List.drop_drop, hDR.out]
        | false =>
          simp only [hx] at hP
          have HX := Aside0.mk hx
          clear hx
          go_wp2_with (go_at_fn g; refine (hP _).mono ?_; rintro e w3 ⟨rfl, hb3⟩; have hX3 := Kd.R_below hX hb3; obtain ⟨_, hfro, hkey, _, _⟩ := rowS hX3; have c3 := hkey i y hYI.out; have f3 := hfro i; clear hfro hkey)
          go_roundg (ps.length - (j + 1))
          case measure => omega
          case rel =>
            refine ⟨i + 1, j + 1, xs.set i x, by rw [List.length_set, hxl], by omega, by omega, rfl, by rw [HWI.out], by rw [HWJ.out], ?_, ?_, Kd.R_putn hX3 (i : Int) x, (hbw.trans (hb3.mono (by omega))).setCell hBb _⟩
            · rw [hNX.out, List.filter_append, ← hTK.out, List.take_add_one, List.getElem?_set_self (by omega), List.take_set_of_le (Nat.le_refl _)]
              simp [HX.out]
            · rw [List.drop_set_of_lt (by omega), ← List.drop_drop, ← List.drop_drop, hDR.out]
      · have a1 : decide ((j : Int) < (ps.length : Int)) = false := decide_eq_false (by omega)
        obtain rfl : j = ps.length := by omega
        rw [List.take_of_length_le (Nat.le_refl _)] at htk
        have hxx : xs.length ≤ c := hxl ▸ HC.out
        have hin : i < ps.length := hij
        have hcl : ∀ ty, (Builtin.clear_ #[52] ty #[.slice (some ⟨b, i, none⟩) (ps.length - i) (c - i)]).run Tryd.prog wr = .ok (.tuple #[]) (wr.setCells b i (List.replicate (ps.length - i) (.string ByteArray.empty))) := fun ty =>
          Go.Lib.run_clear_slice (P := Tryd.prog) wr 52 9 ty (.string ByteArray.empty) Tryd.underlying52 zero9 rfl rfl b i (ps.length - i) (c - i) (by omega) (fun k hk => hcell (i + k) (by omega)) (fun k hk => hfro (i + k))
        have hTK := Aside0.mk htk
        clear htk hdr hcell hfro hkey
        go_wp2_with (fail)
        go_ret
        obtain ⟨h1, h2⟩ := tails (List.replicate (ps.length - i) (.string ByteArray.empty)) wr i (Kd.R_take hX (by omega)) (Nat.le_refl _) hBb
        rw [hTK.out] at h1
        exact ⟨_, rfl, h1, hbw.trans h2⟩
end Go.Proofs.YtidlldfghkaeeaaDoor.P
