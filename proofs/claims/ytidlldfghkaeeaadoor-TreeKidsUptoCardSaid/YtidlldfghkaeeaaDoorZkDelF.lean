/- Put together by pack.py: DelF -/
import Derived.Test.YtidlldfghkaeeaaDoorZkDelE
import Derived.Test.YtidlldfghkaeeaaDoorZkRefT
namespace Go.Proofs.YtidlldfghkaeeaaDoor.P
open Go.RowKit Go.Proofs.YtidlldfghkaeeaaDoorW.PrintWords Go.Proofs.YtidlldfghkaeeaaDoorW.PrintLast Go.Proofs.YtidlldfghkaeeaaDoorW.PrintMore
set_option linter.unusedVariables false
set_option linter.unusedSimpArgs false

structure StopF (p : Prop) : Prop where
  out : p
/-- Whether a path lies where a receiver works. -/
def insB (x : S30) : Bool := decide (insideL x.f0.data.toList)
set_option maxHeartbeats 8000000 in
set_option maxRecDepth 100000 in
theorem clean1_calls (x : S30) (A : Option Addr) (n c : Nat) (w : World) (hs : x.f0.size < 4294967280) :
    Calls Tryd.prog 77 #[.agg #[.string x.f0, .bool x.f1, .slice A n c]] w fun e w' => e = .returned (.bool (insB x)) ∧ Below w.heap.size w w' := by
  have hu30 := Tryd.underlying30
  have hi : path_Inside.f x.f0 = some (insB x) := Inside_eq hs
  have b1 := below_alloc (Below.refl w.heap.size w) (.cells #[.string x.f0, .bool x.f1, .slice A n c] 30)
  go_enter Tryd.func77, Tryd.ntmps77
  go_wp2_with (fail)
  refine (path_Inside.calls x.f0 (insB x) _ hi).mono ?_
  rintro e W2 ⟨rfl, hb⟩
  have b2 := b1.trans (hb.mono b1.size)
  dsimp only
  go_wp2_with (fail)
  go_ret
  exact ⟨rfl, b2⟩
/-- The first of those; if there is none, -1. -/
def idxF (f : S30 → Bool) (l : List S30) : Int := if ∃ i, ∃ h : i < l.length, f l[i] = true then (l.findIdx f : Int) else -1
theorem idxF_some {f : S30 → Bool} {l : List S30} {i : Nat} (h : i < l.length) (hf : f l[i] = true) (hn : ∀ j (hj : j < l.length), j < i → f l[j] = false) : idxF f l = (i : Int) := by
  unfold idxF
  rw [if_pos ⟨i, h, hf⟩]
  congr 1
  rw [List.findIdx_eq h]
  exact ⟨hf, fun j hj => hn j (by omega) hj⟩
theorem idxF_none {f : S30 → Bool} {l : List S30} (hn : ∀ j (hj : j < l.length), f l[j] = false) : idxF f l = -1 := by
  unfold idxF
  rw [if_neg (fun ⟨i, h, hf⟩ => by rw [hn i h] at hf; cases hf)]
set_option maxHeartbeats 8000000 in
set_option maxRecDepth 100000 in
theorem IndexFE_calls (A0 : Option Addr) (c0 : Nat) (l0 : List S30) (w : World) (hr0 : Kd.C k30 w A0 l0.length l0) (hl : l0.length ≤ 100000) (hs : ∀ x ∈ l0, x.f0.size < 4294967280) :
    Calls Tryd.prog 104 #[.slice A0 l0.length c0, .func (.func 77) #[] #[]] w fun e w' => e = .returned (.int .i64 (idxF insB l0)) ∧ Below w.heap.size w w' := by
  have HR := Aside0.mk hr0
  have HL := Aside0.mk hl
  have HS := Aside0.mk hs
  clear hr0 hl hs
  obtain ⟨res, hres⟩ : ∃ res, res = idxF insB l0 := ⟨_, rfl⟩
  rw [← hres]
  have HRES := Aside0.mk hres
  clear hres
  go_enter Tryd.func104, Tryd.ntmps104
  go_wp2_with (fail)
  go_loopg [8] l0.length (fun gg s8 wr => ∃ i : Nat, i ≤ l0.length ∧ gg = l0.length - i ∧ s8 = .int .i64 i ∧ (∀ j (hj : j < l0.length), j < i → insB l0[j] = false) ∧ Below w.heap.size w wr)
  case atStart => exact ⟨0, Nat.zero_le _, rfl, rfl, fun j _ h => absurd h (Nat.not_lt_zero j), Below.refl _ _⟩
  case round =>
    obtain ⟨i, hi, rfl, rfl, hS, hB⟩ := hrel
    have HSS := Aside0.mk hS
    clear hS
    by_cases a : i < l0.length
    · have a1 : decide ((i : Int) < (l0.length : Int)) = true := decide_eq_true (by omega)
      have a2 : decide (0 ≤ (i : Int)) = true := decide_eq_true (by omega)
      obtain ⟨ad, A9, c9, rfl, k0, k1, k2, k3, k4⟩ := atT (Kd.C_below HR.out hB) i a
      have hone := fun W => clean1_calls l0[i] A9 l0[i].f2.length c9 W (HS.out _ (List.getElem_mem a))
      have hidx := fun (h : insB l0[i] = true) => idxF_some a h HSS.out
      obtain ⟨X, hX⟩ : ∃ X, X = l0[i] := ⟨_, rfl⟩
      rw [← hX] at k0 k1 k2 hone hidx
      have HX := Aside0.mk hX
      have HIX := Aside0.mk hidx
      have HWI : Aside0 (wrap64 ((i : Int) + 1) = ((i + 1 : Nat) : Int)) := ⟨wr1 (by have := HL.out; omega)⟩
      obtain ⟨ss, hss⟩ : ∃ ss, ss = insB X := ⟨_, rfl⟩
      rw [← hss] at hone
      have HSQ := Aside0.mk hss
      clear hX hidx hss k3 k4
      go_wp2_with (fail)
      refine (hone _).mono ?_
      rintro e W2 ⟨rfl, hb2⟩
      have hB2 := hB.trans (hb2.mono hB.size)
      clear hone hb2 k0 k1 k2 hB
      dsimp only
      cases ss with
      | true =>
        go_wp2_with (fail)
        go_ret
        exact ⟨by rw [HRES.out, HIX.out HSQ.out.symm]; rfl, hB2⟩
      | false =>
        go_wp2_with (fail)
        go_roundg (l0.length - (i + 1))
        case measure => omega
        case rel =>
          refine ⟨i + 1, a, rfl, by rw [HWI.out], fun j hj h => ?_, hB2⟩
          rcases Nat.lt_or_ge j i with h1 | h1
          · exact HSS.out j hj h1
          · obtain rfl : j = i := by omega
            rw [← HX.out]
            exact HSQ.out.symm
    · have a1 : decide ((i : Int) < (l0.length : Int)) = false := decide_eq_false (by omega)
      have hr : res = -1 := HRES.out.trans (idxF_none fun j hj => HSS.out j hj (by omega))
      have HR2 := Aside0.mk hr
      clear hr
      go_wp2_with (fail)
      go_ret
      exact ⟨by rw [HR2.out]; rfl, hB⟩
/-- A row cut short. -/
theorem NB.shrink {W : World} {base : Nat} {ok : Nat → Prop} {g n cap : Nat} {rows : List (List Value)} {tail : List Value} {xs : List S30} (h : NB W base ok g n cap rows tail xs) {i : Nat} (hi : i ≤ n) : NB W base ok g i cap (rows.take i) ((rows.drop i).flatten ++ tail) (xs.take i) := by
  have h3 : ∀ r ∈ rows, r.length = 3 := fun r hr => (h.hw r hr).1
  have hfl := flat_len h3
  have hl := h.hl
  have hn := h.hn
  have hc := h.hc
  refine ⟨?_, h.hg, h.hok, by rw [List.length_take]; omega, by omega, h.hm, by rw [List.length_take]; omega, fun r hr => h.hw r (List.mem_of_mem_take hr), ?_, fun j x c hx hcc => ?_⟩
  · rw [← List.append_assoc, ← List.flatten_append, List.take_append_drop]
    exact h.hb
  · have h4 : (rows.drop i).flatten.length = (n - i) * 3 := by rw [← flat_drop i h3, List.length_drop, hfl, hl]; omega
    rw [List.length_append, h4, h.ht]
    omega
  · have hj : j < i := by
      have := (List.getElem?_eq_some_iff.1 hx).1
      rw [List.length_take] at this
      omega
    rw [List.getElem?_take_of_lt hj] at hx hcc
    exact h.hf j x c hx hcc
theorem N_shrink {W : World} {base : Nat} {ok : Nat → Prop} {g n cap : Nat} {xs : List S30} (h : Kd.N k30 30 W base ok (.slice (some ⟨g, 0, none⟩) n cap) xs) {i : Nat} (hi : i ≤ n) : Kd.N k30 30 W base ok (.slice (some ⟨g, 0, none⟩) i cap) (xs.take i) := by
  obtain ⟨rows, tail, hNB⟩ := N_NB h
  exact NB_N (hNB.shrink hi)
/-- An element of a row: its cells, and what they lead to. -/
theorem N_elem {W : World} {base : Nat} {ok : Nat → Prop} {g n cap : Nat} {xs : List S30} (h : Kd.N k30 30 W base ok (.slice (some ⟨g, 0, none⟩) n cap) xs) {j : Nat} (hj : j < xs.length) : ∃ A c, Kd.FK k30 W (fun k => ok k ∧ k ≠ g) xs[j] [.string xs[j].f0, .bool xs[j].f1, .slice A xs[j].f2.length c] ∧ (∀ q u, [Value.string xs[j].f0, .bool xs[j].f1, .slice A xs[j].f2.length c][q]? = some u → W.cell? ⟨g, j * 3 + q, none⟩ = some u) := by
  obtain ⟨rows, tail, hNB⟩ := N_NB h
  have h3 : ∀ r ∈ rows, r.length = 3 := fun r hr => (hNB.hw r hr).1
  have hfl := flat_len h3
  have hl := hNB.hl
  have hn := hNB.hn
  have hjr : j < rows.length := by omega
  have hf := hNB.hf j xs[j] rows[j] (List.getElem?_eq_getElem hj) (List.getElem?_eq_getElem hjr)
  obtain ⟨A, c, he, _, _⟩ := k30_openF hf
  refine ⟨A, c, he ▸ hf, fun q u hq => ?_⟩
  rw [← he] at hq
  have hq3 : q < 3 := by
    have := (List.getElem?_eq_some_iff.1 hq).1
    rw [h3 _ (List.getElem_mem hjr)] at this
    exact this
  rw [blk_cell hNB.hb]
  rw [List.getElem?_toArray, List.getElem?_append_left (by rw [hfl]; omega)]
  have hd := flat_drop j h3
  have : rows.flatten[j * 3 + q]? = (rows.flatten.drop (j * 3))[q]? := by rw [List.getElem?_drop]
  rw [this, hd, List.drop_eq_getElem_cons hjr, List.flatten_cons, List.getElem?_append_left (by rw [h3 _ (List.getElem_mem hjr)]; exact hq3)]
  exact hq
/-- Two cuts of a row, and one element put. -/
theorem set_keep {l xs : List S30} {f : S30 → Bool} {i j : Nat} (hl : xs.length = l.length) (hij : i < j) (hj : j < l.length) (h1 : xs.take i = (l.take j).filter fun x => !f x) (h2 : xs.drop j = l.drop j) (hf : f l[j] = false) : (xs.set i l[j]).take (i + 1) = (l.take (j + 1)).filter (fun x => !f x) ∧ (xs.set i l[j]).drop (j + 1) = l.drop (j + 1) := by
  constructor
  · have hi : i < xs.length := by omega
    rw [List.take_add_one (l := l), List.getElem?_eq_getElem hj, List.filter_append, ← h1]
    rw [List.take_add_one (l := xs.set i l[j]), List.take_set_of_le (Nat.le_refl _), List.getElem?_set_self hi]
    simp [hf]
  · rw [List.drop_set_of_lt (by omega), ← List.drop_drop, ← List.drop_drop (i := 1) (j := j) (l := l), h2]
theorem skip_keep {l xs : List S30} {f : S30 → Bool} {i j : Nat} (hj : j < l.length) (h1 : xs.take i = (l.take j).filter fun x => !f x) (h2 : xs.drop j = l.drop j) (hf : f l[j] = true) : xs.take i = (l.take (j + 1)).filter (fun x => !f x) ∧ xs.drop (j + 1) = l.drop (j + 1) := by
  constructor
  · rw [List.take_add_one, List.getElem?_eq_getElem hj, List.filter_append, ← h1]
    simp [hf]
  · rw [← List.drop_drop, ← List.drop_drop (i := 1) (j := j) (l := l), h2]
theorem first_keep {l : List S30} {f : S30 → Bool} {i : Nat} (hi : i < l.length) (hf : f l[i] = true) (hn : ∀ j (hj : j < l.length), j < i → f l[j] = false) : l.take i = (l.take (i + 1)).filter fun x => !f x := by
  rw [List.take_add_one, List.getElem?_eq_getElem hi, List.filter_append]
  have : (l.take i).filter (fun x => !f x) = l.take i := List.filter_eq_self.2 fun x hx => by
    obtain ⟨j, hj, rfl⟩ := List.mem_take_iff_getElem.1 hx
    rw [hn j (by omega) (by omega)]
    rfl
  rw [this]
  simp [hf]
theorem idxF_cases (f : S30 → Bool) (l : List S30) : (idxF f l = -1 ∧ ∀ x ∈ l, f x = false) ∨ ∃ i, ∃ h : i < l.length, idxF f l = (i : Int) ∧ f l[i] = true ∧ ∀ j (hj : j < l.length), j < i → f l[j] = false := by
  by_cases h : ∃ x ∈ l, f x = true
  · obtain ⟨x, hx, hf⟩ := h
    have hlt : l.findIdx f < l.length := List.findIdx_lt_length_of_exists ⟨x, hx, hf⟩
    refine .inr ⟨l.findIdx f, hlt, ?_, List.findIdx_getElem, fun j hj h => ?_⟩
    · unfold idxF
      rw [if_pos ⟨_, hlt, List.findIdx_getElem⟩]
    · simpa using List.not_of_lt_findIdx h
  · have hn : ∀ x ∈ l, f x = false := fun x hx => by
      cases hf : f x with
      | false => rfl
      | true => exact absurd ⟨x, hx, hf⟩ h
    exact .inl ⟨idxF_none fun j hj => hn _ (List.getElem_mem hj), hn⟩
/-- clear of what lies behind a row; no other block turns. -/
theorem clear_tailK {W : World} {base : Nat} {ok : Nat → Prop} {g n cap : Nat} {xs : List S30} (h : Kd.N k30 30 W base ok (.slice (some ⟨g, 0, none⟩) n cap) xs) (k : Nat) (hk : 0 < k) (hc : n + k ≤ cap) : ∃ W' : World, (∀ ty c', (Builtin.clear_ #[22] ty #[.slice (some ⟨g, n * 3, none⟩) k c']).run Tryd.prog W = .ok (.tuple #[]) W') ∧ Kd.N k30 30 W' base ok (.slice (some ⟨g, 0, none⟩) n cap) xs ∧ (∀ B w, Below B w W → B ≤ base → Below B w W') ∧ ∀ j, j ≠ g → W'.heap[j]? = W.heap[j]? := by
  obtain ⟨rows, tail, hNB⟩ := N_NB h
  have hfl := flat_len (fun r hr => (hNB.hw r hr).1)
  have hl := hNB.hl
  have ht := hNB.ht
  have hsz : (rows.flatten ++ tail).toArray.size = cap * 3 := by
    rw [List.size_toArray, List.length_append, hfl, ht, hl]
    have := hNB.hc
    omega
  have e : ∀ zs : List Value, zs.length = k * 3 → ((rows.flatten ++ tail).toArray.toList.take (n * 3) ++ zs ++ (rows.flatten ++ tail).toArray.toList.drop (n * 3 + k * 3)) = rows.flatten ++ (zs ++ tail.drop (k * 3)) := fun zs hz => by
    rw [List.toList_toArray, List.take_append_of_le_length (by rw [hfl, hl]; exact Nat.le_refl _), List.take_of_length_le (by rw [hfl, hl]; exact Nat.le_refl _), List.append_assoc, List.drop_append, List.drop_of_length_le (l := rows.flatten) (by rw [hfl, hl]; omega), List.nil_append, hfl, hl, show n * 3 + k * 3 - n * 3 = k * 3 by omega]
  obtain ⟨zs, hzl, hrun⟩ := run_clear3 W g (n * 3) k _ hNB.hb hk (by rw [hsz]; omega)
  refine ⟨W.setRow g (rows.flatten ++ (zs ++ tail.drop (k * 3))).toArray, fun ty c' => ?_, NB_N (hNB.tail (by rw [List.length_append, hzl, List.length_drop, ht]; have := hNB.hc; omega)), fun B w hb hB => below_setRow hb (Nat.le_trans hB hNB.hg) _, fun j hj => setRow_other _ _ _ _ hj⟩
  rw [← e zs hzl]
  exact hrun ty c'
set_option maxHeartbeats 8000000 in
set_option maxRecDepth 100000 in
theorem DeleteFE_calls (B : Nat) (ok : Nat → Prop) (v0 : Value) (l : List S30) (w : World) (h : Kd.N k30 30 w B ok v0 l) (hB : B ≤ w.heap.size) (hl : l.length ≤ 100000) (hs : ∀ x ∈ l, x.f0.size < 4294967280) (hfresh : ∀ k, w.heap.size ≤ k → ok k) :
    Calls Tryd.prog 76 #[v0, .func (.func 77) #[] #[]] w fun e w' => ∃ v', e = .returned v' ∧ Kd.N k30 30 w' B ok v' (l.filter fun x => !insB x) ∧ Below B w w' ∧ ∀ k, k < w.heap.size → some k ≠ v0.ownBlock → w'.heap[k]? = w.heap[k]? := by
  have hu30 := Tryd.underlying30
  obtain ⟨A0, c0, rfl⟩ := Kd.N_slice h
  have hC := (Kd.N_reads' h).2.2
  have kI := IndexFE_calls A0 c0 l w hC hl hs
  have HS := Aside0.mk hs
  have HL := Aside0.mk hl
  rcases idxF_cases insB l with ⟨hidx, hno⟩ | ⟨i, hi, hidx, hf, hno⟩
  · rw [hidx] at kI
    have hfl : (l.filter fun x => !insB x) = l := List.filter_eq_self.2 fun x hx => by rw [hno x hx]; rfl
    have HFL := Aside0.mk hfl
    have HN := Aside0.mk h
    clear hno hfl h hC hs hl hfresh hidx
    go_enter Tryd.func76, Tryd.ntmps76
    go_wp2_with (fail)
    refine kI.mono ?_
    rintro e W1 ⟨rfl, hb1⟩
    dsimp only
    go_wp2_with (fail)
    go_ret
    exact ⟨_, rfl, by rw [HFL.out]; exact Kd.N_below HN.out hb1, hb1.mono hB, fun k hk _ => hb1.block k hk⟩
  · obtain ⟨g, c, he, hg1, hg2, _⟩ := Kd.N_form h (by omega)
    injection he with hA _ hc
    subst hA
    subst hc
    rw [hidx] at kI
    have hft := first_keep hi hf hno
    have HFT := Aside0.mk hft
    have HN := Aside0.mk h
    have hnc := (Kd.N_reads' h).2.1
    have hneg : ((i : Int) == -1) = false := beq_eq_false_iff_ne.2 (by omega)
    have hw1 : wrap64 ((i : Int) + 1) = ((i + 1 : Nat) : Int) := wr1 (by omega)
    have HFR := Aside0.mk hfresh
    have HF := Aside0.mk hf
    obtain ⟨n, hn⟩ : ∃ n, n = l.length := ⟨_, rfl⟩
    rw [← hn] at kI hi hnc ⊢
    have HNL := Aside0.mk hn
    clear hft hf hno h hC hs hl hfresh hidx hn
    go_enter Tryd.func76, Tryd.ntmps76
    go_wp2_with (fail)
    refine kI.mono ?_
    rintro e W1 ⟨rfl, hb1⟩
    have HB1 := Aside0.mk hb1
    clear kI hb1
    dsimp only
    go_wp2_with (fail)
    go_loopg [5, 6] (n - (i + 1)) (fun gg s5 s6 wr => ∃ (a b : Nat) (xs : List S30), a < b ∧ b ≤ n ∧ gg = n - b ∧ s5 = .int .i64 a ∧ s6 = .int .i64 b ∧ xs.length = n ∧ xs.take a = (l.take b).filter (fun x => !insB x) ∧ xs.drop b = l.drop b ∧ Kd.N k30 30 wr B ok (.slice (some ⟨g, 0, none⟩) n c0) xs ∧ Below B w wr ∧ ∀ k, k < w.heap.size → k ≠ g → wr.heap[k]? = w.heap[k]?)
    case atStart => exact ⟨i, i + 1, l, by omega, by omega, rfl, rfl, by first | rw [hw1] | (simp; done), HNL.out.symm, HFT.out, rfl, by have h := Kd.N_below HN.out HB1.out; rw [← HNL.out] at h; exact h, HB1.out.mono hB, fun k hk _ => HB1.out.block k hk⟩
    case round =>
      clear hw1 hneg hi
      obtain ⟨a, b, xs, hab, hbn, rfl, rfl, rfl, hxl, htk, hdr, hN, hBB, hKK⟩ := hrel
      have HKK := Aside0.mk hKK
      have HWS : Aside0 (w.heap.size ≤ wr.heap.size) := ⟨hBB.size⟩
      clear hKK
      have HTK := Aside0.mk htk
      have HDR := Aside0.mk hdr
      have HAB := Aside0.mk hab
      have HXL := Aside0.mk hxl
      by_cases q : b < n
      · have p1 : decide ((b : Int) < (n : Int)) = true := decide_eq_true (by omega)
        have p2 : decide (0 ≤ (b : Int)) = true := decide_eq_true (by omega)
        have hbl : b < l.length := by rw [← HNL.out]; exact q
        have hbx : b < xs.length := by omega
        have hxe : xs[b] = l[b] := by
          have h1 := List.drop_eq_getElem_cons hbx
          have h2 := List.drop_eq_getElem_cons hbl
          rw [hdr, h2] at h1
          injection h1 with h1 _
          exact h1.symm
        obtain ⟨A5, c5, hFK, hcell⟩ := N_elem hN hbx
        rw [hxe] at hFK hcell
        have hone := fun W => clean1_calls l[b] A5 l[b].f2.length c5 W (HS.out _ (List.getElem_mem hbl))
        have hskip := fun h => skip_keep (f := insB) hbl HTK.out HDR.out h
        have hset := fun h => set_keep (f := insB) (by rw [HXL.out]; exact HNL.out) HAB.out hbl HTK.out HDR.out h
        obtain ⟨X, hX⟩ : ∃ X, X = l[b] := ⟨_, rfl⟩
        rw [← hX] at hFK hcell hone hskip hset
        have m0 := hcell 0 _ rfl
        have m1 := hcell 1 _ rfl
        have m2 := hcell 2 _ rfl
        obtain ⟨ss, hss⟩ : ∃ ss, ss = insB X := ⟨_, rfl⟩
        rw [← hss] at hone hskip hset
        have HSK := Aside0.mk hskip
        have HSE := Aside0.mk hset
        have HFK := Aside0.mk hFK
        have HN5 := Aside0.mk hN
        have HWB : Aside0 (wrap64 ((b : Int) + 1) = ((b + 1 : Nat) : Int)) := ⟨wr1 (by have := HL.out; omega)⟩
        have HWA : Aside0 (wrap64 ((a : Int) + 1) = ((a + 1 : Nat) : Int)) := ⟨wr1 (by have := HL.out; omega)⟩
        clear hX hss hskip hset hFK hcell hxe htk hdr hN hab hxl
        rw [Nat.add_zero] at m0
        obtain ⟨n2, hn2⟩ : ∃ n2, n2 = X.f2.length := ⟨_, rfl⟩
        rw [← hn2] at m2 hone HFK
        have HN2 := Aside0.mk hn2
        clear hn2
        have hNa := Kd.N_alloc HN5.out (.cells #[.string X.f0, .bool X.f1, .slice A5 n2 c5] 30)
        have hFa := Kd.FK_below HFK.out (below_alloc (Below.refl _ wr) (.cells #[.string X.f0, .bool X.f1, .slice A5 n2 c5] 30))
        have bka := blk_new wr (.cells #[.string X.f0, .bool X.f1, .slice A5 n2 c5] 30)
        have hBW : B ≤ wr.heap.size := Nat.le_trans hB hBB.size
        have bBa := hBB.trans ((below_alloc (Below.refl _ wr) (.cells #[.string X.f0, .bool X.f1, .slice A5 n2 c5] 30)).mono hBW)
        have hgl : g < wr.heap.size := Kd.N_lt HN5.out g rfl
        have HBW := Aside0.mk hBW
        clear hBB HN5 HFK hBW
        go_wp2_with (fail)
        refine (hone _).mono ?_
        clear hone m0 m1 m2
        rintro e W3 ⟨rfl, hb3⟩
        have hN3 := Kd.N_below hNa hb3
        have hF3 := Kd.FK_below hFa hb3
        have bk3 := (hb3.block _ (blk_lt bka)).trans bka
        have bB3 := bBa.trans (hb3.mono (by rw [World.size_alloc]; have := HBW.out; omega))
        have HK3 : Aside0 (∀ k, k < w.heap.size → k ≠ g → W3.heap[k]? = w.heap[k]?) := ⟨fun k hk hne => (hb3.block k (by rw [World.size_alloc]; have := HWS.out; omega)).trans (((below_alloc (Below.refl _ wr) _).block k (by have := HWS.out; omega)).trans (HKK.out k hk hne))⟩
        clear hNa hFa bka bBa hb3
        dsimp only
        cases ss with
        | true =>
          have hsk := HSK.out rfl
          have HSK2 := Aside0.mk hsk
          clear hsk
          go_wp2_with (fail)
          go_roundg (n - (b + 1))
          case measure => omega
          case rel => exact ⟨a, b + 1, xs, by have := HAB.out; omega, by omega, rfl, rfl, by rw [HWB.out], HXL.out, HSK2.out.1, HSK2.out.2, hN3, bB3, HK3.out⟩
        | false =>
          have hse := HSE.out rfl
          have HSE2 := Aside0.mk hse
          have hax : a < xs.length := by have := HAB.out; have := HXL.out; omega
          obtain ⟨A7, c7, _, hcc⟩ := N_elem hN3 hax
          have e0 := blk_cell bk3 0
          have e1 := blk_cell bk3 1
          have e2 := blk_cell bk3 2
          have han : a < n := by have := HAB.out; omega
          have p3 : decide ((a : Int) < (n : Int)) = true := decide_eq_true (by have := HAB.out; omega)
          have p4 : decide (0 ≤ (a : Int)) = true := decide_eq_true (by omega)
          have HCC : Aside0 (∀ (j : Nat) (u : Value), [Value.string xs[a].f0, .bool xs[a].f1, .slice A7 xs[a].f2.length c7][j]? = some u → W3.cell? ⟨g, (a : Int).toNat * 3 + j, none⟩ = some u) := ⟨by rw [Int.toNat_natCast]; exact hcc⟩
          have HN3 := Aside0.mk hN3
          have HF3 : Aside0 (Kd.FK k30 W3 (fun k => (ok k ∧ k ≠ g) ∧ k < W3.heap.size) X [.string X.f0, .bool X.f1, .slice A5 n2 c5]) := ⟨Kd.FK_bound hF3⟩
          have HB3 := Aside0.mk bB3
          clear hse hcc hN3 hF3
          go_wp2_with (refine gate_store (t := 30) (p := 33) rfl ?_; refine StopF.out ?_)
          constructor
          refine Kd.N_store k30 (w0 := w) B rfl rfl 30 (.tmp 33) (.tmp 32) rfl 30 (g := g) (n := n) (cap := c0) (o' := a * 3) (a : Int) 0 xs X (.agg #[.string X.f0, .bool X.f1, .slice A5 n2 c5]) [.string X.f0, .bool X.f1, .slice A5 n2 c5] _ ok (fun k => (ok k ∧ k ≠ g) ∧ k < W3.heap.size) ?q0 ?q1 rfl ?q2 sizeE ?q3 HN3.out (by omega) (by have := HAB.out; omega) rfl HCC.out (by show 0 + 3 ≤ 3; omega) HF3.out (fun k hk => hk.1) HB3.out ?_
          case q0 => rfl
          case q1 => rw [Int.toNat_natCast]; rfl
          case q2 => rfl
          case q3 => simp [Value.oneCell']
          intro w6 hN6 hB6 hG6
          have bk3s : w.heap.size ≤ W3.heap.size := HB3.out.size
          rw [Int.toNat_natCast] at hN6
          clear e0 e1 e2 bk3 HN3 HF3 HCC
          go_wp2_with (fail)
          go_roundg (n - (b + 1))
          case measure => omega
          case rel => exact ⟨a + 1, b + 1, xs.set a X, by have := HAB.out; omega, by omega, rfl, by rw [HWA.out], by rw [HWB.out], by rw [List.length_set]; exact HXL.out, HSE2.out.1, HSE2.out.2, hN6, hB6, fun k hk hne => (hG6.block k (by have := bk3s; omega) (by intro e; injection e with e; exact hne e)).trans (HK3.out k hk hne)⟩
      · have p1 : decide ((b : Int) < (n : Int)) = false := decide_eq_false (by omega)
        obtain rfl : b = n := by omega
        have hfin : xs.take a = l.filter fun x => !insB x := by
          rw [htk, List.take_of_length_le (by rw [← HNL.out]; exact Nat.le_refl _)]
        have hsh := N_shrink hN (i := a) (by omega)
        rw [hfin] at hsh
        obtain ⟨W5, hcl, hN5, hB5, hK5⟩ := clear_tailK hsh (b - a) (by omega) (by omega)
        have hs1 := fun W => run_low W g b c0 a (by omega) (by omega)
        have hs2 := fun W => run_high W (some ⟨g, 0, none⟩) b c0 a (by omega)
        have HN5 := Aside0.mk hN5
        have HB5 : Aside0 (Below B w W5) := ⟨hB5 B w hBB (Nat.le_refl _)⟩
        have HK5 : Aside0 (∀ k, k < w.heap.size → k ≠ g → W5.heap[k]? = w.heap[k]?) := ⟨fun k hk hne => (hK5 k hne).trans (HKK.out k hk hne)⟩
        clear hN5 hB5 hK5 hsh hfin htk hdr hN hBB hab hxl
        go_wp2_with (fail)
        go_ret
        exact ⟨_, rfl, HN5.out, HB5.out, fun k hk hne => HK5.out k hk (fun e => hne (by rw [e]; rfl))⟩
end Go.Proofs.YtidlldfghkaeeaaDoor.P
