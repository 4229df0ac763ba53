/- Put together by pack2.py: DelF, PfTreeCopied, TreeCln -/
import Derived.Test.YtidlldfghkaeeaaGreatDoorZyTreeSamEtc
import Derived.Test.YtidlldfghkaeeaaGreatDoorZyTreeOkPEtc
import Derived.Test.YtidlldfghkaeeaaGreatDoorZyRefNamesEtc
import Derived.Test.YtidlldfghkaeeaaGreatDoorZyInsEEtc
import Derived.Test.YtidlldfghkaeeaaGreatDoorZyW0
set_option linter.unusedVariables false
set_option linter.unusedSimpArgs false
set_option maxHeartbeats 8000000
set_option maxRecDepth 100000
section
namespace Go.Proofs.YtidlldfghkaeeaaGreatDoor.P
open Go.RowKit Go.Proofs.YtidlldfghkaeeaaGreatDoorW.PrintWords Go.Proofs.YtidlldfghkaeeaaGreatDoorW.PrintLast Go.Proofs.YtidlldfghkaeeaaGreatDoorW.PrintMore
structure StopF (p : Prop) : Prop where
 out : p
def insB (x : S42) : Bool := decide (insideL x.f0.data.toList)
theorem clean1_calls (x : S42) (A : Option Addr) (n c : Nat) (w : World) (hs : x.f0.size < 4294967280) :
  Calls Tryz.prog 65 #[.agg #[.string x.f0, .bool x.f1, .slice A n c]] w fun e w' => e = .returned (.bool (insB x)) ∧ Below w.heap.size w w' := by
 have hu30 := Tryz.underlying42
 have hi : path_Inside.f x.f0 = some (insB x) := Inside_eq hs
 have b1 := below_alloc (Below.refl w.heap.size w) (.cells #[.string x.f0, .bool x.f1, .slice A n c] 42)
 go_enter Tryz.func65, Tryz.ntmps65
 go_wp2_with (fail)
 refine (path_Inside.calls x.f0 (insB x) _ hi).mono ?_
 rintro e W2 ⟨rfl, hb⟩
 have b2 := b1.trans (hb.mono b1.size)
 dsimp only
 go_wp2_with (fail)
 go_ret
 exact ⟨rfl, b2⟩
def idxF (f : S42 → Bool) (l : List S42) : Int := if ∃ i, ∃ h : i < l.length, f l[i] = true then (l.findIdx f : Int) else -1
theorem idxF_some {f : S42 → Bool} {l : List S42} {i : Nat} (h : i < l.length) (hf : f l[i] = true) (hn : ∀ j (hj : j < l.length), j < i → f l[j] = false) : idxF f l = (i : Int) := by
 unfold idxF
 rw [if_pos ⟨i, h, hf⟩]
 congr 1
 rw [List.findIdx_eq h]
 exact ⟨hf, fun j hj => hn j (by omega) hj⟩
theorem idxF_none {f : S42 → Bool} {l : List S42} (hn : ∀ j (hj : j < l.length), f l[j] = false) : idxF f l = -1 := by
 unfold idxF
 rw [if_neg (fun ⟨i, h, hf⟩ => by rw [hn i h] at hf; cases hf)]
theorem IndexFE_calls (A0 : Option Addr) (c0 : Nat) (l0 : List S42) (w : World) (hr0 : Kd.C k42 w A0 l0.length l0) (hl : l0.length ≤ 100000) (hs : ∀ x ∈ l0, x.f0.size < 4294967280) :
  Calls Tryz.prog 92 #[.slice A0 l0.length c0, .func (.func 65) #[] #[]] w fun e w' => e = .returned (.int .i64 (idxF insB l0)) ∧ Below w.heap.size w w' := by
 have HR := Aside0.mk hr0
 have HL := Aside0.mk hl
 have HS := Aside0.mk hs
 clear hr0 hl hs
 obtain ⟨res, hres⟩ : ∃ res, res = idxF insB l0 := ⟨_, rfl⟩
 rw [← hres]
 have HRES := Aside0.mk hres
 clear hres
 go_enter Tryz.func92, Tryz.ntmps92
 go_wp2_with (fail)
 go_loopg [8] l0.length (fun gg s8 wr => ∃ i : Nat, i ≤ l0.length ∧ gg = l0.length - i ∧ s8 = .int .i64 i ∧ (∀ j (hj : j < l0.length), j < i → insB l0[j] = false) ∧ Below w.heap.size w wr)
 case atStart => exact ⟨0, Nat.zero_le _, rfl, rfl, fun j _ h => absurd h (Nat.not_lt_zero j), Below.refl _ _⟩
 case round =>
  obtain ⟨i, hi, rfl, rfl, hS, hB⟩ := hrel
  have HSS := Aside0.mk hS
  clear hS
  by_cases a : i < l0.length
  ·have a1 : decide ((i : Int) < (l0.length : Int)) = true := decide_eq_true (by omega)
   have a2 : decide (0 ≤ (i : Int)) = true := decide_eq_true (by omega)
   obtain ⟨ad, A9, c9, rfl, k0, k1, k2, k3, k4⟩ := atT (Kd.C_below HR.out hB) i a
   have hone := fun W => clean1_calls l0[i] A9 l0[i].f2.length c9 W (HS.out _ (List.getElem_mem a))
   have hidx := fun (h : insB l0[i] = true) => idxF_some a h HSS.out
   obtain ⟨X, hX⟩ : ∃ X, X = l0[i] := ⟨_, rfl⟩
   rw [← hX] at k0 k1 k2 hone hidx
   have HX := Aside0.mk hX
   have HIX := Aside0.mk hidx
   have HWI : Aside0 (wrap64 ((i : Int) + 1) = ((i + 1 : Nat) : Int)) := ⟨wr1 (by have := HL.out; omega)⟩
   obtain ⟨ss, hss⟩ : ∃ ss, ss = insB X := ⟨_, rfl⟩
   rw [← hss] at hone
   have HSQ := Aside0.mk hss
   clear hX hidx hss k3 k4
   go_wp2_with (fail)
   refine (hone _).mono ?_
   rintro e W2 ⟨rfl, hb2⟩
   have hB2 := hB.trans (hb2.mono hB.size)
   clear hone hb2 k0 k1 k2 hB
   dsimp only
   cases ss with
   | true =>
    go_wp2_with (fail)
    go_ret
    exact ⟨by rw [HRES.out, HIX.out HSQ.out.symm]; rfl, hB2⟩
   | false =>
    go_wp2_with (fail)
    go_roundg (l0.length - (i + 1))
    case measure => omega
    case rel =>
     refine ⟨i + 1, a, rfl, by rw [HWI.out], fun j hj h => ?_, hB2⟩
     rcases Nat.lt_or_ge j i with h1 | h1
     ·exact HSS.out j hj h1
     ·obtain rfl : j = i := by omega
      rw [← HX.out]
      exact HSQ.out.symm
  ·have a1 : decide ((i : Int) < (l0.length : Int)) = false := decide_eq_false (by omega)
   have hr : res = -1 := HRES.out.trans (idxF_none fun j hj => HSS.out j hj (by omega))
   have HR2 := Aside0.mk hr
   clear hr
   go_wp2_with (fail)
   go_ret
   exact ⟨by rw [HR2.out]; rfl, hB⟩
theorem NB.shrink {W : World} {base : Nat} {ok : Nat → Prop} {g n cap : Nat} {rows : List (List Value)} {tail : List Value} {xs : List S42} (h : NB W base ok g n cap rows tail xs) {i : Nat} (hi : i ≤ n) : NB W base ok g i cap (rows.take i) ((rows.drop i).flatten ++ tail) (xs.take i) := by
 have h3 : ∀ r ∈ rows, r.length = 3 := fun r hr => (h.hw r hr).1
 have hfl := flat_len h3
 have hl := h.hl
 have hn := h.hn
 have hc := h.hc
 refine ⟨?_, h.hg, h.hok, by rw [List.length_take]; omega, by omega, h.hm, by rw [List.length_take]; omega, fun r hr => h.hw r (List.mem_of_mem_take hr), ?_, fun j x c hx hcc => ?_⟩
 ·rw [← List.append_assoc, ← List.flatten_append, List.take_append_drop]
  exact h.hb
 ·have h4 : (rows.drop i).flatten.length = (n - i) * 3 := by rw [← flat_drop i h3, List.length_drop, hfl, hl]; omega
  rw [List.length_append, h4, h.ht]
  omega
 ·have hj : j < i := by
   have := (List.getElem?_eq_some_iff.1 hx).1
   rw [List.length_take] at this
   omega
  rw [List.getElem?_take_of_lt hj] at hx hcc
  exact h.hf j x c hx hcc
theorem N_shrink {W : World} {base : Nat} {ok : Nat → Prop} {g n cap : Nat} {xs : List S42} (h : Kd.N k42 42 W base ok (.slice (some ⟨g, 0, none⟩) n cap) xs) {i : Nat} (hi : i ≤ n) : Kd.N k42 42 W base ok (.slice (some ⟨g, 0, none⟩) i cap) (xs.take i) := by
 obtain ⟨rows, tail, hNB⟩ := N_NB h
 exact NB_N (hNB.shrink hi)
theorem N_elem {W : World} {base : Nat} {ok : Nat → Prop} {g n cap : Nat} {xs : List S42} (h : Kd.N k42 42 W base ok (.slice (some ⟨g, 0, none⟩) n cap) xs) {j : Nat} (hj : j < xs.length) : ∃ A c, Kd.FK k42 W (fun k => ok k ∧ k ≠ g) xs[j] [.string xs[j].f0, .bool xs[j].f1, .slice A xs[j].f2.length c] ∧ (∀ q u, [Value.string xs[j].f0, .bool xs[j].f1, .slice A xs[j].f2.length c][q]? = some u → W.cell? ⟨g, j * 3 + q, none⟩ = some u) := by
 obtain ⟨rows, tail, hNB⟩ := N_NB h
 have h3 : ∀ r ∈ rows, r.length = 3 := fun r hr => (hNB.hw r hr).1
 have hfl := flat_len h3
 have hl := hNB.hl
 have hn := hNB.hn
 have hjr : j < rows.length := by omega
 have hf := hNB.hf j xs[j] rows[j] (List.getElem?_eq_getElem hj) (List.getElem?_eq_getElem hjr)
 obtain ⟨A, c, he, _, _⟩ := k42_openF hf
 refine ⟨A, c, he ▸ hf, fun q u hq => ?_⟩
 rw [← he] at hq
 have hq3 : q < 3 := by
  have := (List.getElem?_eq_some_iff.1 hq).1
  rw [h3 _ (List.getElem_mem hjr)] at this
  exact this
 rw [blk_cell hNB.hb]
 rw [List.getElem?_toArray, List.getElem?_append_left (by rw [hfl]; omega)]
 have hd := flat_drop j h3
 have : rows.flatten[j * 3 + q]? = (rows.flatten.drop (j * 3))[q]? := by rw [List.getElem?_drop]
 rw [this, hd, List.drop_eq_getElem_cons hjr, List.flatten_cons, List.getElem?_append_left (by rw [h3 _ (List.getElem_mem hjr)]; exact hq3)]
 exact hq
theorem set_keep {l xs : List S42} {f : S42 → Bool} {i j : Nat} (hl : xs.length = l.length) (hij : i < j) (hj : j < l.length) (h1 : xs.take i = (l.take j).filter fun x => !f x) (h2 : xs.drop j = l.drop j) (hf : f l[j] = false) : (xs.set i l[j]).take (i + 1) = (l.take (j + 1)).filter (fun x => !f x) ∧ (xs.set i l[j]).drop (j + 1) = l.drop (j + 1) := by
 constructor
 ·have hi : i < xs.length := by omega
  rw [List.take_add_one (l := l), List.getElem?_eq_getElem hj, List.filter_append, ← h1]
  rw [List.take_add_one (l := xs.set i l[j]), List.take_set_of_le (Nat.le_refl _), List.getElem?_set_self hi]
  simp [hf]
 ·rw [List.drop_set_of_lt (by omega), ← List.drop_drop, ← List.drop_drop (i := 1) (j := j) (l := l), h2]
theorem skip_keep {l xs : List S42} {f : S42 → Bool} {i j : Nat} (hj : j < l.length) (h1 : xs.take i = (l.take j).filter fun x => !f x) (h2 : xs.drop j = l.drop j) (hf : f l[j] = true) : xs.take i = (l.take (j + 1)).filter (fun x => !f x) ∧ xs.drop (j + 1) = l.drop (j + 1) := by
 constructor
 ·rw [List.take_add_one, List.getElem?_eq_getElem hj, List.filter_append, ← h1]
  simp [hf]
 ·rw [← List.drop_drop, ← List.drop_drop (i := 1) (j := j) (l := l), h2]
theorem first_keep {l : List S42} {f : S42 → Bool} {i : Nat} (hi : i < l.length) (hf : f l[i] = true) (hn : ∀ j (hj : j < l.length), j < i → f l[j] = false) : l.take i = (l.take (i + 1)).filter fun x => !f x := by
 rw [List.take_add_one, List.getElem?_eq_getElem hi, List.filter_append]
 have : (l.take i).filter (fun x => !f x) = l.take i := List.filter_eq_self.2 fun x hx => by
  obtain ⟨j, hj, rfl⟩ := List.mem_take_iff_getElem.1 hx
  rw [hn j (by omega) (by omega)]
  rfl
 rw [this]
 simp [hf]
theorem idxF_cases (f : S42 → Bool) (l : List S42) : (idxF f l = -1 ∧ ∀ x ∈ l, f x = false) ∨ ∃ i, ∃ h : i < l.length, idxF f l = (i : Int) ∧ f l[i] = true ∧ ∀ j (hj : j < l.length), j < i → f l[j] = false := by
 by_cases h : ∃ x ∈ l, f x = true
 ·obtain ⟨x, hx, hf⟩ := h
  have hlt : l.findIdx f < l.length := List.findIdx_lt_length_of_exists ⟨x, hx, hf⟩
  refine .inr ⟨l.findIdx f, hlt, ?_, List.findIdx_getElem, fun j hj h => ?_⟩
  ·unfold idxF
   rw [if_pos ⟨_, hlt, List.findIdx_getElem⟩]
  ·simpa using List.not_of_lt_findIdx h
 ·have hn : ∀ x ∈ l, f x = false := fun x hx => by
   cases hf : f x with
   | false => rfl
   | true => exact absurd ⟨x, hx, hf⟩ h
  exact .inl ⟨idxF_none fun j hj => hn _ (List.getElem_mem hj), hn⟩
theorem DeleteFE_calls (B : Nat) (ok : Nat → Prop) (v0 : Value) (l : List S42) (w : World) (h : Kd.N k42 42 w B ok v0 l) (hB : B ≤ w.heap.size) (hl : l.length ≤ 100000) (hs : ∀ x ∈ l, x.f0.size < 4294967280) (hfresh : ∀ k, w.heap.size ≤ k → ok k) :
  Calls Tryz.prog 64 #[v0, .func (.func 65) #[] #[]] w fun e w' => ∃ v', e = .returned v' ∧ Kd.N k42 42 w' B ok v' (l.filter fun x => !insB x) ∧ Below B w w' ∧ ∀ k, k < w.heap.size → some k ≠ v0.ownBlock → w'.heap[k]? = w.heap[k]? := by
 have hu30 := Tryz.underlying42
 obtain ⟨A0, c0, rfl⟩ := Kd.N_slice h
 have hC := (Kd.N_reads' h).2.2
 have kI := IndexFE_calls A0 c0 l w hC hl hs
 have HS := Aside0.mk hs
 have HL := Aside0.mk hl
 rcases idxF_cases insB l with ⟨hidx, hno⟩ | ⟨i, hi, hidx, hf, hno⟩
 ·rw [hidx] at kI
  have hfl : (l.filter fun x => !insB x) = l := List.filter_eq_self.2 fun x hx => by rw [hno x hx]; rfl
  have HFL := Aside0.mk hfl
  have HN := Aside0.mk h
  clear hno hfl h hC hs hl hfresh hidx
  go_enter Tryz.func64, Tryz.ntmps64
  go_wp2_with (fail)
  refine kI.mono ?_
  rintro e W1 ⟨rfl, hb1⟩
  dsimp only
  go_wp2_with (fail)
  go_ret
  exact ⟨_, rfl, by rw [HFL.out]; exact Kd.N_below HN.out hb1, hb1.mono hB, fun k hk _ => hb1.block k hk⟩
 ·obtain ⟨g, c, he, hg1, hg2, _⟩ := Kd.N_form h (by omega)
  injection he with hA _ hc
  subst hA
  subst hc
  rw [hidx] at kI
  have hft := first_keep hi hf hno
  have HFT := Aside0.mk hft
  have HN := Aside0.mk h
  have hnc := (Kd.N_reads' h).2.1
  have hneg : ((i : Int) == -1) = false := beq_eq_false_iff_ne.2 (by omega)
  have hw1 : wrap64 ((i : Int) + 1) = ((i + 1 : Nat) : Int) := wr1 (by omega)
  have HFR := Aside0.mk hfresh
  have HF := Aside0.mk hf
  obtain ⟨n, hn⟩ : ∃ n, n = l.length := ⟨_, rfl⟩
  rw [← hn] at kI hi hnc ⊢
  have HNL := Aside0.mk hn
  clear hft hf hno h hC hs hl hfresh hidx hn
  go_enter Tryz.func64, Tryz.ntmps64
  go_wp2_with (fail)
  refine kI.mono ?_
  rintro e W1 ⟨rfl, hb1⟩
  have HB1 := Aside0.mk hb1
  clear kI hb1
  dsimp only
  go_wp2_with (fail)
  go_loopg [5, 6] (n - (i + 1)) (fun gg s5 s6 wr => ∃ (a b : Nat) (xs : List S42), a < b ∧ b ≤ n ∧ gg = n - b ∧ s5 = .int .i64 a ∧ s6 = .int .i64 b ∧ xs.length = n ∧ xs.take a = (l.take b).filter (fun x => !insB x) ∧ xs.drop b = l.drop b ∧ Kd.N k42 42 wr B ok (.slice (some ⟨g, 0, none⟩) n c0) xs ∧ Below B w wr ∧ ∀ k, k < w.heap.size → k ≠ g → wr.heap[k]? = w.heap[k]?)
  case atStart => exact ⟨i, i + 1, l, by omega, by omega, rfl, rfl, by first | rw [hw1] | (simp; done), HNL.out.symm, HFT.out, rfl, by have h := Kd.N_below HN.out HB1.out; rw [← HNL.out] at h; exact h, HB1.out.mono hB, fun k hk _ => HB1.out.block k hk⟩
  case round =>
   clear hw1 hneg hi
   obtain ⟨a, b, xs, hab, hbn, rfl, rfl, rfl, hxl, htk, hdr, hN, hBB, hKK⟩ := hrel
   have HKK := Aside0.mk hKK
   have HWS : Aside0 (w.heap.size ≤ wr.heap.size) := ⟨hBB.size⟩
   clear hKK
   have HTK := Aside0.mk htk
   have HDR := Aside0.mk hdr
   have HAB := Aside0.mk hab
   have HXL := Aside0.mk hxl
   by_cases q : b < n
   ·have p1 : decide ((b : Int) < (n : Int)) = true := decide_eq_true (by omega)
    have p2 : decide (0 ≤ (b : Int)) = true := decide_eq_true (by omega)
    have hbl : b < l.length := by rw [← HNL.out]; exact q
    have hbx : b < xs.length := by omega
    have hxe : xs[b] = l[b] := by
     have h1 := List.drop_eq_getElem_cons hbx
     have h2 := List.drop_eq_getElem_cons hbl
     rw [hdr, h2] at h1
     injection h1 with h1 _
     exact h1.symm
    obtain ⟨A5, c5, hFK, hcell⟩ := N_elem hN hbx
    rw [hxe] at hFK hcell
    have hone := fun W => clean1_calls l[b] A5 l[b].f2.length c5 W (HS.out _ (List.getElem_mem hbl))
    have hskip := fun h => skip_keep (f := insB) hbl HTK.out HDR.out h
    have hset := fun h => set_keep (f := insB) (by rw [HXL.out]; exact HNL.out) HAB.out hbl HTK.out HDR.out h
    obtain ⟨X, hX⟩ : ∃ X, X = l[b] := ⟨_, rfl⟩
    rw [← hX] at hFK hcell hone hskip hset
    have m0 := hcell 0 _ rfl
    have m1 := hcell 1 _ rfl
    have m2 := hcell 2 _ rfl
    obtain ⟨ss, hss⟩ : ∃ ss, ss = insB X := ⟨_, rfl⟩
    rw [← hss] at hone hskip hset
    have HSK := Aside0.mk hskip
    have HSE := Aside0.mk hset
    have HFK := Aside0.mk hFK
    have HN5 := Aside0.mk hN
    have HWB : Aside0 (wrap64 ((b : Int) + 1) = ((b + 1 : Nat) : Int)) := ⟨wr1 (by have := HL.out; omega)⟩
    have HWA : Aside0 (wrap64 ((a : Int) + 1) = ((a + 1 : Nat) : Int)) := ⟨wr1 (by have := HL.out; omega)⟩
    clear hX hss hskip hset hFK hcell hxe htk hdr hN hab hxl
    rw [Nat.add_zero] at m0
    obtain ⟨n2, hn2⟩ : ∃ n2, n2 = X.f2.length := ⟨_, rfl⟩
    rw [← hn2] at m2 hone HFK
    have HN2 := Aside0.mk hn2
    clear hn2
    have hNa := Kd.N_alloc HN5.out (.cells #[.string X.f0, .bool X.f1, .slice A5 n2 c5] 42)
    have hFa := Kd.FK_below HFK.out (below_alloc (Below.refl _ wr) (.cells #[.string X.f0, .bool X.f1, .slice A5 n2 c5] 42))
    have bka := blk_new wr (.cells #[.string X.f0, .bool X.f1, .slice A5 n2 c5] 42)
    have hBW : B ≤ wr.heap.size := Nat.le_trans hB hBB.size
    have bBa := hBB.trans ((below_alloc (Below.refl _ wr) (.cells #[.string X.f0, .bool X.f1, .slice A5 n2 c5] 42)).mono hBW)
    have hgl : g < wr.heap.size := Kd.N_lt HN5.out g rfl
    have HBW := Aside0.mk hBW
    clear hBB HN5 HFK hBW
    go_wp2_with (fail)
    refine (hone _).mono ?_
    clear hone m0 m1 m2
    rintro e W3 ⟨rfl, hb3⟩
    have hN3 := Kd.N_below hNa hb3
    have hF3 := Kd.FK_below hFa hb3
    have bk3 := (hb3.block _ (blk_lt bka)).trans bka
    have bB3 := bBa.trans (hb3.mono (by rw [World.size_alloc]; have := HBW.out; omega))
    have HK3 : Aside0 (∀ k, k < w.heap.size → k ≠ g → W3.heap[k]? = w.heap[k]?) := ⟨fun k hk hne => (hb3.block k (by rw [World.size_alloc]; have := HWS.out; omega)).trans (((below_alloc (Below.refl _ wr) _).block k (by have := HWS.out; omega)).trans (HKK.out k hk hne))⟩
    clear hNa hFa bka bBa hb3
    dsimp only
    cases ss with
    | true =>
     have hsk := HSK.out rfl
     have HSK2 := Aside0.mk hsk
     clear hsk
     go_wp2_with (fail)
     go_roundg (n - (b + 1))
     case measure => omega
     case rel => exact ⟨a, b + 1, xs, by have := HAB.out; omega, by omega, rfl, rfl, by rw [HWB.out], HXL.out, HSK2.out.1, HSK2.out.2, hN3, bB3, HK3.out⟩
    | false =>
     have hse := HSE.out rfl
     have HSE2 := Aside0.mk hse
     have hax : a < xs.length := by have := HAB.out; have := HXL.out; omega
     obtain ⟨A7, c7, _, hcc⟩ := N_elem hN3 hax
     have e0 := blk_cell bk3 0
     have e1 := blk_cell bk3 1
     have e2 := blk_cell bk3 2
     have han : a < n := by have := HAB.out; omega
     have p3 : decide ((a : Int) < (n : Int)) = true := decide_eq_true (by have := HAB.out; omega)
     have p4 : decide (0 ≤ (a : Int)) = true := decide_eq_true (by omega)
     have HCC : Aside0 (∀ (j : Nat) (u : Value), [Value.string xs[a].f0, .bool xs[a].f1, .slice A7 xs[a].f2.length c7][j]? = some u → W3.cell? ⟨g, (a : Int).toNat * 3 + j, none⟩ = some u) := ⟨by rw [Int.toNat_natCast]; exact hcc⟩
     have HN3 := Aside0.mk hN3
     have HF3 : Aside0 (Kd.FK k42 W3 (fun k => (ok k ∧ k ≠ g) ∧ k < W3.heap.size) X [.string X.f0, .bool X.f1, .slice A5 n2 c5]) := ⟨Kd.FK_bound hF3⟩
     have HB3 := Aside0.mk bB3
     clear hse hcc hN3 hF3
     go_wp2_with (refine gate_store (t := 42) (p := 33) rfl ?_; refine StopF.out ?_)
     constructor
     refine Kd.N_store k42 (w0 := w) B rfl rfl 42 (.tmp 33) (.tmp 32) rfl 42 (g := g) (n := n) (cap := c0) (o' := a * 3) (a : Int) 0 xs X (.agg #[.string X.f0, .bool X.f1, .slice A5 n2 c5]) [.string X.f0, .bool X.f1, .slice A5 n2 c5] _ ok (fun k => (ok k ∧ k ≠ g) ∧ k < W3.heap.size) ?q0 ?q1 rfl ?q2 sizeE ?q3 HN3.out (by omega) (by have := HAB.out; omega) rfl HCC.out (by show 0 + 3 ≤ 3; omega) HF3.out (fun k hk => hk.1) HB3.out ?_
     case q0 => rfl
     case q1 => rw [Int.toNat_natCast]; rfl
     case q2 => rfl
     case q3 => simp [Value.oneCell']
     intro w6 hN6 hB6 hG6
     have bk3s : w.heap.size ≤ W3.heap.size := HB3.out.size
     rw [Int.toNat_natCast] at hN6
     clear e0 e1 e2 bk3 HN3 HF3 HCC
     go_wp2_with (fail)
     go_roundg (n - (b + 1))
     case measure => omega
     case rel => exact ⟨a + 1, b + 1, xs.set a X, by have := HAB.out; omega, by omega, rfl, by rw [HWA.out], by rw [HWB.out], by rw [List.length_set]; exact HXL.out, HSE2.out.1, HSE2.out.2, hN6, hB6, fun k hk hne => (hG6.block k (by have := bk3s; omega) (by intro e; injection e with e; exact hne e)).trans (HK3.out k hk hne)⟩
   ·have p1 : decide ((b : Int) < (n : Int)) = false := decide_eq_false (by omega)
    obtain rfl : b = n := by omega
    have hfin : xs.take a = l.filter fun x => !insB x := by
     rw [htk, List.take_of_length_le (by rw [← HNL.out]; exact Nat.le_refl _)]
    have hsh := N_shrink hN (i := a) (by omega)
    rw [hfin] at hsh
    obtain ⟨W5, hcl, hN5, hB5, hK5⟩ := clear_tailK hsh (b - a) (by omega) (by omega)
    have hs1 := fun W => run_low W g b c0 a (by omega) (by omega)
    have hs2 := fun W => run_high W (some ⟨g, 0, none⟩) b c0 a (by omega)
    have HN5 := Aside0.mk hN5
    have HB5 : Aside0 (Below B w W5) := ⟨hB5 B w hBB (Nat.le_refl _)⟩
    have HK5 : Aside0 (∀ k, k < w.heap.size → k ≠ g → W5.heap[k]? = w.heap[k]?) := ⟨fun k hk hne => (hK5 k hne).trans (HKK.out k hk hne)⟩
    clear hN5 hB5 hK5 hsh hfin htk hdr hN hBB hab hxl
    go_wp2_with (fail)
    go_ret
    exact ⟨_, rfl, HN5.out, HB5.out, fun k hk hne => HK5.out k hk (fun e => hne (by rw [e]; rfl))⟩
end Go.Proofs.YtidlldfghkaeeaaGreatDoor.P
end
section
namespace Go.Proofs.YtidlldfghkaeeaaGreatDoor.P
open Go.RowKit Go.Proofs.YtidlldfghkaeeaaGreatDoorW.PrintWords Go.Proofs.YtidlldfghkaeeaaGreatDoorW.PrintLast Go.Proofs.YtidlldfghkaeeaaGreatDoorW.PrintMore
attribute [local go_sem] max2_int min2_int max_two min_two max_three min_three max_four min_four
def tree_copied.l0 : Nat → List (S42) → Int → Int → List (S42) → Option ((List (S42)))
 | 0, _, _, _, _ => none
 | k + 1, x7, x8, x9, x299000 => if x9 < x8 then (if 0 ≤ x9 then (if x9 < (x7.length : Int) then ((tree_Entry_own.f ((rd_T42 x7 x9).f0) ((rd_T42 x7 x9).f1) ((rd_T42 x7 x9).f2)).bind fun bt301 => (if x299000.length < 2932031007402 then (tree_copied.l0 k x7 x8 (wrap64 (x9 + 1)) (x299000 ++ [(⟨bt301.1, bt301.2.1, bt301.2.2⟩ : S42)])) else (none))) else (none)) else (none)) else (some x299000)
def tree_copied.f (k : Nat) (l0_0 : List (S42)) : Option ((List (S42))) := tree_copied.l0 k l0_0 (l0_0.length : Int) 0 ([] : List (S42))
def tree_copied.T5 : Bool × List (List Nat × List Nat) := (true, [([], []), ([0], [0]), ([], []), ([2], [2]), ([3], [3]), ([1, 4, 3], [1, 4]), ([0, 1, 2, 3, 4, 5], []), ([6, 5, 5, 0, 1, 2, 3, 4, 5], [5, 6])])
def tree_copied.B5 : List Nat := [0, 1, 0, 4, 12, 31, 63, 127]
theorem tree_copied.tab5 : rtab .any (opsOf Tryz.f63 5) = tree_copied.T5 := by kernel_rfl
theorem tree_copied.bits5 : waitsOk tree_copied.T5.2 tree_copied.B5 = true := by kernel_rfl
theorem tree_copied.calls (k : Nat) (A0_0 : Option Addr) (c0_0 : Nat) (l0_0 : List (S42)) (r : List (S42)) (w : World) (hr0_0 : Kd.C k42 w A0_0 l0_0.length l0_0) (hc0_0 : l0_0.length ≤ c0_0) (h : tree_copied.f k l0_0 = some r) :
  Calls Tryz.prog 63 #[.agg #[.slice A0_0 l0_0.length c0_0]] w fun e w' => ∃ v0_ : Value, e = .returned (.agg #[v0_]) ∧ Kd.S k42 42 w' w.heap.size (fun _ => True) v0_ r ∧ Below w.heap.size w w' := by
 have hu26 := Tryz.underlying26
 have hu42 := Tryz.underlying42
 have HR0_0 := Aside0.mk hr0_0
 have HC0_0 := Aside0.mk hc0_0
 clear hr0_0 hc0_0
 have HB := xa_ (Below.refl w.heap.size w)
 have H : (tree_copied.l0 k l0_0 (l0_0.length : Int) 0 ([] : List (S42))) = some r := h
 clear h
 have H' := Aside0.mk H
 clear H
 go_enter Tryz.func63, Tryz.ntmps63
 go_wp2_with (first | ((with_reducible refine gate_dst (N := 1) rfl ?_); refine box_event ?hg (N := 1) ?hd (cs := #[.slice A0_0 l0_0.length c0_0]) (t := 26) ?hr ?_; (case hd => rfl); (case hg => rfl); (case hr => first | (go_simp; done) | (go_simp; rfl)); intro gb296 hg w2 hbox hb; have BK296 := xa_ (hbox); have GW296 := xa_ ((by rw [hg]; exact (below_size (xw_ HB.out)) : w.heap.size ≤ gb296)); have GE296 := xa_ ((by rw [hg]; exact (below_size (xw_ HB.out)) : w.heap.size ≤ gb296)); replace HB := xa_ (below_step (xw_ HB.out) hb); clear hb hbox hg) | ((with_reducible refine gate_dst (N := 2) rfl ?_); refine box_event ?hg (N := 2) ?hd (cs := #[.slice none 0 0]) (t := 26) ?hr ?_; (case hd => rfl); (case hg => rfl); (case hr => first | (go_simp; done) | (go_simp; rfl)); intro gb297 hg w3 hbox hb; have BK297 := xa_ (hbox); have GW297 := xa_ ((by rw [hg]; exact (below_size (xw_ HB.out)) : w.heap.size ≤ gb297)); have GE297 := xa_ ((by rw [hg]; exact (below_size (xw_ HB.out)) : w.heap.size ≤ gb297)); have NB296_297 := xa_ ((by rw [hg]; exact Nat.ne_of_lt (blk_lt (xb_ BK296.out)) : gb296 ≠ gb297)); have NB297_296 := xa_ ((by rw [hg]; exact Nat.ne_of_gt (blk_lt (xb_ BK296.out)) : gb297 ≠ gb296)); replace BK296 := xa_ (blk_below (xb_ BK296.out) hb); replace HB := xa_ (below_step (xw_ HB.out) hb); clear hb hbox hg) | ((with_reducible refine gate_dst (N := 3) rfl ?_); refine box_event ?hg (N := 3) ?hd (cs := #[.slice none 0 0]) (t := 26) ?hr ?_; (case hd => rfl); (case hg => rfl); (case hr => first | (go_simp; done) | (go_simp; rfl)); intro gb298 hg w4 hbox hb; have BK298 := xa_ (hbox); have GW298 := xa_ ((by rw [hg]; exact (below_size (xw_ HB.out)) : w.heap.size ≤ gb298)); have GE298 := xa_ ((by rw [hg]; exact (below_size (xw_ HB.out)) : w.heap.size ≤ gb298)); have NB296_298 := xa_ ((by rw [hg]; exact Nat.ne_of_lt (blk_lt (xb_ BK296.out)) : gb296 ≠ gb298)); have NB298_296 := xa_ ((by rw [hg]; exact Nat.ne_of_gt (blk_lt (xb_ BK296.out)) : gb298 ≠ gb296)); have NB297_298 := xa_ ((by rw [hg]; exact Nat.ne_of_lt (blk_lt (xb_ BK297.out)) : gb297 ≠ gb298)); have NB298_297 := xa_ ((by rw [hg]; exact Nat.ne_of_gt (blk_lt (xb_ BK297.out)) : gb298 ≠ gb297)); replace BK296 := xa_ (blk_below (xb_ BK296.out) hb); replace BK297 := xa_ (blk_below (xb_ BK297.out) hb); replace HB := xa_ (below_step (xw_ HB.out) hb); clear hb hbox hg; have hnb5 := NB296_297.out; have hnc5 := NB297_296.out; have hnb6 := NB296_298.out; have hnc6 := NB298_296.out; have hcz7_0 : w4.cell? ⟨gb296, 0, none⟩ = some (.slice A0_0 l0_0.length c0_0) := (blk_cell BK296.out 0).trans rfl; have hfz7_0 := blk_frozen BK296.out 0))
 go_loopg [9] k (fun kq v9 w' => ∃ (x9_1 : Int) (x299000_1 : List (S42)) (u299000 : Value), v9 = .int .i64 x9_1 ∧ Aside0 (tree_copied.l0 kq l0_0 (l0_0.length : Int) x9_1 x299000_1 = some r) ∧ Aside0 (kq ≤ k) ∧ Aside0 (Kd.S k42 42 w' w.heap.size (fun _ => True) u299000 x299000_1) ∧ Aside0 (w'.heap[gb296]? = some (.cells #[(.slice A0_0 l0_0.length c0_0)] 26 (0, 0))) ∧ Aside0 (w'.heap[gb297]? = some (.cells #[(.slice none 0 0)] 26 (0, 0))) ∧ Aside0 (w'.heap[gb298]? = some (.cells #[u299000] 26 (0, 0))) ∧ Aside0 (Below w.heap.size w w'))
 case atStart => exact ⟨(0), (([] : List (S42))), (.slice none 0 0), (by first | rfl | (simp; done) | (simp [*]; done)), H', ⟨Nat.le_refl _⟩, ⟨by first | exact Kd.S_nil _ _ _ _ _ | exact Kd.N_nil _ _ _ _ _ | exact Kd.V_nil _ _ _ _ _ | exact Kd.Q_nil _ _ _ _ _ | exact Kd.R_nil _ _ _ _ _⟩, ⟨by (with_reducible repeat (first | refine blk_drewN ?_ _ | refine blk_drew ?_ | refine blk_alloc ?_ _)); exact BK296.out⟩, ⟨by (with_reducible repeat (first | refine blk_drewN ?_ _ | refine blk_drew ?_ | refine blk_alloc ?_ _)); exact BK297.out⟩, ⟨by (with_reducible repeat (first | refine blk_drewN ?_ _ | refine blk_drew ?_ | refine blk_alloc ?_ _)); exact BK298.out⟩, ⟨by repeat (first | (with_reducible first | exact HB.out | apply below_alloc | apply pw_below_drewN | apply below_drew1 | refine below_set ?_ GE296.out | refine below_set ?_ GE297.out | refine below_set ?_ GE298.out) | exact HB.out)⟩⟩
 case round =>
  clear H'
  try clear p2
  try clear c5
  try clear c6
  try clear hcz7_0
  try clear hfz7_0
  obtain ⟨x9_1, x299000_1, u299000, rfl, HA, HK1, HO_299000, BK296, BK297, BK298, HB⟩ := hrel
  cases gk with
  | zero => exact absurd HA.out (by simp [tree_copied.l0])
  | succ k1 =>
   have H := HA.out
   clear HA
   simp only [tree_copied.l0] at H
   by_cases c8 : x9_1 < (l0_0.length : Int)
   ·rw [if_pos c8] at H
    have c8b0 : decide (x9_1 < (l0_0.length : Int)) = true := decide_eq_true c8
    clear c8
    by_cases c9 : 0 ≤ x9_1
    ·rw [if_pos c9] at H
     have c9b0 : decide (0 ≤ x9_1) = true := decide_eq_true c9
     clear c9
     by_cases c10 : x9_1 < (l0_0.length : Int)
     ·rw [if_pos c10] at H
      have c10b0 : decide (x9_1 < (l0_0.length : Int)) = true := decide_eq_true c10
      clear c10
      replace H := Option.bind_eq_some_iff.mp H
      obtain ⟨⟨t301, t302, t303⟩, A110, H⟩ := H
      replace H : (if x299000_1.length < 2932031007402 then (tree_copied.l0 k1 l0_0 (l0_0.length : Int) (wrap64 (x9_1 + 1)) (x299000_1 ++ [(⟨t301, t302, t303⟩ : S42)])) else (none)) = some r := H
      have A11 := Aside0.mk A110
      clear A110
      by_cases c12 : x299000_1.length < 2932031007402
      ·rw [if_pos c12] at H
       have LMc12 := Aside0.mk c12
       clear c12
       obtain ⟨y306, hy306⟩ : ∃ y_ : List (S42), y_ = (x299000_1 ++ [(⟨t301, t302, t303⟩ : S42)]) := ⟨_, rfl⟩
       replace H : (tree_copied.l0 k1 l0_0 (l0_0.length : Int) (wrap64 (x9_1 + 1)) y306) = some r := by first | (rw [hy306]; with_reducible exact H) | (have H2_ := (Option.bind_some _ _).symm.trans H; rw [hy306]; with_reducible exact H2_) | (have H2_ := (Option.bind_some _ _).symm.trans H; with_reducible exact H2_) | with_reducible exact H | (rw [hy306]; exact H) | exact H
       have Ny306 := Aside0.mk hy306
       clear hy306
       have H' := Aside0.mk H
       clear H
       have p299 : 0 ≤ (x9_1 : Int) := of_decide_eq_true (by first | (with_reducible assumption) | assumption)
       have q299 : x9_1 < (l0_0.length : Int) := of_decide_eq_true (by first | (with_reducible assumption) | assumption)
       obtain ⟨ad299, A299_2, c299_2, e299, hx299_0, hx299_1, hx299_2, hl299_2, hi299_2⟩ := at_T42 HR0_0.out x9_1 p299 q299
       cases e299
       replace hx299_0 := (HB.out.cell (World.block_lt_of_cell? w _ hx299_0)).trans hx299_0
       replace hx299_1 := (HB.out.cell (World.block_lt_of_cell? w _ hx299_1)).trans hx299_1
       replace hx299_2 := (HB.out.cell (World.block_lt_of_cell? w _ hx299_2)).trans hx299_2
       have HR299_2 := Aside0.mk hi299_2
       have HC299_2 := Aside0.mk hl299_2
       clear hi299_2 hl299_2
       replace p299 := eq_true p299
       replace q299 := eq_true q299
       try go_wp2_with (first | ((with_reducible refine gate_dst (N := 5) rfl ?_); refine box_event ?hg (N := 5) ?hd (cs := #[.string (⟨#[]⟩ : ByteArray), .bool false, .slice none 0 0]) (t := 42) ?hr ?_; (case hd => rfl); (case hg => rfl); (case hr => first | (go_simp; done) | (go_simp; rfl)); intro gb300 hg w13 hbox hb; have BK300 := xa_ (hbox); have GW300 := xa_ ((by rw [hg]; exact (below_size (xw_ HB.out)) : w.heap.size ≤ gb300)); have GE300 := xa_ ((by rw [hg]; exact (below_size (xw_ HB.out)) : w.heap.size ≤ gb300)); have NB296_300 := xa_ ((by rw [hg]; exact Nat.ne_of_lt (blk_lt (xb_ BK296.out)) : gb296 ≠ gb300)); have NB300_296 := xa_ ((by rw [hg]; exact Nat.ne_of_gt (blk_lt (xb_ BK296.out)) : gb300 ≠ gb296)); have NB297_300 := xa_ ((by rw [hg]; exact Nat.ne_of_lt (blk_lt (xb_ BK297.out)) : gb297 ≠ gb300)); have NB300_297 := xa_ ((by rw [hg]; exact Nat.ne_of_gt (blk_lt (xb_ BK297.out)) : gb300 ≠ gb297)); have NB298_300 := xa_ ((by rw [hg]; exact Nat.ne_of_lt (blk_lt (xb_ BK298.out)) : gb298 ≠ gb300)); have NB300_298 := xa_ ((by rw [hg]; exact Nat.ne_of_gt (blk_lt (xb_ BK298.out)) : gb300 ≠ gb298)); replace HO_299000 := xa_ (Kd.S_below (Kd.S_elderB (by (with_reducible repeat (first | apply Kd.S_alloc | apply Kd.S_drewN | apply Kd.S_drew)); exact HO_299000.out) gb300 (Nat.le_of_eq hg.symm)) hb); replace BK296 := xa_ (blk_below (xb_ BK296.out) hb); replace BK297 := xa_ (blk_below (xb_ BK297.out) hb); replace BK298 := xa_ (blk_below (xb_ BK298.out) hb); replace HB := xa_ (below_step (xw_ HB.out) hb); clear hb hbox hg; have hnb14 := NB300_296.out; have hnc14 := NB296_300.out; have hnb15 := NB300_297.out; have hnc15 := NB297_300.out; have hnb16 := NB300_298.out; have hnc16 := NB298_300.out; have hcz17_0 : w13.cell? ⟨gb300, 0, none⟩ = some (.string (⟨#[]⟩ : ByteArray)) := (blk_cell BK300.out 0).trans rfl; have hcz17_1 : w13.cell? ⟨gb300, 1, none⟩ = some (.bool false) := (blk_cell BK300.out 1).trans rfl; have hcz17_2 : w13.cell? ⟨gb300, 2, none⟩ = some (.slice none 0 0) := (blk_cell BK300.out 2).trans rfl; have hfz17_0 := blk_frozen BK300.out 0; have hfz17_1 := blk_frozen BK300.out 1; have hfz17_2 := blk_frozen BK300.out 2))
       have n0_ : Aside0 (Kd.S k42 42 (((w13.setCell ⟨gb300, 0, none⟩ (.string ((rd_T42 l0_0 x9_1).f0))).setCell ⟨gb300, 1, none⟩ (.bool ((rd_T42 l0_0 x9_1).f1))).setCell ⟨gb300, 2, none⟩ (.slice A299_2 ((rd_T42 l0_0 x9_1).f2).length c299_2)) w.heap.size (fun k_ => k_ ≠ gb300) u299000 x299000_1) := ⟨by (with_reducible repeat (first | apply Kd.S_alloc | apply Kd.S_drewN | apply Kd.S_drew)); exact Kd.S_mono (Kd.S_far (p := ⟨gb300, 2, none⟩) (Kd.S_far (p := ⟨gb300, 1, none⟩) (Kd.S_far (p := ⟨gb300, 0, none⟩) (Kd.S_mono HO_299000.out (fun k_ hk => (⟨hk, hk.2⟩ : _ ∧ k_ ≠ gb300))) (fun _ hk => hk.2) (.string ((rd_T42 l0_0 x9_1).f0))) (fun _ hk => hk.2) (.bool ((rd_T42 l0_0 x9_1).f1))) (fun _ hk => hk.2) (.slice A299_2 ((rd_T42 l0_0 x9_1).f2).length c299_2)) (fun _ hk => hk.1.2)⟩
       have n1_ : Aside0 ((((w13.setCell ⟨gb300, 0, none⟩ (.string ((rd_T42 l0_0 x9_1).f0))).setCell ⟨gb300, 1, none⟩ (.bool ((rd_T42 l0_0 x9_1).f1))).setCell ⟨gb300, 2, none⟩ (.slice A299_2 ((rd_T42 l0_0 x9_1).f2).length c299_2)).heap[gb296]? = some (.cells #[.slice (some ad299) l0_0.length c0_0] 26 (0, 0))) := ⟨by (with_reducible repeat (first | refine blk_drewN ?_ _ | refine blk_drew ?_ | refine blk_alloc ?_ _)); refine blk_far ?_ NB296_300.out _; (with_reducible repeat (first | refine blk_drewN ?_ _ | refine blk_drew ?_ | refine blk_alloc ?_ _)); refine blk_far ?_ NB296_300.out _; (with_reducible repeat (first | refine blk_drewN ?_ _ | refine blk_drew ?_ | refine blk_alloc ?_ _)); refine blk_far ?_ NB296_300.out _; (with_reducible repeat (first | refine blk_drewN ?_ _ | refine blk_drew ?_ | refine blk_alloc ?_ _)); exact BK296.out⟩
       have n2_ : Aside0 ((((w13.setCell ⟨gb300, 0, none⟩ (.string ((rd_T42 l0_0 x9_1).f0))).setCell ⟨gb300, 1, none⟩ (.bool ((rd_T42 l0_0 x9_1).f1))).setCell ⟨gb300, 2, none⟩ (.slice A299_2 ((rd_T42 l0_0 x9_1).f2).length c299_2)).heap[gb297]? = some (.cells #[.slice none 0 0] 26 (0, 0))) := ⟨by (with_reducible repeat (first | refine blk_drewN ?_ _ | refine blk_drew ?_ | refine blk_alloc ?_ _)); refine blk_far ?_ NB297_300.out _; (with_reducible repeat (first | refine blk_drewN ?_ _ | refine blk_drew ?_ | refine blk_alloc ?_ _)); refine blk_far ?_ NB297_300.out _; (with_reducible repeat (first | refine blk_drewN ?_ _ | refine blk_drew ?_ | refine blk_alloc ?_ _)); refine blk_far ?_ NB297_300.out _; (with_reducible repeat (first | refine blk_drewN ?_ _ | refine blk_drew ?_ | refine blk_alloc ?_ _)); exact BK297.out⟩
       have n3_ : Aside0 ((((w13.setCell ⟨gb300, 0, none⟩ (.string ((rd_T42 l0_0 x9_1).f0))).setCell ⟨gb300, 1, none⟩ (.bool ((rd_T42 l0_0 x9_1).f1))).setCell ⟨gb300, 2, none⟩ (.slice A299_2 ((rd_T42 l0_0 x9_1).f2).length c299_2)).heap[gb298]? = some (.cells #[u299000] 26 (0, 0))) := ⟨by (with_reducible repeat (first | refine blk_drewN ?_ _ | refine blk_drew ?_ | refine blk_alloc ?_ _)); refine blk_far ?_ NB298_300.out _; (with_reducible repeat (first | refine blk_drewN ?_ _ | refine blk_drew ?_ | refine blk_alloc ?_ _)); refine blk_far ?_ NB298_300.out _; (with_reducible repeat (first | refine blk_drewN ?_ _ | refine blk_drew ?_ | refine blk_alloc ?_ _)); refine blk_far ?_ NB298_300.out _; (with_reducible repeat (first | refine blk_drewN ?_ _ | refine blk_drew ?_ | refine blk_alloc ?_ _)); exact BK298.out⟩
       have n4_ : Aside0 ((((w13.setCell ⟨gb300, 0, none⟩ (.string ((rd_T42 l0_0 x9_1).f0))).setCell ⟨gb300, 1, none⟩ (.bool ((rd_T42 l0_0 x9_1).f1))).setCell ⟨gb300, 2, none⟩ (.slice A299_2 ((rd_T42 l0_0 x9_1).f2).length c299_2)).heap[gb300]? = some (.cells #[.string ((rd_T42 l0_0 x9_1).f0), .bool ((rd_T42 l0_0 x9_1).f1), .slice A299_2 ((rd_T42 l0_0 x9_1).f2).length c299_2] 42 (0, 0))) := ⟨by (with_reducible repeat (first | refine blk_drewN ?_ _ | refine blk_drew ?_ | refine blk_alloc ?_ _)); refine blk_put (cs := #[.string ((rd_T42 l0_0 x9_1).f0), .bool ((rd_T42 l0_0 x9_1).f1), .slice none 0 0]) ?_ 2 _ rfl; (with_reducible repeat (first | refine blk_drewN ?_ _ | refine blk_drew ?_ | refine blk_alloc ?_ _)); refine blk_put (cs := #[.string ((rd_T42 l0_0 x9_1).f0), .bool false, .slice none 0 0]) ?_ 1 _ rfl; (with_reducible repeat (first | refine blk_drewN ?_ _ | refine blk_drew ?_ | refine blk_alloc ?_ _)); refine blk_put (cs := #[.string (⟨#[]⟩ : ByteArray), .bool false, .slice none 0 0]) ?_ 0 _ rfl; (with_reducible repeat (first | refine blk_drewN ?_ _ | refine blk_drew ?_ | refine blk_alloc ?_ _)); exact BK300.out⟩
       have n5_ : Aside0 (Below w.heap.size w (((w13.setCell ⟨gb300, 0, none⟩ (.string ((rd_T42 l0_0 x9_1).f0))).setCell ⟨gb300, 1, none⟩ (.bool ((rd_T42 l0_0 x9_1).f1))).setCell ⟨gb300, 2, none⟩ (.slice A299_2 ((rd_T42 l0_0 x9_1).f2).length c299_2))) := ⟨by repeat (first | (with_reducible first | exact HB.out | apply below_alloc | apply pw_below_drewN | apply below_drew1 | refine below_set ?_ GE296.out | refine below_set ?_ GE297.out | refine below_set ?_ GE298.out | refine below_set ?_ GE300.out) | exact HB.out)⟩
       (try clear HO_299000)
       (try clear BK296)
       (try clear BK297)
       (try clear BK298)
       (try clear BK300)
       (try clear HB)
       generalize (((w13.setCell ⟨gb300, 0, none⟩ (.string ((rd_T42 l0_0 x9_1).f0))).setCell ⟨gb300, 1, none⟩ (.bool ((rd_T42 l0_0 x9_1).f1))).setCell ⟨gb300, 2, none⟩ (.slice A299_2 ((rd_T42 l0_0 x9_1).f2).length c299_2)) = w18 at n0_ n1_ n2_ n3_ n4_ n5_ ⊢
       have HO_299000 := n0_
       have BK296 := n1_
       have BK297 := n2_
       have BK298 := n3_
       have BK300 := n4_
       have HB := n5_
       clear n0_ n1_ n2_ n3_ n4_ n5_
       have n0_ := xa_ (Kd.S_drew HO_299000.out)
       have n1_ := xa_ (blk_drew BK296.out)
       have n2_ := xa_ (blk_drew BK297.out)
       have n3_ := xa_ (blk_drew BK298.out)
       have n4_ := xa_ (blk_drew BK300.out)
       have n5_ := xa_ (below_drew1 HB.out)
       clear HO_299000
       clear BK296
       clear BK297
       clear BK298
       clear BK300
       clear HB
       have HO_299000 := n0_
       have BK296 := n1_
       have BK297 := n2_
       have BK298 := n3_
       have BK300 := n4_
       have HB := n5_
       clear n0_ n1_ n2_ n3_ n4_ n5_
       refine start_ (n := 8) (S := fun w' => w'.cell? ⟨gb298, 0, none⟩ = some (u299000) ∧ w'.cell? ⟨gb300, 0, none⟩ = some (.string ((rd_T42 l0_0 x9_1).f0)) ∧ w'.cell? ⟨gb300, 1, none⟩ = some (.bool ((rd_T42 l0_0 x9_1).f1)) ∧ w'.cell? ⟨gb300, 2, none⟩ = some (.slice A299_2 ((rd_T42 l0_0 x9_1).f2).length c299_2)) (ds := [7]) (bs_ 8 0x0) (by kernel_rfl) rfl rfl ⟨(blk_cell BK298.out 0).trans rfl, (blk_cell BK300.out 0).trans rfl, (blk_cell BK300.out 1).trans rfl, (blk_cell BK300.out 2).trans rfl⟩ (fun hHeld => ?_); refine with_tabW tree_copied.tab5 tree_copied.bits5 (fun HT_ HW_ => ?_)
       generalize w18.drew = w19 at HO_299000 BK296 BK297 BK298 BK300 HB hHeld ⊢
       refine pl_ [(0, some 13, 0x1), (1, some 14, 0x3), (2, some 15, 0x7)] ?_; iterate 3 (first | (refine pq_ (v := ?_) (a' := ?_) HT_.out rfl rfl (by kernel_rfl) (fun _ _ _ h => h) (Or.inl ⟨by rfl, ?_⟩) ?_ ?_; rotate_left; (intro w'; go_simp; with_reducible rfl); rotate_left; (simp only [nm_]; rfl)) | (refine tq_ (v := ?_) (a' := ?_) HT_.out HW_.out rfl rfl (by kernel_rfl) (fun _ _ _ h => h) (Or.inl ⟨by rfl, ?_⟩) hHeld ?_ ?_; rotate_left; (rintro w' ⟨s0, s1, s2, s3⟩; go_simp; with_reducible rfl); rotate_left; (simp only [nm_]; rfl)))
       refine ql_ ?_
       refine one_ (i := 3) (N := some 16) (bs_ 8 0xf) rfl rfl (one_of HT_.out (by kernel_rfl)) (by decide) (fun K hK => ?_)
       refine goes_ Tryz.func58 (by kernel_rfl) rfl #[.agg #[.string ((rd_T42 l0_0 x9_1).f0), .bool ((rd_T42 l0_0 x9_1).f1), .slice A299_2 ((rd_T42 l0_0 x9_1).f2).length c299_2]] (by rfl) rfl rfl (by (try simp only [ca_]); first | done | rfl) ?_
       with_reducible refine (tree_Entry_own.calls ((rd_T42 l0_0 x9_1).f0) ((rd_T42 l0_0 x9_1).f1) _ _ ((rd_T42 l0_0 x9_1).f2) t301 t302 t303 _ ?side1 ?side2 A11.out).mono ?_
       (case side1 => exact xC_ (Kd.C_below HR299_2.out HB.out))
       (case side2 => exact HC299_2.out)
       rintro e w20 ⟨v304, rfl, ho0, hb⟩
       refine ⟨_, rfl, ?_⟩
       have n0_ := xa_ (Kd.S_elder' (by (with_reducible repeat (first | apply Kd.S_alloc | apply Kd.S_drewN | apply Kd.S_drew)); exact HO_299000.out) (Kd.R_base ho0) hb)
       have n1_ := xa_ (Kd.R_lower ho0 (below_size (xw_ HB.out)))
       have n2_ := xa_ (blk_below (xb_ BK296.out) hb)
       have n3_ := xa_ (blk_below (xb_ BK297.out) hb)
       have n4_ := xa_ (blk_below (xb_ BK298.out) hb)
       have n5_ := xa_ (blk_below (xb_ BK300.out) hb)
       have n6_ := xa_ (below_step (xw_ HB.out) hb)
       clear HO_299000
       clear BK296
       clear BK297
       clear BK298
       clear BK300
       clear HB
       have HO_299000 := n0_
       have HO305 := n1_
       have BK296 := n2_
       have BK297 := n3_
       have BK298 := n4_
       have BK300 := n5_
       have HB := n6_
       clear n0_ n1_ n2_ n3_ n4_ n5_ n6_
       (try clear hb)
       (try clear hb2)
       (try clear hk)
       (try clear hi)
       (try clear ho0)
       obtain ⟨Ao22, co22, eo22⟩ := Kd.R_slice HO305.out
       (first | subst eo22 | (injection eo22 with f1_ f2_ f3_; have f4_ := f1_.symm; have f5_ := f3_.symm; clear f1_ f2_ f3_; subst f4_; subst f5_))
       refine hK.out _ _ ⟨(blk_cell BK298.out 0).trans rfl, (blk_cell BK300.out 0).trans rfl, (blk_cell BK300.out 1).trans rfl, (blk_cell BK300.out 2).trans rfl⟩ (fun hHeld => ?_)
       clear hK K
       refine norm_ (a' := ?_) ?_ ?_
       rotate_left
       ·show Act.put _ (some 16) _ = _
        simp only [nm_]
        rfl
       refine one_ (i := 4) (N := some 17) (bs_ 8 0x1f) rfl rfl (one_of HT_.out (by kernel_rfl)) (by decide) (fun K hK => ?_)
       refine value_ (w1 := ?_) (v := ?_) (by rfl) rfl ?_ ?_
       rotate_left 2
       ·go_simp
        constructor
        ·rfl
        ·rfl
       refine hK.out _ _ ⟨(blk_cell (blk_alloc BK298.out _) 0).trans rfl, (blk_cell (blk_alloc BK300.out _) 0).trans rfl, (blk_cell (blk_alloc BK300.out _) 1).trans rfl, (blk_cell (blk_alloc BK300.out _) 2).trans rfl⟩ (fun hHeld => ?_)
       clear hK K
       refine norm_ (a' := ?_) ?_ ?_
       rotate_left
       ·show Act.put _ (some 17) _ = _
        simp only [nm_]
        rfl
       refine one_ (i := 5) (N := some 18) (bs_ 8 0x3f) rfl rfl (one_of HT_.out (by kernel_rfl)) (by decide) (fun K hK => ?_)
       refine Kd.S_append_step k42 (w0 := w) w.heap.size (by rfl) (.tmp 14) (.tmp 17) 24 42 (.agg #[(.string ⟨#[]⟩), (.bool false), (.slice none 0 0)]) 48 rfl Tryz.underlying24 info42 rfl (by decide) (by omega) u299000 x299000_1 (⟨t301, t302, t303⟩ : S42) [.string t301, .bool t302, .slice Ao22 t303.length co22] (fun k_ => k_ ≠ gb300) (fun k_ => some k_ = (.slice Ao22 t303.length co22 : Value).ownBlock) rfl rfl ?aP (fun k_ hk_ => ((Kd.R_mono (ok' := fun k_ => ((fun k_ => k_ ≠ gb300)) k_ ∧ some k_ ≠ (u299000 : Value).ownBlock) (Kd.R_types (Kd.R_apart' (HO305.out) (Kd.S_typed HO_299000.out) (by decide)) BK300.out (by decide)) (fun k_ hk => ⟨hk.2, hk.1.2⟩))).1 k_ hk_.symm) ?aF ?aO ?aB ?aS ?aL ?_
       (case aP => exact k42_mkM _ _ _ (⟨t301, t302, t303⟩ : S42) (Kd.R_mono (Kd.R_tight rfl (Kd.R_mono (ok' := fun k_ => ((fun k_ => k_ ≠ gb300)) k_ ∧ some k_ ≠ (u299000 : Value).ownBlock) (Kd.R_types (Kd.R_apart' (HO305.out) (Kd.S_typed HO_299000.out) (by decide)) BK300.out (by decide)) (fun k_ hk => ⟨hk.2, hk.1.2⟩))) (fun _ h_ => h_)))
       (case aB => exact (xw_ HB.out))
       (case aF => exact (fun k_ hk => Kd.freshB (xb_ BK300.out) k_ hk))
       (case aO => exact (by (with_reducible repeat (first | apply Kd.S_alloc | apply Kd.S_drewN | apply Kd.S_drew)); exact Kd.S_mono HO_299000.out (fun k_ hk => ⟨hk.1, fun e_ => hk.2 e_⟩)))
       (case aS => exact (below_size (xw_ HB.out)))
       (case aL => have := LMc12.out; omega)
       intro v307 w21 ho hb hg hat
       rw [← Ny306.out] at ho
       have n0_ := xa_ (blk_grown (xb_ BK296.out) hg (Kd.S_ne HO_299000.out BK296.out (by decide)))
       have n1_ := xa_ (blk_grown (xb_ BK297.out) hg (Kd.S_ne HO_299000.out BK297.out (by decide)))
       have n2_ := xa_ (blk_grown (xb_ BK298.out) hg (Kd.S_ne HO_299000.out BK298.out (by decide)))
       have n3_ := xa_ (blk_grown (xb_ BK300.out) hg (Kd.S_away HO_299000.out (fun _ hk => hk.1)))
       have n4_ := xa_ (hb)
       have n5_ := xa_ (ho)
       clear BK296
       clear BK297
       clear BK298
       clear BK300
       clear HB
       clear HO_299000
       clear HO305
       have BK296 := n0_
       have BK297 := n1_
       have BK298 := n2_
       have BK300 := n3_
       have HB := n4_
       have HO308 := n5_
       clear n0_ n1_ n2_ n3_ n4_ n5_
       clear ho hb hg hat
       obtain ⟨Ao23, co23, eo23⟩ := Kd.S_slice HO308.out
       (first | subst eo23 | (injection eo23 with f1_ f2_ f3_; have f4_ := f1_.symm; have f5_ := f3_.symm; clear f1_ f2_ f3_; subst f4_; subst f5_))
       refine hK.out _ _ ⟨(blk_cell BK298.out 0).trans rfl, (blk_cell BK300.out 0).trans rfl, (blk_cell BK300.out 1).trans rfl, (blk_cell BK300.out 2).trans rfl⟩ (fun hHeld => ?_)
       clear hK K
       refine norm_ (a' := ?_) ?_ ?_
       rotate_left
       ·show Act.put _ (some 18) _ = _
        simp only [nm_]
        rfl
       refine pure_ (i := 6) (N := some 19) (v := ?_) (a' := ?_) (bs_ 8 0x7f) rfl rfl (any_of HT_.out (by kernel_rfl)) (fun _ _ _ h => h) (Or.inl ⟨by rfl, ?_⟩) ?_ ?_; rotate_left; (intro w'; go_simp; with_reducible rfl); rotate_left; (simp only [nm_]; rfl)
       refine last_ (i := 7) (N := none) (bs_ 8 0xff) rfl rfl (one_of HT_.out (by kernel_rfl)) (by decide) (fun K hK => ?_)
       have hs24 : w21.cell? ⟨gb298, 0, none⟩ = some (u299000) := (blk_cell BK298.out 0).trans rfl
       have hfs24 := blk_frozen BK298.out 0
       have hns24_0 := NB296_298.out
       have hns24_1 := NB297_298.out
       have hns24_3 := NB300_298.out
       have hms24_0 := NB298_296.out
       have hms24_1 := NB298_297.out
       have hms24_3 := NB298_300.out
       refine skip_ (w1 := ?_) (by rfl) rfl ?_ ?_
       rotate_left
       ·go_simp
        rfl
       refine hK.out _ _ ?_
       clear hK K
       refine done_ (done_of HT_.out (by kernel_rfl)) ?_
       try go_wp2
       go_roundg k1
       case measure => have := HK1.out; omega
       case rel => exact ⟨(wrap64 (x9_1 + 1)), (y306), (.slice Ao23 y306.length co23), (by first | rfl | (simp; done) | (simp [*]; done)), H', ⟨by have := HK1.out; omega⟩, ⟨by (with_reducible repeat (first | apply Kd.S_alloc | apply Kd.S_drewN | apply Kd.S_drew)); exact Kd.S_mono (Kd.S_far (p := ⟨gb298, 0, none⟩) (Kd.S_types HO308.out BK298.out (by decide)) (fun _ hk => hk.2) (.slice Ao23 y306.length co23)) (fun _ hk => trivial)⟩, ⟨by (with_reducible repeat (first | refine blk_drewN ?_ _ | refine blk_drew ?_ | refine blk_alloc ?_ _)); refine blk_far ?_ NB296_298.out _; (with_reducible repeat (first | refine blk_drewN ?_ _ | refine blk_drew ?_ | refine blk_alloc ?_ _)); exact BK296.out⟩, ⟨by (with_reducible repeat (first | refine blk_drewN ?_ _ | refine blk_drew ?_ | refine blk_alloc ?_ _)); refine blk_far ?_ NB297_298.out _; (with_reducible repeat (first | refine blk_drewN ?_ _ | refine blk_drew ?_ | refine blk_alloc ?_ _)); exact BK297.out⟩, ⟨by (with_reducible repeat (first | refine blk_drewN ?_ _ | refine blk_drew ?_ | refine blk_alloc ?_ _)); refine blk_put (cs := #[u299000]) ?_ 0 _ rfl; (with_reducible repeat (first | refine blk_drewN ?_ _ | refine blk_drew ?_ | refine blk_alloc ?_ _)); exact BK298.out⟩, ⟨by repeat (first | (with_reducible first | exact HB.out | apply below_alloc | apply pw_below_drewN | apply below_drew1 | refine below_set ?_ GE296.out | refine below_set ?_ GE297.out | refine below_set ?_ GE298.out | refine below_set ?_ GE300.out) | exact HB.out)⟩⟩
      ·rw [if_neg c12] at H
       exact absurd H (by simp)
     ·rw [if_neg c10] at H
      exact absurd H (by simp)
    ·rw [if_neg c9] at H
     exact absurd H (by simp)
   ·rw [if_neg c8] at H
    have c8b0 : decide (x9_1 < (l0_0.length : Int)) = false := decide_eq_false c8
    clear c8
    obtain rfl := Option.some.inj H
    have hnb25 := NB298_296.out
    have hnc25 := NB296_298.out
    have hnb26 := NB298_297.out
    have hnc26 := NB297_298.out
    have hcz27_0 : wr.cell? ⟨gb298, 0, none⟩ = some (u299000) := (blk_cell BK298.out 0).trans rfl
    have hfz27_0 := blk_frozen BK298.out 0
    obtain ⟨Ao28, co28, eo28⟩ := Kd.S_slice HO_299000.out
    subst eo28
    have hnb29 := NB297_296.out
    have hnc29 := NB296_297.out
    have hcz30_0 : wr.cell? ⟨gb297, 0, none⟩ = some (.slice none 0 0) := (blk_cell BK297.out 0).trans rfl
    have hfz30_0 := blk_frozen BK297.out 0
    go_wp2
    refine bodyPost_ret (results_cell_row rfl _ _ gb297 26 #[.slice Ao28 x299000_1.length co28] (0, 0) _ rfl (by (with_reducible repeat (first | refine blk_drewN ?_ _ | refine blk_drew ?_ | refine blk_alloc ?_ _)); refine blk_put (cs := #[.slice none 0 0]) ?_ 0 _ rfl; (with_reducible repeat (first | refine blk_drewN ?_ _ | refine blk_drew ?_ | refine blk_alloc ?_ _)); exact BK297.out) Tryz.underlying26 rfl (by kernel_rfl)) rfl ?_
    exact ⟨_, by first | rfl | (simp [*, errW_none, errW_some] <;> rfl), by (with_reducible repeat (first | apply Kd.S_alloc | apply Kd.S_drewN | apply Kd.S_drew)); exact Kd.S_mono (Kd.S_far (p := ⟨gb297, 0, none⟩) (Kd.S_types HO_299000.out BK297.out (by decide)) (fun _ hk => hk.2) (.slice Ao28 x299000_1.length co28)) (fun _ hk => trivial), by repeat (first | (with_reducible first | exact HB.out | apply below_alloc | apply pw_below_drewN | apply below_drew1 | refine below_set ?_ GE296.out | refine below_set ?_ GE297.out | refine below_set ?_ GE298.out) | exact HB.out)⟩
end Go.Proofs.YtidlldfghkaeeaaGreatDoor.P
end
section
namespace Go.Proofs.YtidlldfghkaeeaaGreatDoor.P
open Go.RowKit Go.Proofs.YtidlldfghkaeeaaGreatDoorW.PrintWords Go.Proofs.YtidlldfghkaeeaaGreatDoorW.PrintLast Go.Proofs.YtidlldfghkaeeaaGreatDoorW.PrintMore
theorem copied_l0 (l : List S42) (hl : l.length ≤ 100000) (hb : ∀ x ∈ l, x.f2.length ≤ 1000000000000) : ∀ (d i k : Nat) (acc : List S42), i + d = l.length → d < k → acc.length ≤ i → tree_copied.l0 k l (l.length : Int) (i : Int) acc = some (acc ++ l.drop i)
 | 0, i, k, acc, hd, hk, ha => by
  obtain ⟨k, rfl⟩ : ∃ m, k = m + 1 := ⟨k - 1, by omega⟩
  rw [tree_copied.l0, if_neg (by omega), List.drop_eq_nil_of_le (by omega), List.append_nil]
 | d + 1, i, k, acc, hd, hk, ha => by
  obtain ⟨k, rfl⟩ : ∃ m, k = m + 1 := ⟨k - 1, by omega⟩
  have hi : i < l.length := by omega
  have hw : wrap64 ((i : Int) + 1) = ((i + 1 : Nat) : Int) := wr1 (by omega)
  rw [tree_copied.l0, if_pos (by omega), if_pos (by omega), if_pos (by omega), rdT hi, own_eq (hb _ (List.getElem_mem hi)), Option.bind_some, if_pos (by omega), hw, copied_l0 l hl hb d (i + 1) k _ (by omega) (by omega) (by rw [List.length_append, List.length_singleton]; omega), List.drop_eq_getElem_cons hi, List.append_assoc, List.singleton_append]
theorem tree_copied.eq {l : List S42} {k : Nat} (h : okT l) (hk : l.length < k) : tree_copied.f k l = some l := by
 unfold tree_copied.f
 have h1 := okP_iff.1 h.1
 have h2 := copied_l0 l h1.2 (fun x hx => by have := nB_mem hx; have := h.2; omega) l.length 0 k [] (by omega) hk (Nat.zero_le _)
 rw [List.drop_zero, List.nil_append] at h2
 exact h2
def clean0 (l : List S42) : List S42 := if GT30 l then l.filter (fun x => !insB x) else l
def tree_Clean.f (l : List S42) : Option (List S42) := if okT l then some (clean0 l) else none
theorem tree_Clean.calls (P0_0_ : Nat → Prop) (A0_0 : Option Addr) (c0_0 : Nat) (l0_0 : List S42) (r : List S42) (w : World) (hs0_0 : Kd.V k42 42 w w.heap.size (fun k_ => P0_0_ k_) (.slice A0_0 l0_0.length c0_0) l0_0) (h : tree_Clean.f l0_0 = some r) :
  Calls Tryz.prog 24 #[.agg #[.slice A0_0 l0_0.length c0_0]] w fun e w' => ∃ v0_ : Value, e = .returned (.agg #[v0_]) ∧ Kd.V k42 42 w' w.heap.size (fun k_ => (P0_0_ k_ ∨ w.heap.size ≤ k_)) v0_ r ∧ Below w.heap.size w w' := by
 unfold tree_Clean.f at h
 split at h
 ·rename_i hok
  have hr := (Option.some.inj h).symm
  clear h
  have hu26 := Tryz.underlying26
  have hu30 := Tryz.underlying42
  have HS := Aside0.mk hs0_0
  have HRR := Aside0.mk hr
  have hC0 := (Kd.V_reads' hs0_0).2.2
  have hc0 := (Kd.V_reads' hs0_0).2.1
  have hge := tree_Good.eq hok
  have hce := tree_copied.eq (k := 100001) hok (by have := (okP_iff.1 hok.1).2; omega)
  have HOK := Aside0.mk (okP_iff.1 hok.1)
  obtain ⟨gd, hgd⟩ : ∃ gd, gd = decide (GT30 l0_0) := ⟨_, rfl⟩
  rw [← hgd] at hge
  have HGD := Aside0.mk hgd
  clear hgd hr hs0_0 hok
  have X0 := By.new w (.slice A0_0 l0_0.length c0_0)
  obtain ⟨m20, m40, f40⟩ := X0.cells
  go_enter Tryz.func24, Tryz.ntmps24
  go_wp2_with (fail)
  refine (tree_Good.calls A0_0 c0_0 l0_0 gd _ (Kd.C_below hC0 X0.b) hc0 hge).mono ?_
  rintro e W1 ⟨rfl, hb1⟩
  have X1 := X0.below hb1
  clear X0 hb1 hge m20 m40 f40
  dsimp only
  obtain ⟨m20, m40, f40⟩ := X1.cells
  cases gd with
  | false =>
   go_wp2_with (fail)
   refine bodyPost_ret (results_cell_row rfl _ _ (w.heap.size + 1) 26 #[.slice A0_0 l0_0.length c0_0] (0, 0) _ rfl (blk_put (cs := #[.slice none 0 0]) X1.k4 0 _ rfl) Tryz.underlying26 rfl (by kernel_rfl)) rfl ?_
   obtain rfl : r = l0_0 := by rw [HRR.out, clean0, if_neg (of_decide_eq_false HGD.out.symm)]
   exact ⟨_, rfl, V_came HS.out X1.b (by omega) _, X1.b.setCell (p := ⟨w.heap.size + 1, 0, none⟩) (by show w.heap.size ≤ w.heap.size + 1; omega) _⟩
  | true =>
   go_wp2_with (fail)
   refine (tree_copied.calls 100001 A0_0 c0_0 l0_0 l0_0 _ (Kd.C_below hC0 X1.b) hc0 hce).mono ?_
   rintro e W2 ⟨v2, rfl, hS2, hb2⟩
   have hN2 := Kd.S_N hS2
   obtain ⟨A2, c2, rfl⟩ := Kd.N_slice hN2
   have hs1 : w.heap.size + 2 ≤ W1.heap.size := by have := blk_lt X1.k4; omega
   have hs2 := hb2.size
   have X2 := (X1.below hb2).below (below_alloc (Below.refl _ W2) (.cells #[.slice A2 l0_0.length c2] 26))
   have bk2 := blk_new W2 (.cells #[.slice A2 l0_0.length c2] 26)
   have hNb : Kd.N k42 42 (W2.alloc (.cells #[.slice A2 l0_0.length c2] 26)) W1.heap.size (fun k => W1.heap.size ≤ k ∧ k ≠ W2.heap.size) (.slice A2 l0_0.length c2) l0_0 := by
    exact Kd.N_alloc (Kd.S_N (Kd.S_mono (Kd.S_bound hS2) fun k hk => ⟨hk.2.1, by have := hk.2.2.1; omega⟩)) _
   clear X1 hb2 hS2 hN2 hce m20 m40 f40
   dsimp only
   obtain ⟨m20, m40, f40⟩ := X2.cells
   have m3 := blk_cell bk2 0
   go_wp2_with (fail)
   refine (DeleteFE_calls W1.heap.size _ _ l0_0 _ hNb (by rw [World.size_alloc]; omega) HOK.out.2 HOK.out.1 (fun k hk => ⟨by rw [World.size_alloc] at hk; omega, by rw [World.size_alloc] at hk; omega⟩)).mono ?_
   rintro e W3 ⟨v3, rfl, hN3, hb3, hk3⟩
   obtain ⟨A3, c3, rfl⟩ := Kd.N_slice hN3
   have X3 := X2.belowB hs1 hb3
   have bk3 := (hk3 W2.heap.size (by rw [World.size_alloc]; omega) (by
    intro e
    have := Kd.N_lt hNb W2.heap.size e.symm
    have hh := hNb.1 W2.heap.size e.symm
    exact hh.2 rfl)).trans bk2
   have bk4 := blk_put (cs := #[.slice A2 l0_0.length c2]) bk3 0 (.slice A3 (l0_0.filter fun x => !insB x).length c3) rfl
   have m3' := blk_cell bk3 0
   have f3 := blk_frozen bk3 0
   have m4 := blk_cell bk4 0
   have hw2 : w.heap.size + 2 ≤ W2.heap.size := by omega
   have hV3 := Kd.V_far (base := w.heap.size) (p := ⟨W2.heap.size, 0, none⟩) (Kd.N_V hN3) (fun k hk => hk.2) (.slice A3 (l0_0.filter fun x => !insB x).length c3)
   have X4 : By w (W3.setCell ⟨W2.heap.size, 0, none⟩ (.slice A3 (l0_0.filter fun x => !insB x).length c3)) (.slice A0_0 l0_0.length c0_0) :=
    ⟨X3.b.setCell (p := ⟨W2.heap.size, 0, none⟩) (by show w.heap.size ≤ W2.heap.size; omega) _, (Below.heap_setCell _ _ _ _ (show w.heap.size ≠ W2.heap.size by omega)).trans X3.k2, (Below.heap_setCell _ _ _ _ (show w.heap.size + 1 ≠ W2.heap.size by omega)).trans X3.k4⟩
   have HV3 := Aside0.mk hV3
   have HRS : Aside0 (r = l0_0.filter fun x => !insB x) := ⟨by rw [HRR.out, clean0, if_pos (of_decide_eq_true HGD.out.symm)]⟩
   obtain ⟨fl, hfl⟩ : ∃ fl, fl = l0_0.filter fun x => !insB x := ⟨_, rfl⟩
   rw [← hfl] at HV3 HRS m4 X4 ⊢
   obtain ⟨m20', m40', f40'⟩ := X4.cells
   clear hfl hV3 hN3 hNb hk3 hb3 bk2 bk3 bk4 m3 m20 m40 f40 X2
   dsimp only
   go_wp2_with (fail)
   refine bodyPost_ret (results_cell_row rfl _ _ (w.heap.size + 1) 26 #[.slice A3 fl.length c3] (0, 0) _ rfl (blk_put (cs := #[.slice none 0 0]) X4.k4 0 _ rfl) Tryz.underlying26 rfl (by kernel_rfl)) rfl ?_
   obtain rfl : r = fl := HRS.out
   refine ⟨_, rfl, Kd.V_mono (Kd.V_far (p := ⟨w.heap.size + 1, 0, none⟩) HV3.out (fun k hk => ?_) _) (fun k hk => .inr (by have := hk.1; omega)), X4.b.setCell (p := ⟨w.heap.size + 1, 0, none⟩) (by show w.heap.size ≤ w.heap.size + 1; omega) _⟩
   show k ≠ w.heap.size + 1
   have := hk.1
   omega
 ·cases h
end Go.Proofs.YtidlldfghkaeeaaGreatDoor.P
end
