/- Put together by pack2.py: InsE, PfTreeUp, PfBytesClone, PfTreeEntryOwn -/
import Derived.Test.YtidlldfghkaeeaaGreatDoorZyPfTallymanref7RemoveEtc
import Derived.Test.YtidlldfghkaeeaaGreatDoorZyTreeOkPEtc
import Derived.Shelf.Spec.SlicesInsert
import Derived.Test.YtidlldfghkaeeaaGreatDoorZyRefNamesEtc
import Derived.Test.YtidlldfghkaeeaaGreatDoorZyW0
set_option linter.unusedVariables false
set_option linter.unusedSimpArgs false
set_option maxHeartbeats 8000000
set_option maxRecDepth 100000
section
namespace Go.Proofs.YtidlldfghkaeeaaGreatDoor.P
open Go.RowKit Go.Proofs.YtidlldfghkaeeaaGreatDoorW.PrintWords Go.Proofs.YtidlldfghkaeeaaGreatDoorW.PrintLast Go.Proofs.YtidlldfghkaeeaaGreatDoorW.PrintMore
theorem below_setRow {B : Nat} {w W : World} {g : Nat} (h : Below B w W) (hg : B ≤ g) (cs : Array Value) : Below B w (W.setRow g cs) := by
 refine ⟨h.os, h.tape, h.output, Nat.le_trans h.size (by simp), fun k hk => ?_⟩
 rw [setRow_other W g k cs (by omega)]
 exact h.block k hk
theorem run_lowA (A : Option Addr) (n c m : Nat) (hn : m ≤ n) : ∃ A' : Option Addr, ∀ W : World, (Instr.slice 24 (.slice A n c) (some (.int .i64 (m : Int))) none none).run Tryz.prog W = .ok (.slice A' (n - m) (c - m)) W := by
 have hs := sizeE
 cases hq : Tryz.prog.info? 42 with
 | none => simp [hq] at hs
 | some i =>
  have hi : i.size = 3 := by simpa [hq] using hs
  have hel : Tryz.prog.elem 24 = 42 := by simp [Program.elem, Tryz.underlying24]
  have hu : Tryz.prog.underlying 24 = some (.slice (Tryz.prog.elem 24)) := by rw [hel]; exact Tryz.underlying24
  refine ⟨if c = m then A else A.map (·.add (m * 3)), fun W => ?_⟩
  rw [run_slice_l W 24 A n c hu .i64 (m : Int) (Int.natCast_nonneg _) (by omega), hel]
  simp [sizeOf, typeInfo, hq, hi, sliced, Result.andThen]
structure OneE (W : World) (gv : Nat) (okv : Nat → Prop) (x : S42) (c : List Value) : Prop where
 hb : W.heap[gv]? = some (.cells c.toArray 42 (0, 0))
 hc : Rw c
 hf : Kd.FK k42 W okv x c
theorem OneE.F {W : World} {gv : Nat} {okv : Nat → Prop} {x : S42} {c : List Value} (h : OneE W gv okv x c) : Kd.F k42 W (fun k => okv k ∨ k = gv) (some ⟨gv, 0, none⟩) 1 [x] := by
 intro W' hW
 have hlt := blk_lt h.hb
 have hb' : W'.heap[gv]? = some (.cells c.toArray 42 (0, 0)) := (hW gv (.inr rfl) hlt).trans h.hb
 refine ⟨rfl, by decide, fun _ => ⟨_, rfl, fun j p hj => ?_⟩⟩
 have hj0 : j = 0 := by
  have := (List.getElem?_eq_some_iff.1 hj).1
  simpa using this
 subst hj0
 obtain rfl : x = p := by simpa using hj
 refine ⟨c, h.hc.1, h.hf W' (fun k hk hlt => hW k (.inl hk) hlt), fun q u hq => ?_⟩
 rw [Nat.zero_mul, Nat.zero_add, add_at, Nat.zero_add]
 rw [← hq]
 exact (blk_cell hb' q).trans (by simp)
theorem ins_at {α β : Type} {xs : List α} {rows : List β} (hl : rows.length = xs.length) {i : Nat} (hi : i ≤ xs.length) {x : α} {c : β} {R : α → β → Prop} (hR : ∀ (j : Nat) y d, xs[j]? = some y → rows[j]? = some d → R y d) (hx : R x c) :
  ∀ (j : Nat) y d, (xs.take i ++ x :: xs.drop i)[j]? = some y → (rows.take i ++ c :: rows.drop i)[j]? = some d → R y d := by
 intro j y d h1 h2
 have l1 : (xs.take i).length = i := by rw [List.length_take]; omega
 have l2 : (rows.take i).length = i := by rw [List.length_take]; omega
 rcases Nat.lt_trichotomy j i with h | h | h
 ·rw [List.getElem?_append_left (by omega), List.getElem?_take, if_pos h] at h1 h2
  exact hR j y d h1 h2
 ·subst h
  rw [List.getElem?_append_right (by omega), l1, Nat.sub_self] at h1
  rw [List.getElem?_append_right (by omega), l2, Nat.sub_self] at h2
  obtain rfl : x = y := by simpa using h1
  obtain rfl : c = d := by simpa using h2
  exact hx
 ·rw [List.getElem?_append_right (by omega), l1, show j - i = (j - i - 1) + 1 by omega, List.getElem?_cons_succ, List.getElem?_drop] at h1
  rw [List.getElem?_append_right (by omega), l2, show j - i = (j - i - 1) + 1 by omega, List.getElem?_cons_succ, List.getElem?_drop] at h2
  exact hR _ y d h1 h2
theorem hov117 (w : World) (gv g o lb cb : Nat) (ca cb' : Array Value) (hne : gv ≠ g) (ha : w.heap[gv]? = some (.cells ca 42 (0, 0))) (hb : w.heap[g]? = some (.cells cb' 42 (0, 0))) (hsz : cb'.size ≠ 0) :
  (callFunc 98 #[.slice (some ⟨gv, 0, none⟩) 1 1, .slice (some ⟨g, o, none⟩) lb cb]).run Tryz.prog w = .ok (.value (.bool false)) w := by
 have hs := sizeE
 have hz : ∀ w, (Go.sizeOf 42).run Tryz.prog w = .ok 3 w := fun w => by
  cases hq : Tryz.prog.info? 42 with
  | none => simp [hq] at hs
  | some i =>
   have hi : i.size = 3 := by simpa [hq] using hs
   simp [Go.sizeOf, typeInfo, hq, hi]
 rw [run_callFunc_extern Tryz.func98 (by kernel_rfl) (by kernel_rfl) (by kernel_rfl) (e := Extern.SlicesOverlaps.overlaps #[24, 24] #[4]) (by kernel_rfl),
  Lib.run_overlaps_apart w 24 4 42 Tryz.underlying24 3 hz ⟨gv, 0, none⟩ ⟨g, o, none⟩ 1 1 lb cb hne 42 42 ca.size cb'.size (by simp [World.shape?, ha]) (by simp [World.shape?, hb]) hsz (by simp [World.frozen?, ha]) (by simp [World.frozen?, ha])]
 rfl
theorem belowD {B : Nat} {w W : World} (h : Below B w W) : Below B w W.drew := ⟨h.os, h.tape, h.output, h.size, h.block⟩
theorem natsub1 {c i : Nat} (h : i ≤ c) : ((c : Int) + 1 - (i : Int)) = ((c + 1 - i : Nat) : Int) := by omega
theorem wr3 {n : Nat} (h : n ≤ 1000000) : IntKind.i64.wrap ((n : Int) + 1) = (n : Int) + 1 := by rw [IntKind.wrap_i64]; omega
theorem wr1 {n : Nat} (h : n ≤ 1000000) : wrap64 ((n : Int) + 1) = ((n + 1 : Nat) : Int) := by unfold wrap64; omega
theorem NB.h3 {W : World} {base : Nat} {ok : Nat → Prop} {g n cap : Nat} {rows : List (List Value)} {tail : List Value} {xs : List S42} (h : NB W base ok g n cap rows tail xs) : ∀ r ∈ rows, r.length = 3 := fun r hr => (h.hw r hr).1
theorem NB.src {W : World} {base : Nat} {ok : Nat → Prop} {g n cap : Nat} {rows : List (List Value)} {tail : List Value} {xs : List S42} (h : NB W base ok g n cap rows tail xs) (i : Nat) :
  ∀ j v, (rows.drop i).flatten[j]? = some v → W.cell? ((⟨g, i * 3, none⟩ : Addr).add j) = some v := fun j v hj => by
 have hlt : j < (rows.drop i).flatten.length := (List.getElem?_eq_some_iff.1 hj).1
 have hl2 : i * 3 + j < rows.flatten.length := by
  have e := flat_drop i h.h3
  rw [← e, List.length_drop] at hlt
  omega
 rw [add_at, blk_cell h.hb, List.getElem?_toArray, List.getElem?_append_left hl2, ← hj, ← flat_drop i h.h3, List.getElem?_drop]
theorem OneE.src {W : World} {gv : Nat} {okv : Nat → Prop} {x : S42} {c : List Value} (h : OneE W gv okv x c) : ∀ j v, c[j]? = some v → W.cell? ((⟨gv, 0, none⟩ : Addr).add j) = some v := fun j v hj => by
 rw [add_at, blk_cell h.hb, Nat.zero_add, List.getElem?_toArray, hj]
theorem ins_rw {rows : List (List Value)} {c : List Value} (h : ∀ r ∈ rows, Rw r) (hc : Rw c) (i : Nat) : ∀ r ∈ rows.take i ++ c :: rows.drop i, Rw r := fun r hr => by
 rcases List.mem_append.1 hr with hr | hr
 ·exact h r (List.mem_of_mem_take hr)
 ·rcases List.mem_cons.1 hr with rfl | hr
  ·exact hc
  ·exact h r (List.mem_of_mem_drop hr)
theorem NB.ins {w Wf : World} {B : Nat} {ok okv : Nat → Prop} {g gf n cap capf i : Nat} {rows : List (List Value)} {tail tailf : List Value} {xs : List S42} {x : S42} {c : List Value} (h : NB w B ok g n cap rows tail xs) (hc : Rw c) (hf : Kd.FK k42 w okv x c) (hi : i ≤ n)
  (hb : Wf.heap[gf]? = some (.cells ((rows.take i ++ c :: rows.drop i).flatten ++ tailf).toArray 42 (0, 0))) (hg : B ≤ gf) (hok : ok gf) (hcap : n + 1 ≤ capf) (hm : capf ≤ maxLen) (ht : tailf.length = (capf - (n + 1)) * 3)
  (hW : ∀ k, ok k → k ≠ g → k < w.heap.size → k ≠ gf ∧ Wf.heap[k]? = w.heap[k]?) (hokv : ∀ k, okv k → ok k ∧ k ≠ g) : NB Wf B ok gf (n + 1) capf (rows.take i ++ c :: rows.drop i) tailf (xs.take i ++ x :: xs.drop i) where
 hb := hb
 hg := hg
 hok := hok
 hn := by
  have := h.hn
  rw [List.length_append, List.length_cons, List.length_take, List.length_drop]
  omega
 hc := hcap
 hm := hm
 hl := by
  have := h.hl
  rw [List.length_append, List.length_cons, List.length_take, List.length_drop]
  omega
 hw := ins_rw h.hw hc i
 ht := ht
 hf := ins_at (R := fun x c => Kd.FK k42 Wf (fun k => ok k ∧ k ≠ gf) x c) (by rw [h.hl, h.hn]) (by rw [← h.hn]; exact hi)
  (fun j y d hy hd => Kd.FK_mono (Kd.FK_step (Kd.FK_bound (h.hf j y d hy hd)) fun k hk hlt => (hW k hk.1.1 hk.1.2 hk.2).2) fun k hk => ⟨hk.1.1, (hW k hk.1.1 hk.1.2 hk.2).1⟩)
  (Kd.FK_mono (Kd.FK_step (Kd.FK_bound hf) fun k hk hlt => (hW k (hokv k hk.1).1 (hokv k hk.1).2 hk.2).2) fun k hk => ⟨(hokv k hk.1).1, (hW k (hokv k hk.1).1 (hokv k hk.1).2 hk.2).1⟩)
theorem Insert_room (B : Nat) (ok okv : Nat → Prop) (g gv n cap i : Nat) (rows : List (List Value)) (tail : List Value) (xs : List S42) (x : S42) (c : List Value) (w : World) (h : NB w B ok g n cap rows tail xs) (hv : OneE w gv okv x c) (hB : B ≤ w.heap.size) (hi : i < n) (hr : n + 1 ≤ cap) (hn : n ≤ 100000) (hne : gv ≠ g) (hokv : ∀ k, okv k → ok k ∧ k ≠ g) :
  Calls Tryz.prog 84 #[.slice (some ⟨g, 0, none⟩) n cap, .int .i64 (i : Int), .slice (some ⟨gv, 0, none⟩) 1 1] w fun e w' => ∃ v', e = .returned v' ∧ Kd.N k42 42 w' B ok v' (xs.take i ++ x :: xs.drop i) ∧ Below B w w' := by
 have h3 : ∀ r ∈ rows, r.length = 3 := fun r hr => (h.hw r hr).1
 have hfl := flat_len h3
 have hl := h.hl
 have ht := h.ht
 have hz2 : ((i : Int) == (n : Int)) = false := beq_eq_false_iff_ne.2 (by omega)
 have hroom : decide ((cap : Int) < (n : Int) + 1) = false := decide_eq_false (by omega)
 have hs0 := fun W => run_low W g n cap i (by omega) (by omega)
 have hs1 := fun W => run_high W (some ⟨g, 0, none⟩) n cap (n + 1) hr
 have hs2 := fun W => run_low W g (n + 1) cap (i + 1) (by omega) (by omega)
 have hs3 := fun W => run_low W g (n + 1) cap i (by omega) (by omega)
 have hov := fun lb cb => hov117 w gv g ((i + 1) * 3) lb cb _ _ hne hv.hb h.hb (by rw [List.size_toArray, List.length_append, hfl]; omega)
 have hfd : (rows.drop i).flatten.length = (n - i) * 3 := by rw [← flat_drop i h3, List.length_drop, hfl, hl]; omega
 have hft : (rows.take i).flatten.length = i * 3 := by rw [← flat_take i h3, List.length_take, hfl, hl]; omega
 have hsp : rows.flatten = (rows.take i).flatten ++ (rows.drop i).flatten := by rw [← List.flatten_append, List.take_append_drop]
 obtain ⟨cur1, hc1⟩ : ∃ cur1 : Array Value, cur1 = ((rows.flatten ++ tail).take ((i + 1) * 3) ++ (rows.drop i).flatten ++ tail.drop 3).toArray := ⟨_, rfl⟩
 obtain ⟨cur2, hc2⟩ : ∃ cur2 : Array Value, cur2 = ((rows.take i ++ c :: rows.drop i).flatten ++ tail.drop 3).toArray := ⟨_, rfl⟩
 have hsz1 : cur1.size = cap * 3 := by
  rw [hc1, List.size_toArray, List.length_append, List.length_append, List.length_take, List.length_append, hfl, hl, hfd, List.length_drop, ht]
  omega
 have e1 : ((rows.flatten ++ tail).toArray.toList.take ((i + 1) * 3) ++ (rows.drop i).flatten ++ (rows.flatten ++ tail).toArray.toList.drop ((i + 1) * 3 + (rows.drop i).flatten.length)).toArray = cur1 := by
  have hdt : (rows.flatten ++ tail).toArray.toList.drop ((i + 1) * 3 + (n - i) * 3) = tail.drop 3 := by
   rw [List.toList_toArray, List.drop_append, List.drop_of_length_le (l := rows.flatten) (by rw [hfl, hl]; omega), List.nil_append, hfl, hl, show (i + 1) * 3 + (n - i) * 3 - n * 3 = 3 by omega]
  rw [hc1, hfd, hdt]
 have e2 : (cur1.toList.take (i * 3) ++ c ++ cur1.toList.drop (i * 3 + c.length)).toArray = cur2 := by
  have hcl := hv.hc.1
  rw [hc1, hc2, hcl]
  congr 1
  have hd : ∀ (L : List Value), L.length = (i + 1) * 3 → (L ++ (rows.drop i).flatten ++ tail.drop 3).drop (i * 3 + 3) = (rows.drop i).flatten ++ tail.drop 3 := fun L hL => by
   rw [List.append_assoc, List.drop_append, List.drop_eq_nil_of_le (by omega), List.nil_append, hL, show i * 3 + 3 - (i + 1) * 3 = 0 by omega, List.drop_zero]
  have hL : ((rows.flatten ++ tail).take ((i + 1) * 3)).length = (i + 1) * 3 := by
   rw [List.length_take, List.length_append, hfl, hl, ht]
   omega
  have htk : ((rows.flatten ++ tail).take ((i + 1) * 3) ++ (rows.drop i).flatten ++ tail.drop 3).take (i * 3) = (rows.take i).flatten := by
   rw [List.append_assoc, List.take_append, hL, show i * 3 - (i + 1) * 3 = 0 by omega, List.take_zero, List.append_nil, List.take_take, show min (i * 3) ((i + 1) * 3) = i * 3 by omega, List.take_append, hfl, hl, show i * 3 - n * 3 = 0 by omega, List.take_zero, List.append_nil, flat_take i h3]
  rw [List.toList_toArray, htk, hd _ hL, List.flatten_append, List.flatten_cons]
  simp only [List.append_assoc]
 have hbd : w.drew.heap[g]? = some (.cells (rows.flatten ++ tail).toArray 42 (0, 0)) := h.hb
 have hcp1 : ∀ ty dc sc, (Builtin.copy_ #[24, 24] ty #[.slice (some ⟨g, (i + 1) * 3, none⟩) (n - i) dc, .slice (some ⟨g, i * 3, none⟩) (n + 1 - i) sc]).run Tryz.prog w.drew = .ok (goInt (Nat.min (n + 1 - i) (n - i))) (w.drew.setRow g cur1) := fun ty dc sc => by
  rw [← e1]
  exact run_copy3 w.drew ty g ((i + 1) * 3) (n - i) dc ⟨g, i * 3, none⟩ (n + 1 - i) sc _ _ hbd (by rw [hfd, show Nat.min (n + 1 - i) (n - i) = n - i from by show min _ _ = _; omega]) (fun j v hj => h.src i j v hj)
   (by rw [hfd, List.size_toArray, List.length_append, hfl, hl, ht]; omega) (fun v hv => by
    obtain ⟨r, hr, hvr⟩ := List.mem_flatten.1 hv
    exact (h.hw r (List.mem_of_mem_drop hr)).2 v hvr)
 have hb1 : (w.drew.setRow g cur1).heap[g]? = some (.cells cur1 42 (0, 0)) := setRow_heap _ g _ _ _ _ hbd
 have hvs : ∀ j u, c[j]? = some u → (w.drew.setRow g cur1).cell? ((⟨gv, 0, none⟩ : Addr).add j) = some u := fun j u hj => by
  have h1 := hv.src j u hj
  rw [add_at] at h1 ⊢
  unfold World.cell? at h1 ⊢
  rw [setRow_other _ _ _ _ hne]
  exact h1
 have hcp2 : ∀ ty dc, (Builtin.copy_ #[24, 24] ty #[.slice (some ⟨g, i * 3, none⟩) (n + 1 - i) dc, .slice (some ⟨gv, 0, none⟩) 1 1]).run Tryz.prog (w.drew.setRow g cur1) = .ok (goInt (Nat.min 1 (n + 1 - i))) ((w.drew.setRow g cur1).setRow g cur2) := fun ty dc => by
  rw [← e2]
  exact run_copy3 _ ty g (i * 3) (n + 1 - i) dc ⟨gv, 0, none⟩ 1 1 cur1 c hb1 (by rw [hv.hc.1, show Nat.min 1 (n + 1 - i) = 1 from by show min _ _ = _; omega]) hvs (by rw [hv.hc.1, hsz1]; omega) hv.hc.2
 have hfin : NB ((w.drew.setRow g cur1).setRow g cur2) B ok g (n + 1) cap (rows.take i ++ c :: rows.drop i) (tail.drop 3) (xs.take i ++ x :: xs.drop i) :=
  h.ins hv.hc hv.hf (Nat.le_of_lt hi) (by rw [← hc2]; exact setRow_heap _ g _ _ _ _ hb1) h.hg h.hok hr h.hm (by rw [List.length_drop, ht]; omega)
   (fun k hk hkg hlt => ⟨hkg, by rw [setRow_other _ _ _ _ hkg, setRow_other _ _ _ _ hkg]; rfl⟩) hokv
 have hN := Aside0.mk (NB_N hfin)
 have hBel : Aside0 (Below B w ((w.drew.setRow g cur1).setRow g cur2)) := ⟨below_setRow (below_setRow (below_drew (Below.refl B w)) h.hg _) h.hg _⟩
 clear e1 e2 hfin hvs hb1 hbd hc1 hc2 hsz1 hsp hfd hft hfl h3 ht hl
 have HW := Aside0.mk h
 have HV := Aside0.mk hv
 clear h hv hokv
 have w1 := wr1 (n := n) (by omega)
 have w2 := wr1 (n := i) (by omega)
 have hz1 : ¬ ((i : Int) = (n : Int)) := by omega
 go_enter Tryz.func84, Tryz.ntmps84
 go_wp2_with (simp only [hov])
 have hb1 : (0 : Int) ≤ (i : Int) + 1 := by omega
 have htn : ((i : Int) + 1).toNat = i + 1 := by omega
 have hb2 : ¬ (cap = i + 1) := by omega
 have hb3 : (i : Int) + 1 ≤ (n : Int) + 1 := by omega
 have hb4 : ¬ (cap = i) := by omega
 have hb5 : (i : Int) ≤ (n : Int) + 1 := by omega
 have hb6 : i ≤ n := by omega
 have hw3 := wr3 (n := i) (by omega)
 clear w1 w2
 have mixed : Tryz.prog.follows .mixedOrders = true := by kernel_rfl
 go_region_law_o (refine step_copy_runI rfl _ _ 24 24 rfl _ _ (by simp [Act.eval, Act.put]) (by simp [Act.eval, Act.put]) (hcp1 _ _ _) ?_)
 go_wp2_with (at_builtin; refine wpList_copy_runI _ rfl _ _ 24 24 rfl _ _ rfl rfl (hcp2 _ _) ?_)
 go_ret
 exact ⟨_, rfl, hN.out, hBel.out⟩
theorem Insert_grow (B : Nat) (ok okv : Nat → Prop) (g gv n cap i : Nat) (rows : List (List Value)) (tail : List Value) (xs : List S42) (x : S42) (c : List Value) (w : World) (h : NB w B ok g n cap rows tail xs) (hv : OneE w gv okv x c) (hB : B ≤ w.heap.size) (hi : i < n) (hr : cap < n + 1) (hn : n ≤ 100000) (hne : gv ≠ g) (hokv : ∀ k, okv k → ok k ∧ k ≠ g) (hfresh : ∀ k, w.heap.size ≤ k → ok k) :
  Calls Tryz.prog 84 #[.slice (some ⟨g, 0, none⟩) n cap, .int .i64 (i : Int), .slice (some ⟨gv, 0, none⟩) 1 1] w fun e w' => ∃ v', e = .returned v' ∧ Kd.N k42 42 w' B ok v' (xs.take i ++ x :: xs.drop i) ∧ Below B w w' := by
 have h3 : ∀ r ∈ rows, r.length = 3 := fun r hr => (h.hw r hr).1
 have hfl := flat_len h3
 have hl := h.hl
 have ht := h.ht
 have hcap : cap = n := by have := h.hc; omega
 subst hcap
 have hz2 : ((i : Int) == (cap : Int)) = false := beq_eq_false_iff_ne.2 (by omega)
 have hroom : decide ((cap : Int) < (cap : Int) + 1) = true := decide_eq_true (by omega)
 obtain ⟨i0, hi0, hz0, hz3, hz4⟩ := info_parts infoE
 obtain ⟨z, hz⟩ : ∃ z : Value, z = .agg #[.string ⟨#[]⟩, .bool false, .slice none 0 0] := ⟨_, rfl⟩
 rw [← hz] at hz0
 have hzs : z.cells.size = 3 := by rw [hz]; rfl
 have hfd : (rows.drop i).flatten.length = (cap - i) * 3 := by rw [← flat_drop i h3, List.length_drop, hfl, hl]; omega
 have hft : (rows.take i).flatten.length = i * 3 := by rw [← flat_take i h3, List.length_take, hfl, hl]; omega
 have hsp : rows.flatten = (rows.take i).flatten ++ (rows.drop i).flatten := by rw [← List.flatten_append, List.take_append_drop]
 have hgv := blk_lt hv.hb
 have hgg := blk_lt h.hb
 have hold : (Builtin.firstCells i0.size i (.slice (some ⟨g, 0, none⟩) i cap)).run Tryz.prog w.drew = .ok (rows.take i).flatten.toArray w.drew := by
  rw [hz3]
  refine run_firstCells_some w.drew 3 i ⟨g, 0, none⟩ i cap _ hft (fun j v hj => ?_)
  have hlt : j < (rows.take i).flatten.length := (List.getElem?_eq_some_iff.1 hj).1
  have e : (⟨g, 0, none⟩ : Addr).add j = ⟨g, j, none⟩ := by rw [add_at, Nat.zero_add]
  rw [e]
  have hc := blk_cell h.hb j
  rw [List.getElem?_toArray, hsp, List.append_assoc, List.getElem?_append_left hlt, hj] at hc
  exact hc
 obtain ⟨capf, hcf⟩ : ∃ capf, capf = grownCap w (i + (cap + 1 - i)) cap 42 := ⟨_, rfl⟩
 have hcf1 : cap + 1 ≤ capf := by have := grownCap_ge w (i + (cap + 1 - i)) cap 42; omega
 have hcf2 : capf ≤ maxLen := by rw [hcf]; exact grownCap_le_maxLen _ _ _ _ (by simp only [maxLen]; omega)
 obtain ⟨Z, hZ⟩ : ∃ Z : List Value, Z = (Builtin.zeroCells z.cells (cap + 1 - i) ++ Builtin.zeroCells z.cells (capf - (i + (cap + 1 - i)))).toList := ⟨_, rfl⟩
 have hZl : Z.length = (capf - i) * 3 := by
  rw [hZ, Array.length_toList, Array.size_append, size_zeroCells, size_zeroCells, hzs]
  omega
 obtain ⟨W1, hW1⟩ : ∃ W1, W1 = w.drew.alloc (.cells ((rows.take i).flatten ++ Z).toArray 42) := ⟨_, rfl⟩
 have hap : ∀ ty, (Builtin.append_ #[24, 3] ty #[.slice (some ⟨g, 0, none⟩) i cap, .int .i64 ((cap + 1 - i : Nat) : Int)]).run Tryz.prog w = .ok (.slice (some ⟨w.heap.size, 0, none⟩) (cap + 1) capf) W1 := fun ty => by
  have h1 := Lib.run_append_grow_zeros (P := Tryz.prog) w 24 3 ty 42 i0 z .i64 .i64 Tryz.underlying24 Tryz.underlying3 hi0 hz0 (some ⟨g, 0, none⟩) i cap _ hold (cap + 1 - i) (by omega) (by omega) (by omega) (by omega) (by rw [hz4]; omega) (by rw [hz4]; exact growslice_fits (by omega) (by omega))
  rw [h1, ← hcf, hW1, hZ, show i + (cap + 1 - i) = cap + 1 by omega]
  congr 3
  apply Array.toList_inj.1
  simp
 have hb1 : W1.heap[w.heap.size]? = some (.cells ((rows.take i).flatten ++ Z).toArray 42 (0, 0)) := by rw [hW1]; exact blk_new w.drew _
 have hBel0 : Below w.heap.size w W1 := by
  rw [hW1]
  exact below_alloc (below_drew (Below.refl _ _)) _
 have hWo : ∀ k, k < w.heap.size → W1.heap[k]? = w.heap[k]? := fun k hk => hBel0.block k hk
 have hBel1 : Below B w W1 := hBel0.mono hB
 obtain ⟨g1, hg1⟩ : ∃ g1, g1 = w.heap.size := ⟨_, rfl⟩
 rw [← hg1] at hap hb1
 have hBg : B ≤ g1 := by omega
 have hs0 := fun W => run_low W g cap cap i (by omega) (by omega)
 have hs1 := fun W => run_high W (some ⟨g, 0, none⟩) cap cap i (by omega)
 have hs2 := fun W => run_low W g1 (cap + 1) capf i (by omega) (by omega)
 have hs3 := fun W => run_low W g1 (cap + 1) capf (i + 1) (by omega) (by omega)
 obtain ⟨cur1, hc1⟩ : ∃ cur1 : Array Value, cur1 = ((rows.take i).flatten ++ c ++ Z.drop 3).toArray := ⟨_, rfl⟩
 obtain ⟨cur2, hc2⟩ : ∃ cur2 : Array Value, cur2 = ((rows.take i ++ c :: rows.drop i).flatten ++ Z.drop ((cap + 1 - i) * 3)).toArray := ⟨_, rfl⟩
 have hcl := hv.hc.1
 have hsz1 : cur1.size = capf * 3 := by
  rw [hc1, List.size_toArray, List.length_append, List.length_append, hft, hcl, List.length_drop, hZl]
  omega
 have e1 : (((rows.take i).flatten ++ Z).toArray.toList.take (i * 3) ++ c ++ ((rows.take i).flatten ++ Z).toArray.toList.drop (i * 3 + c.length)).toArray = cur1 := by
  have hdt : ((rows.take i).flatten ++ Z).toArray.toList.drop (i * 3 + 3) = Z.drop 3 := by
   rw [List.toList_toArray, List.drop_append, List.drop_of_length_le (l := (rows.take i).flatten) (by omega), List.nil_append, hft, show i * 3 + 3 - i * 3 = 3 by omega]
  have htt : ((rows.take i).flatten ++ Z).toArray.toList.take (i * 3) = (rows.take i).flatten := by
   rw [List.toList_toArray, ← hft, List.take_left]
  rw [hc1, hcl, hdt, htt]
 have e2 : (cur1.toList.take ((i + 1) * 3) ++ (rows.drop i).flatten ++ cur1.toList.drop ((i + 1) * 3 + (rows.drop i).flatten.length)).toArray = cur2 := by
  have hA : ((rows.take i).flatten ++ c).length = (i + 1) * 3 := by rw [List.length_append, hft, hcl]; omega
  have htt : cur1.toList.take ((i + 1) * 3) = (rows.take i).flatten ++ c := by
   rw [hc1, List.toList_toArray, ← hA, List.take_left]
  have hdt : cur1.toList.drop ((i + 1) * 3 + (cap - i) * 3) = Z.drop ((cap + 1 - i) * 3) := by
   rw [hc1, List.toList_toArray, List.drop_append, List.drop_of_length_le (l := (rows.take i).flatten ++ c) (by omega), List.nil_append, hA, List.drop_drop, show (3 + ((i + 1) * 3 + (cap - i) * 3 - (i + 1) * 3)) = (cap + 1 - i) * 3 by omega]
  rw [hfd, htt, hdt, hc2, List.flatten_append, List.flatten_cons]
  simp only [List.append_assoc]
 have hvs : ∀ j u, c[j]? = some u → W1.cell? ((⟨gv, 0, none⟩ : Addr).add j) = some u := fun j u hj => by
  have h1 := hv.src j u hj
  rw [add_at] at h1 ⊢
  unfold World.cell? at h1 ⊢
  rw [hWo gv hgv]
  exact h1
 have hcp1 : ∀ ty dc, (Builtin.copy_ #[24, 24] ty #[.slice (some ⟨g1, i * 3, none⟩) (cap + 1 - i) dc, .slice (some ⟨gv, 0, none⟩) 1 1]).run Tryz.prog W1 = .ok (goInt (Nat.min 1 (cap + 1 - i))) (W1.setRow g1 cur1) := fun ty dc => by
  rw [← e1]
  exact run_copy3 W1 ty g1 (i * 3) (cap + 1 - i) dc ⟨gv, 0, none⟩ 1 1 _ c hb1 (by rw [hcl, show Nat.min 1 (cap + 1 - i) = 1 from by show min _ _ = _; omega]) hvs (by rw [hcl, List.size_toArray, List.length_append, hft, hZl]; omega) hv.hc.2
 have hb2 : (W1.setRow g1 cur1).heap[g1]? = some (.cells cur1 42 (0, 0)) := setRow_heap _ g1 _ _ _ _ hb1
 obtain ⟨W2, hW2⟩ : ∃ W2, W2 = (W1.setRow g1 cur1).drew := ⟨_, rfl⟩
 have hb2d : W2.heap[g1]? = some (.cells cur1 42 (0, 0)) := by rw [hW2]; exact hb2
 have hgg1 : g ≠ g1 := by omega
 have hW2o : ∀ k, k < w.heap.size → W2.heap[k]? = w.heap[k]? := fun k hk => by
  rw [hW2]
  show (W1.setRow g1 cur1).heap[k]? = _
  rw [setRow_other _ _ _ _ (by omega)]
  exact hWo k hk
 have hcp2 : ∀ ty dc sc, (Builtin.copy_ #[24, 24] ty #[.slice (some ⟨g1, (i + 1) * 3, none⟩) (cap - i) dc, .slice (some ⟨g, i * 3, none⟩) (cap - i) sc]).run Tryz.prog (W1.setRow g1 cur1).drew = .ok (goInt (Nat.min (cap - i) (cap - i))) ((W1.setRow g1 cur1).drew.setRow g1 cur2) := fun ty dc sc => by
  rw [← hW2, ← e2]
  refine run_copy3 W2 ty g1 ((i + 1) * 3) (cap - i) dc ⟨g, i * 3, none⟩ (cap - i) sc _ _ hb2d (by rw [hfd, show Nat.min (cap - i) (cap - i) = cap - i from by show min _ _ = _; omega]) (fun j v hj => ?_)
   (by rw [hfd, hsz1]; omega) (fun v hv => by
    obtain ⟨r, hr, hvr⟩ := List.mem_flatten.1 hv
    exact (h.hw r (List.mem_of_mem_drop hr)).2 v hvr)
  have h1 := h.src i j v hj
  rw [add_at] at h1 ⊢
  unfold World.cell? at h1 ⊢
  rw [hW2o g hgg]
  exact h1
 have hfin : NB ((W1.setRow g1 cur1).drew.setRow g1 cur2) B ok g1 (cap + 1) capf (rows.take i ++ c :: rows.drop i) (Z.drop ((cap + 1 - i) * 3)) (xs.take i ++ x :: xs.drop i) :=
  h.ins hv.hc hv.hf (Nat.le_of_lt hi) (by rw [← hc2, ← hW2]; exact setRow_heap _ g1 _ _ _ _ hb2d) hBg (hfresh _ (by omega)) hcf1 hcf2 (by rw [List.length_drop, hZl]; omega)
   (fun k hk hkg hlt => ⟨by omega, by rw [setRow_other _ _ _ _ (by omega), ← hW2]; exact hW2o k hlt⟩) hokv
 have hN := Aside0.mk (NB_N hfin)
 have hBel : Aside0 (Below B w ((W1.setRow g1 cur1).drew.setRow g1 cur2)) := ⟨below_setRow (belowD (below_setRow hBel1 hBg _)) hBg _⟩
 have HW := Aside0.mk h
 have HV := Aside0.mk hv
 have hb4 : ¬ (capf = i) := by omega
 have hb5 : ¬ (capf = i + 1) := by omega
 have hb6 : ¬ (cap = i) := by omega
 have hb7 : i ≤ cap := by omega
 have hb8 : (i : Int) ≤ (cap : Int) := by omega
 have hb9 : (0 : Int) ≤ (i : Int) + 1 := by omega
 have hb10 : (i : Int) + 1 ≤ (cap : Int) + 1 := by omega
 have htn : ((i : Int) + 1).toNat = i + 1 := by omega
 have hz1 : ¬ ((i : Int) = (cap : Int)) := by omega
 have hk := natsub1 (c := cap) (i := i) hb7
 have hi6 : i ≤ 1000000 := by omega
 have hn6 : cap ≤ 1000000 := by omega
 have hw3 := wr3 hi6
 have mixed : Tryz.prog.follows .mixedOrders = true := by kernel_rfl
 clear e1 e2 hfin hvs hb1 hc1 hc2 hsz1 hsp hfd hft hfl h3 ht hl hold hWo hBel0 hBel1 hb2 hb2d hW2 hW2o hcf hZ hZl hW1 h hv hokv hfresh hz hz0 hzs hi0 hz3 hz4 hcl
 rw [← hk] at hap
 clear hk hg1
 go_enter Tryz.func84, Tryz.ntmps84
 go_wp2_with (first
  | (at_builtin; refine Lib.wpList_append_run _ rfl _ _ _ _ rfl _ _ rfl rfl _ _ (hap _) ?_)
  | (at_builtin; refine wpList_copy_runI _ rfl _ _ 24 24 rfl _ _ rfl rfl (hcp1 _ _) ?_))
 go_region_law_o (refine step_copy_runI rfl _ _ 24 24 rfl (.slice (some ⟨g1, (i + 1) * 3, none⟩) (cap - i) (capf - (i + 1))) (.slice (some ⟨g, i * 3, none⟩) (cap - i) (cap - i)) (by simp [Act.eval, Act.put]) (by simp [Act.eval, Act.put]) (hcp2 _ _ _) ?_)
 go_wp2_with (fail)
 go_ret
 exact ⟨_, rfl, hN.out, hBel.out⟩
theorem Insert_end (B : Nat) (ok okv : Nat → Prop) (A : Option Addr) (gv n cap : Nat) (xs : List S42) (x : S42) (c : List Value) (w : World) (h : Kd.N k42 42 w B ok (.slice A n cap) xs) (hv : OneE w gv okv x c) (hB : B ≤ w.heap.size) (hn : n ≤ 100000) (hgv : ok gv) (hne : some gv ≠ (Value.slice A n cap).ownBlock) (hokv : ∀ k, okv k → ok k ∧ some k ≠ (Value.slice A n cap).ownBlock) (hfresh : ∀ k, w.heap.size ≤ k → ok k) :
  Calls Tryz.prog 84 #[.slice A n cap, .int .i64 (n : Int), .slice (some ⟨gv, 0, none⟩) 1 1] w fun e w' => ∃ v', e = .returned v' ∧ Kd.N k42 42 w' B ok v' (xs ++ [x]) ∧ Below B w w' := by
 have hnx := (Kd.N_reads' h).1
 obtain ⟨A', hs0⟩ := run_lowA A n cap n (Nat.le_refl _)
 have HN := Aside0.mk h
 have HV := Aside0.mk hv
 have HOK := Aside0.mk hokv
 have HFR := Aside0.mk hfresh
 clear h hv hokv hfresh
 go_enter Tryz.func84, Tryz.ntmps84
 go_wp2_with (at_builtin; refine Kd.N_append_rows k42 (w0 := w) B rfl _ _ 24 42 _ 48 rfl Tryz.underlying24 infoE rfl (by decide) (by omega) (.slice A n cap) xs [x] (some ⟨gv, 0, none⟩) 1 1 ok (fun k => okv k ∨ k = gv) rfl rfl HN.out HV.out.F (fun k hk => hk.elim (fun h => HOK.out k h) (fun h => h ▸ ⟨hgv, hne⟩)) HFR.out (Below.refl _ _) hB (by omega) ?_; intro v1 w1 hN1 hB1 hG1 hat1)
 all_goals (go_ret; exact ⟨_, rfl, hN1, hB1⟩)
theorem InsertE_calls (B : Nat) (ok okv : Nat → Prop) (v0 : Value) (gv i : Nat) (xs : List S42) (x : S42) (c : List Value) (w : World) (h : Kd.N k42 42 w B ok v0 xs) (hv : OneE w gv okv x c) (hB : B ≤ w.heap.size) (hi : i ≤ xs.length) (hn : xs.length ≤ 100000) (hgv : ok gv) (hne : some gv ≠ v0.ownBlock) (hokv : ∀ k, okv k → ok k ∧ some k ≠ v0.ownBlock) (hfresh : ∀ k, w.heap.size ≤ k → ok k) :
  Calls Tryz.prog 84 #[v0, .int .i64 (i : Int), .slice (some ⟨gv, 0, none⟩) 1 1] w fun e w' => ∃ v', e = .returned v' ∧ Kd.N k42 42 w' B ok v' (xs.take i ++ x :: xs.drop i) ∧ Below B w w' := by
 obtain ⟨A, cap, rfl⟩ := Kd.N_slice h
 rcases Nat.lt_or_ge i xs.length with hlt | hge
 ·obtain ⟨g, cap', he, _⟩ := Kd.N_form h (by omega)
  injection he with hA _ hc
  subst hA
  subst hc
  obtain ⟨rows, tail, hNB⟩ := N_NB h
  have hne' : gv ≠ g := fun e => hne (by rw [e]; rfl)
  have hok' : ∀ k, okv k → ok k ∧ k ≠ g := fun k hk => ⟨(hokv k hk).1, fun e => (hokv k hk).2 (by rw [e]; rfl)⟩
  rcases Nat.lt_or_ge cap (xs.length + 1) with hr | hr
  ·exact Insert_grow B ok okv g gv xs.length cap i rows tail xs x c w hNB hv hB hlt hr hn hne' hok' hfresh
  ·exact Insert_room B ok okv g gv xs.length cap i rows tail xs x c w hNB hv hB hlt hr hn hne' hok'
 ·obtain rfl : i = xs.length := by omega
  have k := Insert_end B ok okv A gv xs.length cap xs x c w h hv hB hn hgv hne hokv hfresh
  rw [List.take_length, List.drop_length]
  exact k
theorem CloneE_calls (P : Nat → Prop) (A0 : Option Addr) (c0 : Nat) (l0 : List S42) (w : World) (hs : Kd.V k42 42 w w.heap.size P (.slice A0 l0.length c0) l0) (hl : l0.length ≤ 100000) :
  Calls Tryz.prog 55 #[.slice A0 l0.length c0] w fun e w' => ∃ v' : Value, e = .returned v' ∧ Kd.N k42 42 w' w.heap.size (fun k => P k ∨ w.heap.size ≤ k) v' l0 ∧ Below w.heap.size w w' := by
 cases A0 with
 | none =>
  have h0 : l0 = [] := C_none_nil (Kd.V_reads' hs).2.2
  subst h0
  have hnil_ : ∀ W : World, (binOp .eql 24 (.slice none 0 c0) (.slice none 0 0)).run Tryz.prog W = .ok (.bool true) W := fun W => by rw [Lib.run_eql_slice_nil W 24 42 none _ _ _ _ Tryz.underlying24]; rfl
  clear hs
  go_enter Tryz.func55, Tryz.ntmps55
  go_wp2_with (fail)
  go_ret
  exact ⟨_, rfl, Kd.N_nil _ _ _ _ _, Below.refl _ _⟩
 | some a =>
  have hnil_ : ∀ W : World, (binOp .eql 24 (.slice (some a) l0.length c0) (.slice none 0 0)).run Tryz.prog W = .ok (.bool false) W := fun W => by rw [Lib.run_eql_slice_nil W 24 42 (some a) _ _ _ _ Tryz.underlying24]; rfl
  have HF := Aside0.mk (Kd.V_F hs)
  clear hs
  go_enter Tryz.func55, Tryz.ntmps55
  go_wp2_with (first
   | ((with_reducible refine gate_dst (N := 5) rfl ?_); refine Kd.N_lit k42 (w0 := w) w.heap.size 42 ?hg (N' := 5) ?hd (xs := ([] : List S42)) (inner := []) (ok := fun k => P k ∨ w.heap.size ≤ k) (okp := fun _ => False) ?hr ?hp (fun _ hk => hk.elim) (.inr (Nat.le_refl _)) (Below.refl _ _) (Nat.le_refl _) (by simp) ?_; (case hd => rfl); (case hg => rfl); (case hr => first | (go_simp; done) | (go_simp; rfl)); (case hp => exact (Reps.none _ _)); intro v1 w1 hN1 hB1 hG1 hat1)
   | (at_builtin; refine Kd.N_append_rows k42 (w0 := w) w.heap.size rfl _ _ 24 42 _ 48 rfl Tryz.underlying24 infoE rfl (by decide) (by omega) v1 [] l0 (some a) l0.length c0 (fun k => P k ∨ w.heap.size ≤ k) (fun k => P k ∧ k < w.heap.size) rfl rfl hN1 (Kd.F_below (Kd.F_bound HF.out) hB1) (fun k hk => ⟨.inl hk.1, fun e => Nat.not_lt.2 (Kd.N_base hN1 k e.symm) hk.2⟩) (fun k hk => .inr (Nat.le_trans hB1.size hk)) hB1 hB1.size (by rw [List.length_nil]; omega) ?_; intro v2 w2 hN2 hB2 hG2 hat2))
  go_ret
  exact ⟨_, rfl, hN2, hB2⟩
end Go.Proofs.YtidlldfghkaeeaaGreatDoor.P
end
section
namespace Go.Proofs.YtidlldfghkaeeaaGreatDoor.P
open Go.RowKit Go.Proofs.YtidlldfghkaeeaaGreatDoorW.PrintWords Go.Proofs.YtidlldfghkaeeaaGreatDoorW.PrintLast Go.Proofs.YtidlldfghkaeeaaGreatDoorW.PrintMore
attribute [local go_sem] max2_int min2_int max_two min_two max_three min_three max_four min_four
def tree_up.f (l0 : List (S42)) (a1 : ByteArray) : Option (Int) := (path_Up.f a1).bind fun bt119 => (if bt119.1.toList = ([] : List UInt8) then (some 0) else ((tree_find.f l0 bt119.1).bind fun bt121 => (if bt121.2 = true then (if 0 ≤ bt121.1 then (if bt121.1 < (l0.length : Int) then (if ((rd_T42 l0 bt121.1).f1 = true) then (some 0) else (some 7)) else (none)) else (none)) else (some 5))))
theorem tree_up.calls (A0 : Option Addr) (c0 : Nat) (l0 : List (S42)) (a1 : ByteArray) (r : Int) (w : World) (hr0 : Kd.C k42 w A0 l0.length l0) (hc0 : l0.length ≤ c0) (h : tree_up.f l0 a1 = some r) :
  Calls Tryz.prog 83 #[.slice A0 l0.length c0, .string a1] w fun e w' => e = .returned (.int .i64 r) ∧ Below w.heap.size w w' := by
 have HR0 := Aside0.mk hr0
 have HC0 := Aside0.mk hc0
 clear hr0 hc0
 have HB := xa_ (Below.refl w.heap.size w)
 have H : ((path_Up.f a1).bind fun bt119 => (if bt119.1.toList = ([] : List UInt8) then (some 0) else ((tree_find.f l0 bt119.1).bind fun bt121 => (if bt121.2 = true then (if 0 ≤ bt121.1 then (if bt121.1 < (l0.length : Int) then (if ((rd_T42 l0 bt121.1).f1 = true) then (some 0) else (some 7)) else (none)) else (none)) else (some 5))))) = some r := h
 clear h
 replace H := Option.bind_eq_some_iff.mp H
 obtain ⟨⟨t119, t120⟩, A30, H⟩ := H
 replace H : (if t119.toList = ([] : List UInt8) then (some 0) else ((tree_find.f l0 t119).bind fun bt121 => (if bt121.2 = true then (if 0 ≤ bt121.1 then (if bt121.1 < (l0.length : Int) then (if ((rd_T42 l0 bt121.1).f1 = true) then (some 0) else (some 7)) else (none)) else (none)) else (some 5)))) = some r := H
 have A3 := Aside0.mk A30
 clear A30
 by_cases c4 : t119.toList = ([] : List UInt8)
 ·rw [if_pos c4] at H
  have c4b0 : (t119.toList == ([] : List UInt8)) = true := beq_iff_eq.mpr c4
  have c4b1 : (t119.toList != ([] : List UInt8)) = false := bne_eq_false_iff_eq.mpr c4
  have c4b2 : t119.toList.isEmpty = true := by simpa using c4
  clear c4
  obtain rfl := Option.some.inj H
  go_enter Tryz.func83, Tryz.ntmps83
  go_wp2_with (first | ((with_reducible refine gate_callee (f := 60) rfl ?_); refine goesL_ (some 11) rfl rfl Tryz.func60 (by kernel_rfl) rfl #[.string a1] rfl (by (try simp only [ca_]); first | done | rfl) ?_; (with_reducible refine (path_Up.calls a1 t119 t120 _ A3.out).mono ?_); rintro e w5 ⟨rfl, hb⟩; refine ⟨_, rfl, ?_⟩; replace HB := xa_ (below_step (xw_ HB.out) hb); (try clear hb); (try clear hb2); (try clear hk); (try clear hi)))
  go_ret
  exact ⟨by first | rfl | (simp [*, errW_none, errW_some] <;> rfl), by repeat (first | (with_reducible first | exact HB.out | apply below_alloc | apply pw_below_drewN | apply below_drew1) | exact HB.out)⟩
 ·rw [if_neg c4] at H
  have c4b0 : (t119.toList == ([] : List UInt8)) = false := beq_eq_false_iff_ne.mpr c4
  have c4b1 : (t119.toList != ([] : List UInt8)) = true := bne_iff_ne.mpr c4
  have c4b2 : t119.toList.isEmpty = false := by simpa using c4
  replace H := Option.bind_eq_some_iff.mp H
  obtain ⟨⟨t121, t122⟩, A60, H⟩ := H
  replace H : (if t122 = true then (if 0 ≤ t121 then (if t121 < (l0.length : Int) then (if ((rd_T42 l0 t121).f1 = true) then (some 0) else (some 7)) else (none)) else (none)) else (some 5)) = some r := H
  have A6 := Aside0.mk A60
  clear A60
  by_cases c7 : t122 = true
  ·subst c7
   have H1 : (if 0 ≤ t121 then (if t121 < (l0.length : Int) then (if ((rd_T42 l0 t121).f1 = true) then (some 0) else (some 7)) else (none)) else (none)) = some r := by rw [if_pos rfl] at H; exact H
   clear H
   have H := H1
   clear H1
   by_cases c8 : 0 ≤ t121
   ·rw [if_pos c8] at H
    have c8b0 : decide (0 ≤ t121) = true := decide_eq_true c8
    clear c8
    by_cases c9 : t121 < (l0.length : Int)
    ·rw [if_pos c9] at H
     have c9b0 : decide (t121 < (l0.length : Int)) = true := decide_eq_true c9
     clear c9
     obtain ⟨bq10, hbq10⟩ : ∃ b_ : Bool, b_ = ((rd_T42 l0 t121).f1) := ⟨_, rfl⟩
     replace H : (if (bq10 = true) then (some 0) else (some 7)) = some r := by rw [← hbq10] at H; exact H
     have Nbq10 := Aside0.mk hbq10
     clear hbq10
     by_cases c11 : (bq10 = true)
     ·subst c11
      have H1 : (some 0) = some r := by rw [if_pos rfl] at H; exact H
      clear H
      have H := H1
      clear H1
      obtain rfl := Option.some.inj H
      go_enter Tryz.func83, Tryz.ntmps83
      go_wp2_with (first | ((with_reducible refine gate_callee (f := 60) rfl ?_); refine goesL_ (some 11) rfl rfl Tryz.func60 (by kernel_rfl) rfl #[.string a1] rfl (by (try simp only [ca_]); first | done | rfl) ?_; (with_reducible refine (path_Up.calls a1 t119 t120 _ A3.out).mono ?_); rintro e w12 ⟨rfl, hb⟩; refine ⟨_, rfl, ?_⟩; replace HB := xa_ (below_step (xw_ HB.out) hb); (try clear hb); (try clear hb2); (try clear hk); (try clear hi)) | ((with_reducible refine gate_callee (f := 53) rfl ?_); refine goesL_ (some 19) rfl rfl Tryz.func53 (by kernel_rfl) rfl #[.slice A0 l0.length c0, .string t119] rfl (by (try simp only [ca_]); first | done | rfl) ?_; (with_reducible refine (tree_find.calls _ _ l0 t119 t121 true _ ?side1 ?side2 A6.out).mono ?_); (case side1 => exact xC_ (Kd.C_below HR0.out HB.out)); (case side2 => exact HC0.out); rintro e w13 ⟨rfl, hb⟩; refine ⟨_, rfl, ?_⟩; replace HB := xa_ (below_step (xw_ HB.out) hb); (try clear hb); (try clear hb2); (try clear hk); (try clear hi); have p123 : 0 ≤ (t121 : Int) := of_decide_eq_true (by first | (with_reducible assumption) | assumption); have q123 : t121 < (l0.length : Int) := of_decide_eq_true (by first | (with_reducible assumption) | assumption); obtain ⟨ad123, A123_2, c123_2, e123, hx123_0, hx123_1, hx123_2, hl123_2, hi123_2⟩ := at_T42 HR0.out t121 p123 q123; (try rw [← Nbq10.out] at hx123_1); cases e123; replace hx123_0 := (HB.out.cell (World.block_lt_of_cell? w _ hx123_0)).trans hx123_0; replace hx123_1 := (HB.out.cell (World.block_lt_of_cell? w _ hx123_1)).trans hx123_1; replace hx123_2 := (HB.out.cell (World.block_lt_of_cell? w _ hx123_2)).trans hx123_2; have HR123_2 := Aside0.mk hi123_2; have HC123_2 := Aside0.mk hl123_2; clear hi123_2 hl123_2; replace p123 := eq_true p123; replace q123 := eq_true q123))
      go_ret
      exact ⟨by first | rfl | (simp [*, errW_none, errW_some] <;> rfl), by repeat (first | (with_reducible first | exact HB.out | apply below_alloc | apply pw_below_drewN | apply below_drew1) | exact HB.out)⟩
     ·replace c11 := Bool.eq_false_iff.mpr c11
      subst c11
      have H1 : (some 7) = some r := by rw [if_neg (show ¬ (false = true) by decide)] at H; exact H
      clear H
      have H := H1
      clear H1
      obtain rfl := Option.some.inj H
      go_enter Tryz.func83, Tryz.ntmps83
      go_wp2_with (first | ((with_reducible refine gate_callee (f := 60) rfl ?_); refine goesL_ (some 11) rfl rfl Tryz.func60 (by kernel_rfl) rfl #[.string a1] rfl (by (try simp only [ca_]); first | done | rfl) ?_; (with_reducible refine (path_Up.calls a1 t119 t120 _ A3.out).mono ?_); rintro e w14 ⟨rfl, hb⟩; refine ⟨_, rfl, ?_⟩; replace HB := xa_ (below_step (xw_ HB.out) hb); (try clear hb); (try clear hb2); (try clear hk); (try clear hi)) | ((with_reducible refine gate_callee (f := 53) rfl ?_); refine goesL_ (some 19) rfl rfl Tryz.func53 (by kernel_rfl) rfl #[.slice A0 l0.length c0, .string t119] rfl (by (try simp only [ca_]); first | done | rfl) ?_; (with_reducible refine (tree_find.calls _ _ l0 t119 t121 true _ ?side1 ?side2 A6.out).mono ?_); (case side1 => exact xC_ (Kd.C_below HR0.out HB.out)); (case side2 => exact HC0.out); rintro e w15 ⟨rfl, hb⟩; refine ⟨_, rfl, ?_⟩; replace HB := xa_ (below_step (xw_ HB.out) hb); (try clear hb); (try clear hb2); (try clear hk); (try clear hi); have p123 : 0 ≤ (t121 : Int) := of_decide_eq_true (by first | (with_reducible assumption) | assumption); have q123 : t121 < (l0.length : Int) := of_decide_eq_true (by first | (with_reducible assumption) | assumption); obtain ⟨ad123, A123_2, c123_2, e123, hx123_0, hx123_1, hx123_2, hl123_2, hi123_2⟩ := at_T42 HR0.out t121 p123 q123; (try rw [← Nbq10.out] at hx123_1); cases e123; replace hx123_0 := (HB.out.cell (World.block_lt_of_cell? w _ hx123_0)).trans hx123_0; replace hx123_1 := (HB.out.cell (World.block_lt_of_cell? w _ hx123_1)).trans hx123_1; replace hx123_2 := (HB.out.cell (World.block_lt_of_cell? w _ hx123_2)).trans hx123_2; have HR123_2 := Aside0.mk hi123_2; have HC123_2 := Aside0.mk hl123_2; clear hi123_2 hl123_2; replace p123 := eq_true p123; replace q123 := eq_true q123))
      go_ret
      exact ⟨by first | rfl | (simp [*, errW_none, errW_some] <;> rfl), by repeat (first | (with_reducible first | exact HB.out | apply below_alloc | apply pw_below_drewN | apply below_drew1) | exact HB.out)⟩
    ·rw [if_neg c9] at H
     exact absurd H (by simp)
   ·rw [if_neg c8] at H
    exact absurd H (by simp)
  ·replace c7 := Bool.eq_false_iff.mpr c7
   subst c7
   have H1 : (some 5) = some r := by rw [if_neg (show ¬ (false = true) by decide)] at H; exact H
   clear H
   have H := H1
   clear H1
   obtain rfl := Option.some.inj H
   go_enter Tryz.func83, Tryz.ntmps83
   go_wp2_with (first | ((with_reducible refine gate_callee (f := 60) rfl ?_); refine goesL_ (some 11) rfl rfl Tryz.func60 (by kernel_rfl) rfl #[.string a1] rfl (by (try simp only [ca_]); first | done | rfl) ?_; (with_reducible refine (path_Up.calls a1 t119 t120 _ A3.out).mono ?_); rintro e w16 ⟨rfl, hb⟩; refine ⟨_, rfl, ?_⟩; replace HB := xa_ (below_step (xw_ HB.out) hb); (try clear hb); (try clear hb2); (try clear hk); (try clear hi)) | ((with_reducible refine gate_callee (f := 53) rfl ?_); refine goesL_ (some 19) rfl rfl Tryz.func53 (by kernel_rfl) rfl #[.slice A0 l0.length c0, .string t119] rfl (by (try simp only [ca_]); first | done | rfl) ?_; (with_reducible refine (tree_find.calls _ _ l0 t119 t121 false _ ?side1 ?side2 A6.out).mono ?_); (case side1 => exact xC_ (Kd.C_below HR0.out HB.out)); (case side2 => exact HC0.out); rintro e w17 ⟨rfl, hb⟩; refine ⟨_, rfl, ?_⟩; replace HB := xa_ (below_step (xw_ HB.out) hb); (try clear hb); (try clear hb2); (try clear hk); (try clear hi)))
   go_ret
   exact ⟨by first | rfl | (simp [*, errW_none, errW_some] <;> rfl), by repeat (first | (with_reducible first | exact HB.out | apply below_alloc | apply pw_below_drewN | apply below_drew1) | exact HB.out)⟩
def bytes_Clone.f (l0 : List Int) : Option (List Int) := (some (([] : List Int) : List Int)).bind fun y108 => (if y108.length + l0.length < 140737488355328 then (some (y108 ++ l0)) else (none))
theorem bytes_Clone.calls_some (A0 : Option Addr) (c0 : Nat) (l0 : List Int) (r : List Int) (w : World) (hr0 : Kd.C (Kd.int .u8) w A0 l0.length l0) (hc0 : l0.length ≤ c0) (h : bytes_Clone.f l0 = some r) (hA0 : A0.isNone = false) :
  Calls Tryz.prog 89 #[.slice A0 l0.length c0] w fun e w' => ∃ v0_ : Value, e = .returned (v0_) ∧ Kd.R (Kd.int .u8) 5 w' w.heap.size (fun _ => True) v0_ r ∧ Below w.heap.size w w' := by
 have hnil_ : ∀ W : World, (binOp .eql 29 (.slice A0 l0.length c0) (.slice none 0 0)).run Tryz.prog W = .ok (.bool false) W := fun W => by rw [Lib.run_eql_slice_nil W 29 5 A0 _ _ _ _ Tryz.underlying29, hA0]
 have HR0 := Aside0.mk hr0
 have HC0 := Aside0.mk hc0
 clear hr0 hc0
 have HB := xa_ (Below.refl w.heap.size w)
 have H : ((some (([] : List Int) : List Int)).bind fun y108 => (if y108.length + l0.length < 140737488355328 then (some (y108 ++ l0)) else (none))) = some r := h
 clear h
 obtain ⟨y108, hy108⟩ : ∃ y_ : List Int, y_ = (([] : List Int)) := ⟨_, rfl⟩
 replace H : (if y108.length + l0.length < 140737488355328 then (some (y108 ++ l0)) else (none)) = some r := by first | (rw [hy108]; with_reducible exact H) | (have H2_ := (Option.bind_some _ _).symm.trans H; rw [hy108]; with_reducible exact H2_) | (have H2_ := (Option.bind_some _ _).symm.trans H; with_reducible exact H2_) | with_reducible exact H | (rw [hy108]; exact H) | exact H
 have Ny108 := Aside0.mk hy108
 clear hy108
 by_cases c2 : y108.length + l0.length < 140737488355328
 ·rw [if_pos c2] at H
  have LMc2 := Aside0.mk c2
  clear c2
  obtain ⟨y111, hy111⟩ : ∃ y_ : List Int, y_ = (y108 ++ l0) := ⟨_, rfl⟩
  replace H : (some y111) = some r := by first | (rw [hy111]; with_reducible exact H) | (have H2_ := (Option.bind_some _ _).symm.trans H; rw [hy111]; with_reducible exact H2_) | (have H2_ := (Option.bind_some _ _).symm.trans H; with_reducible exact H2_) | with_reducible exact H | (rw [hy111]; exact H) | exact H
  have Ny111 := Aside0.mk hy111
  clear hy111
  obtain rfl := Option.some.inj H
  go_enter Tryz.func89, Tryz.ntmps89
  go_wp2_with (first | ((with_reducible refine gate_dst (N := 5) rfl ?_); refine Kd.R_lit (Kd.int .u8) _ 5 ?hg (N := 5) ?hd (xs := ([] : List Int)) (inner := []) (ok := fun _ => True) (okp := fun _ => True) ?hr ?hp (fun _ hk => hk) trivial (Below.refl _ _) (Nat.le_refl _) (by simp) ?_; (case hd => rfl); (case hg => rfl); (case hr => first | (go_simp; done) | (go_simp; rfl)); (case hp => exact (Reps.none _ _)); intro v109 w3 ho4 hb hg_ hnew_; clear hg_ hnew_; (first | rw [← Ny108.out] at ho4 | (simp only [Int.reduceToNat] at ho4; rw [← Ny108.out] at ho4)); replace HO110 := xa_ (Kd.R_lower ho4 (below_size (xw_ HB.out))); replace HB := xa_ (below_step (xw_ HB.out) hb); clear hb ho4) | ((with_reducible refine gate_builtin (b := .append) (xs := #[.tmp 5, .tmp 6]) rfl ?_); at_builtin; refine Kd.R_append_rows (Kd.int .u8) (w0 := w) w.heap.size rfl (.tmp 5) (.tmp 6) 29 5 (.int .u8 0) 1 rfl Tryz.underlying29 info5 rfl (by decide) (by omega) v109 y108 l0 _ _ _ (fun _ => True) (fun _ => False) rfl rfl ?aO ?aR (fun _ _ h => h) (fun _ h => h.elim) ?aF ?aB ?aS ?aL ?_; (case aR => exact xC_ (Kd.C_below HR0.out HB.out)); (case aB => exact (xw_ HB.out)); (case aF => exact (fun _ _ => trivial)); (case aO => exact (xR_ HO110.out)); (case aS => exact (below_size (xw_ HB.out))); (case aL => have := LMc2.out; omega); intro v112 w5 ho hb hg hat; rw [← Ny111.out] at ho; replace HB := xa_ (hb); replace HO113 := xa_ (ho); clear ho hb hg hat))
  go_ret
  exact ⟨_, by first | rfl | (simp [*, errW_none, errW_some] <;> rfl), by (with_reducible repeat (first | apply Kd.R_alloc | apply Kd.R_drewN | apply Kd.R_drew)); exact HO113.out, by repeat (first | (with_reducible first | exact HB.out | apply below_alloc | apply pw_below_drewN | apply below_drew1) | exact HB.out)⟩
 ·rw [if_neg c2] at H
  exact absurd H (by simp)
theorem bytes_Clone.calls (A0 : Option Addr) (c0 : Nat) (l0 : List Int) (r : List Int) (w : World) (hr0 : Kd.C (Kd.int .u8) w A0 l0.length l0) (hc0 : l0.length ≤ c0) (h : bytes_Clone.f l0 = some r) :
  Calls Tryz.prog 89 #[.slice A0 l0.length c0] w fun e w' => ∃ v0_ : Value, e = .returned (v0_) ∧ Kd.R (Kd.int .u8) 5 w' w.heap.size (fun _ => True) v0_ r ∧ Below w.heap.size w w' := by
 cases A0 with
 | some a => exact bytes_Clone.calls_some (some a) c0 l0 r w hr0 hc0 h rfl
 | none =>
  have hl0 : l0 = [] := C_none_nil hr0
  subst hl0
  have hr : r = [] := by simpa [bytes_Clone.f] using h.symm
  subst hr
  have hnil_ : ∀ W : World, (binOp .eql 29 (.slice none 0 c0) (.slice none 0 0)).run Tryz.prog W = .ok (.bool true) W := fun W => by rw [Lib.run_eql_slice_nil W 29 5 none _ _ _ _ Tryz.underlying29]; rfl
  go_enter Tryz.func89, Tryz.ntmps89
  go_wp2
  go_ret
  exact ⟨_, rfl, Kd.R_nil _ _ _ _ _, Below.refl _ _⟩
def tree_Entry_own.f (a0_0 : ByteArray) (a0_1 : Bool) (l0_2 : List Int) : Option (ByteArray × Bool × List Int) := (bytes_Clone.f l0_2).bind fun t116 => (some (a0_0, a0_1, t116))
theorem tree_Entry_own.calls (a0_0 : ByteArray) (a0_1 : Bool) (A0_2 : Option Addr) (c0_2 : Nat) (l0_2 : List Int) (r1 : ByteArray) (r2 : Bool) (r3 : List Int) (w : World) (hr0_2 : Kd.C (Kd.int .u8) w A0_2 l0_2.length l0_2) (hc0_2 : l0_2.length ≤ c0_2) (h : tree_Entry_own.f a0_0 a0_1 l0_2 = some (r1, r2, r3)) :
  Calls Tryz.prog 58 #[.agg #[.string a0_0, .bool a0_1, .slice A0_2 l0_2.length c0_2]] w fun e w' => ∃ v2_ : Value, e = .returned (.agg #[.string r1, .bool r2, v2_]) ∧ Kd.R (Kd.int .u8) 5 w' w.heap.size (fun _ => True) v2_ r3 ∧ Below w.heap.size w w' := by
 have hu42 := Tryz.underlying42
 have HR0_2 := Aside0.mk hr0_2
 have HC0_2 := Aside0.mk hc0_2
 clear hr0_2 hc0_2
 have HB := xa_ (Below.refl w.heap.size w)
 have H : ((bytes_Clone.f l0_2).bind fun t116 => (some (a0_0, a0_1, t116))) = some (r1, r2, r3) := h
 clear h
 replace H := Option.bind_eq_some_iff.mp H
 obtain ⟨t116, A20, H⟩ := H
 replace H : (some (a0_0, a0_1, t116)) = some (r1, r2, r3) := H
 have A2 := Aside0.mk A20
 clear A20
 simp only [Option.some.injEq, Prod.mk.injEq] at H
 obtain ⟨rfl, rfl, rfl⟩ := H
 go_enter Tryz.func58, Tryz.ntmps58
 go_wp2_with (first | ((with_reducible refine gate_dst (N := 1) rfl ?_); refine box_event ?hg (N := 1) ?hd (cs := #[.string a0_0, .bool a0_1, .slice A0_2 l0_2.length c0_2]) (t := 42) ?hr ?_; (case hd => rfl); (case hg => rfl); (case hr => first | (go_simp; done) | (go_simp; rfl)); intro gb114 hg w3 hbox hb; have BK114 := xa_ (hbox); have GW114 := xa_ ((by rw [hg]; exact (below_size (xw_ HB.out)) : w.heap.size ≤ gb114)); have GE114 := xa_ ((by rw [hg]; exact (below_size (xw_ HB.out)) : w.heap.size ≤ gb114)); replace HB := xa_ (below_step (xw_ HB.out) hb); clear hb hbox hg) | ((with_reducible refine gate_dst (N := 2) rfl ?_); refine box_event ?hg (N := 2) ?hd (cs := #[.string (⟨#[]⟩ : ByteArray), .bool false, .slice none 0 0]) (t := 42) ?hr ?_; (case hd => rfl); (case hg => rfl); (case hr => first | (go_simp; done) | (go_simp; rfl)); intro gb115 hg w4 hbox hb; have BK115 := xa_ (hbox); have GW115 := xa_ ((by rw [hg]; exact (below_size (xw_ HB.out)) : w.heap.size ≤ gb115)); have GE115 := xa_ ((by rw [hg]; exact (below_size (xw_ HB.out)) : w.heap.size ≤ gb115)); have NB114_115 := xa_ ((by rw [hg]; exact Nat.ne_of_lt (blk_lt (xb_ BK114.out)) : gb114 ≠ gb115)); have NB115_114 := xa_ ((by rw [hg]; exact Nat.ne_of_gt (blk_lt (xb_ BK114.out)) : gb115 ≠ gb114)); replace BK114 := xa_ (blk_below (xb_ BK114.out) hb); replace HB := xa_ (below_step (xw_ HB.out) hb); clear hb hbox hg; have hnb5 := NB114_115.out; have hnc5 := NB115_114.out; have hcz6_0 : w4.cell? ⟨gb114, 0, none⟩ = some (.string a0_0) := (blk_cell BK114.out 0).trans rfl; have hcz6_1 : w4.cell? ⟨gb114, 1, none⟩ = some (.bool a0_1) := (blk_cell BK114.out 1).trans rfl; have hcz6_2 : w4.cell? ⟨gb114, 2, none⟩ = some (.slice A0_2 l0_2.length c0_2) := (blk_cell BK114.out 2).trans rfl; have hfz6_0 := blk_frozen BK114.out 0; have hfz6_1 := blk_frozen BK114.out 1; have hfz6_2 := blk_frozen BK114.out 2) | ((with_reducible refine gate_callee (f := 89) rfl ?_); refine goesL_ (some 5) rfl rfl Tryz.func89 (by kernel_rfl) rfl #[.slice A0_2 l0_2.length c0_2] rfl (by (try simp only [ca_]); first | done | rfl) ?_; (with_reducible refine (bytes_Clone.calls _ _ l0_2 t116 _ ?side1 ?side2 A2.out).mono ?_); (case side1 => exact xC_ (Kd.C_below HR0_2.out HB.out)); (case side2 => exact HC0_2.out); rintro e w7 ⟨v117, rfl, ho0, hb⟩; refine ⟨_, rfl, ?_⟩; replace HO118 := xa_ (Kd.R_lower ho0 (below_size (xw_ HB.out))); replace BK114 := xa_ (blk_below (xb_ BK114.out) hb); replace BK115 := xa_ (blk_below (g := gb115) (o := .cells #[.string (⟨#[]⟩ : ByteArray), .bool false, .slice none 0 0] 42 (0, 0)) (xb_ BK115.out) hb); replace HB := xa_ (below_step (xw_ HB.out) hb); (try clear hb); (try clear hb2); (try clear hk); (try clear hi); (try clear ho0); obtain ⟨Ao8, co8, eo8⟩ := Kd.R_slice HO118.out; subst eo8; have hcz9_0 : w7.cell? ⟨gb114, 0, none⟩ = some (.string a0_0) := (blk_cell BK114.out 0).trans rfl; have hcz9_1 : w7.cell? ⟨gb114, 1, none⟩ = some (.bool a0_1) := (blk_cell BK114.out 1).trans rfl; have hcz9_2 : w7.cell? ⟨gb114, 2, none⟩ = some (.slice A0_2 l0_2.length c0_2) := (blk_cell BK114.out 2).trans rfl; have hfz9_0 := blk_frozen BK114.out 0; have hfz9_1 := blk_frozen BK114.out 1; have hfz9_2 := blk_frozen BK114.out 2; have hcz10_0 : w7.cell? ⟨gb115, 0, none⟩ = some (.string (⟨#[]⟩ : ByteArray)) := (blk_cell BK115.out 0).trans rfl; have hcz10_1 : w7.cell? ⟨gb115, 1, none⟩ = some (.bool false) := (blk_cell BK115.out 1).trans rfl; have hcz10_2 : w7.cell? ⟨gb115, 2, none⟩ = some (.slice none 0 0) := (blk_cell BK115.out 2).trans rfl; have hfz10_0 := blk_frozen BK115.out 0; have hfz10_1 := blk_frozen BK115.out 1; have hfz10_2 := blk_frozen BK115.out 2))
 refine bodyPost_ret (results_cell_row rfl _ _ gb115 42 #[.string a0_0, .bool a0_1, .slice Ao8 t116.length co8] (0, 0) _ rfl (by (with_reducible repeat (first | refine blk_drewN ?_ _ | refine blk_drew ?_ | refine blk_alloc ?_ _)); refine blk_put (cs := #[.string a0_0, .bool a0_1, .slice none 0 0]) ?_ 2 _ rfl; (with_reducible repeat (first | refine blk_drewN ?_ _ | refine blk_drew ?_ | refine blk_alloc ?_ _)); refine blk_put (cs := #[.string a0_0, .bool false, .slice none 0 0]) ?_ 1 _ rfl; (with_reducible repeat (first | refine blk_drewN ?_ _ | refine blk_drew ?_ | refine blk_alloc ?_ _)); refine blk_put (cs := #[.string (⟨#[]⟩ : ByteArray), .bool false, .slice none 0 0]) ?_ 0 _ rfl; (with_reducible repeat (first | refine blk_drewN ?_ _ | refine blk_drew ?_ | refine blk_alloc ?_ _)); refine blk_far ?_ NB115_114.out _; (with_reducible repeat (first | refine blk_drewN ?_ _ | refine blk_drew ?_ | refine blk_alloc ?_ _)); exact BK115.out) Tryz.underlying42 rfl (by kernel_rfl)) rfl ?_
 exact ⟨_, by first | rfl | (simp [*, errW_none, errW_some] <;> rfl), by (with_reducible repeat (first | apply Kd.R_alloc | apply Kd.R_drewN | apply Kd.R_drew)); exact Kd.R_mono (Kd.R_far (p := ⟨gb115, 2, none⟩) (Kd.R_far (p := ⟨gb115, 1, none⟩) (Kd.R_far (p := ⟨gb115, 0, none⟩) (Kd.R_far (p := ⟨gb114, 2, none⟩) (Kd.R_types (Kd.R_types HO118.out BK114.out (by decide)) BK115.out (by decide)) (fun _ hk => hk.1.2) (.slice Ao8 t116.length co8)) (fun _ hk => hk.2) (.string a0_0)) (fun _ hk => hk.2) (.bool a0_1)) (fun _ hk => hk.2) (.slice Ao8 t116.length co8)) (fun _ hk => trivial), by repeat (first | (with_reducible first | exact HB.out | apply below_alloc | apply pw_below_drewN | apply below_drew1 | refine below_set ?_ GE114.out | refine below_set ?_ GE115.out) | exact HB.out)⟩
end Go.Proofs.YtidlldfghkaeeaaGreatDoor.P
end
