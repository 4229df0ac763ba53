/- Put together by pack2.py: TreeWith -/
import Derived.Test.YtidlldfghkaeeaaGreatDoorZyInsEEtc
import Derived.Test.YtidlldfghkaeeaaGreatDoorZyPfTallymanref7RemoveEtc
set_option linter.unusedVariables false
set_option linter.unusedSimpArgs false
set_option maxHeartbeats 8000000
set_option maxRecDepth 100000
namespace Go.Proofs.YtidlldfghkaeeaaGreatDoor.P
open Go.RowKit Go.Proofs.YtidlldfghkaeeaaGreatDoorW.PrintWords Go.Proofs.YtidlldfghkaeeaaGreatDoorW.PrintLast Go.Proofs.YtidlldfghkaeeaaGreatDoorW.PrintMore
abbrev nB30 (l : List S42) : Nat := nB S42.f2 l
theorem count_l0 (l : List S42) : ∀ (d i k : Nat) (x : Nat), i + d = l.length → d < k → l.length ≤ 100000 → x + nB30 (l.drop i) ≤ 4611686018427387904 → tree_count.l0 k (x : Int) l (l.length : Int) (i : Int) = some ((x + nB30 (l.drop i) : Nat) : Int)
 | 0, i, k, x, hd, hk, hl, hn => by
  obtain ⟨k, rfl⟩ : ∃ m, k = m + 1 := ⟨k - 1, by omega⟩
  rw [tree_count.l0, if_neg (by omega), List.drop_eq_nil_of_le (by omega)]
  simp [nB]
 | d + 1, i, k, x, hd, hk, hl, hn => by
  obtain ⟨k, rfl⟩ : ∃ m, k = m + 1 := ⟨k - 1, by omega⟩
  have hi : i < l.length := by omega
  rw [List.drop_eq_getElem_cons hi, nB30, nB_cons] at hn ⊢
  have hw : wrap64 ((i : Int) + 1) = ((i + 1 : Nat) : Int) := wr1 (by omega)
  have hw2 : wrap64 ((x : Int) + (l[i].f2.length : Int)) = ((x + l[i].f2.length : Nat) : Int) := by
   unfold wrap64
   omega
  have ih := count_l0 l d (i + 1) k (x + l[i].f2.length) (by omega) (by omega) hl (by show _ + nB S42.f2 (l.drop (i + 1)) ≤ _; omega)
  rw [tree_count.l0, if_pos (by omega), if_pos (by omega), if_pos (by omega), rdT hi, hw2, hw, ih]
  congr 2
  show x + l[i].f2.length + nB S42.f2 (l.drop (i + 1)) = _
  omega
theorem count_eq {l : List S42} {k : Nat} (hl : l.length ≤ 100000) (hk : l.length < k) (hn : nB30 l ≤ 4611686018427387904) : tree_count.f k l = some (nB30 l : Int) := by
 have h := count_l0 l l.length 0 k 0 (by omega) hk hl (by rw [List.drop_zero]; omega)
 rw [List.drop_zero, Nat.zero_add] at h
 exact h
def insT (l : List S42) (p : ByteArray) (d : Bool) (b : List Int) : List S42 := insE S42.f0 ⟨p, d, b⟩ l
theorem insT_len (p : ByteArray) (d : Bool) (b : List Int) : ∀ l : List S42, (insT l p d b).length ≤ l.length + 1
 | [] => by simp [insT, insE]
 | x :: l => by
  have ih := insT_len p d b l
  unfold insT at ih ⊢
  unfold insE
  split
  ·rw [List.length_cons, List.length_cons]; omega
  ·split
   ·simp
   ·simp
theorem insT_nB (p : ByteArray) (d : Bool) (b : List Int) : ∀ l : List S42, nB30 (insT l p d b) ≤ nB30 l + b.length
 | [] => by simp [insT, insE, nB30, nB]
 | x :: l => by
  have ih := insT_nB p d b l
  unfold insT nB30 at ih ⊢
  unfold insE
  split
  ·rw [nB_cons, nB_cons]; omega
  ·split
   ·rw [nB_cons, nB_cons]
    show b.length + _ ≤ _
    omega
   ·rw [nB_cons, nB_cons]
    show b.length + _ ≤ _
    omega
def with0 (l : List S42) (p : ByteArray) (d : Bool) (b : List Int) : List S42 × Int :=
 if ∃ x ∈ l, x.f0 = p ∧ x.f1 = true then (l, 7) else if (insT l p d b).length > 40 ∨ b.length > 2048 ∨ nB30 (insT l p d b) > 16384 then (l, 9) else (insT l p d b, 0)
def tree_with.f (l : List S42) (p : ByteArray) (d : Bool) (b : List Int) : Option (List S42 × Int) :=
 if okP l = true ∧ p.size < 4294967280 ∧ Srt S42.f0 l ∧ b.length ≤ 1000000000000 ∧ nB30 l ≤ 1000000000000 ∧ l.length ≤ 10000 then
  (tree_up.f l p).bind fun n => if n = 0 then some (with0 l p d b) else some (l, n) else none
theorem own_eq {p : ByteArray} {d : Bool} {b : List Int} (h : b.length ≤ 1000000000000) : tree_Entry_own.f p d b = some (p, d, b) := by
 unfold tree_Entry_own.f bytes_Clone.f
 rw [Option.bind_some, if_pos (by rw [List.length_nil]; omega), Option.bind_some]
 rfl
structure Bx (w W : World) (v : Value) (p : ByteArray) (d : Bool) (x : Value) : Prop where
 b : Below w.heap.size w W
 k2 : W.heap[w.heap.size]? = some (.cells #[v] 26 (0, 0))
 k3 : W.heap[w.heap.size + 1]? = some (.cells #[.string p, .bool d, x] 42 (0, 0))
 k4 : W.heap[w.heap.size + 1 + 1]? = some (.cells #[.slice none 0 0] 26 (0, 0))
theorem Bx.lift {w W W' : World} {v : Value} {p : ByteArray} {d : Bool} {x : Value} (h : Bx w W v p d x) (hk : ∀ k, k < W.heap.size → k < w.heap.size + 3 → W'.heap[k]? = W.heap[k]?) (hb : Below w.heap.size w W') : Bx w W' v p d x :=
 ⟨hb, (hk _ (blk_lt h.k2) (by omega)).trans h.k2, (hk _ (blk_lt h.k3) (by omega)).trans h.k3, (hk _ (blk_lt h.k4) (by omega)).trans h.k4⟩
theorem Bx.below {w W W' : World} {v : Value} {p : ByteArray} {d : Bool} {x : Value} (h : Bx w W v p d x) (hb : Below W.heap.size W W') : Bx w W' v p d x := h.lift (fun k hk _ => hb.block k hk) (h.b.trans (hb.mono h.b.size))
theorem Bx.belowB {w W W' : World} {v : Value} {p : ByteArray} {d : Bool} {x : Value} {B : Nat} (h : Bx w W v p d x) (hB : w.heap.size + 3 ≤ B) (hb : Below B W W') : Bx w W' v p d x := h.lift (fun k _ hk => hb.block k (by omega)) (h.b.trans (hb.mono (by omega)))
theorem Bx.alloc {w W : World} {v : Value} {p : ByteArray} {d : Bool} {x : Value} (h : Bx w W v p d x) (o : Obj) : Bx w (W.alloc o) v p d x := h.below (below_alloc (Below.refl _ _) o)
theorem Bx.cells {w W : World} {v : Value} {p : ByteArray} {d : Bool} {x : Value} (h : Bx w W v p d x) : W.cell? ⟨w.heap.size, 0, none⟩ = some v ∧ W.cell? ⟨w.heap.size + 1, 0, none⟩ = some (.string p) ∧ W.cell? ⟨w.heap.size + 1, 1, none⟩ = some (.bool d) ∧ W.cell? ⟨w.heap.size + 1, 2, none⟩ = some x ∧ W.cell? ⟨w.heap.size + 1 + 1, 0, none⟩ = some (.slice none 0 0) ∧ W.frozen? ⟨w.heap.size + 1 + 1, 0, none⟩ = false :=
 ⟨blk_cell h.k2 0, blk_cell h.k3 0, blk_cell h.k3 1, blk_cell h.k3 2, blk_cell h.k4 0, blk_frozen h.k4 0⟩
theorem V_came {w W : World} {P : Nat → Prop} {v : Value} {l : List S42} (h : Kd.V k42 42 w w.heap.size P v l) (hb : Below w.heap.size w W) {g : Nat} (hg : w.heap.size ≤ g) (u : Value) : Kd.V k42 42 (W.setCell ⟨g, 0, none⟩ u) w.heap.size (fun k => P k ∨ w.heap.size ≤ k) v l :=
 Kd.V_mono (Kd.V_far (p := ⟨g, 0, none⟩) (Kd.V_below (Kd.V_bound h) hb) (fun k hk => by have := hk.2; show k ≠ g; omega) u) fun k hk => .inl hk.1
structure Stop (p : Prop) : Prop where
 out : p
theorem With_calls (P : Nat → Prop) (A0 : Option Addr) (c0 : Nat) (l0 : List S42) (p : ByteArray) (d : Bool) (A2 : Option Addr) (c2 : Nat) (b : List Int) (n : Int) (w : World) (hs0 : Kd.V k42 42 w w.heap.size (fun k_ => P k_) (.slice A0 l0.length c0) l0) (hr2 : Kd.C (Kd.int .u8) w A2 b.length b) (hc2 : b.length ≤ c2)
  (hok : okP l0 = true) (hp : p.size < 4294967280) (hsrt : Srt S42.f0 l0) (hb : b.length ≤ 1000000000000) (hnb : nB30 l0 ≤ 1000000000000) (hl0 : l0.length ≤ 10000) (hup : tree_up.f l0 p = some n) (R : List S42 × Int) (hR : R = if n = 0 then with0 l0 p d b else (l0, n)) :
  Calls Tryz.prog 47 #[.agg #[.slice A0 l0.length c0], .agg #[.string p, .bool d, .slice A2 b.length c2]] w fun e w' => ∃ v0_ : Value, e = .returned (.tuple #[.agg #[v0_], .int .i64 R.2]) ∧ Kd.V k42 42 w' w.heap.size (fun k_ => (P k_ ∨ w.heap.size ≤ k_)) v0_ R.1 ∧ Below w.heap.size w w' := by
 have hu26 := Tryz.underlying26
 have hu30 := Tryz.underlying42
 have HS := Aside0.mk hs0
 have HR2 := Aside0.mk hr2
 have HRR := Aside0.mk hR
 clear hR
 go_enter Tryz.func47, Tryz.ntmps47
 go_wp2_with (fail)
 have X0 : Bx w (((w.alloc (.cells #[.slice A0 l0.length c0] 26)).alloc (.cells #[.string p, .bool d, .slice A2 b.length c2] 42)).alloc (.cells #[.slice none 0 0] 26)) (.slice A0 l0.length c0) p d (.slice A2 b.length c2) := by
  refine ⟨below_alloc (below_alloc (below_alloc (Below.refl _ _) _) _) _, blk_alloc (blk_alloc (blk_new w _) _) _, ?_, ?_⟩
  ·have h := blk_alloc (blk_new (w.alloc (.cells #[.slice A0 l0.length c0] 26)) (.cells #[.string p, .bool d, .slice A2 b.length c2] 42)) (.cells #[.slice none 0 0] 26)
   rw [World.size_alloc] at h
   exact h
  ·have h := blk_new ((w.alloc (.cells #[.slice A0 l0.length c0] 26)).alloc (.cells #[.string p, .bool d, .slice A2 b.length c2] 42)) (.cells #[.slice none 0 0] 26)
   rw [World.size_alloc, World.size_alloc] at h
   exact h
 have hC0 := (Kd.V_reads' hs0).2.2
 have hc0 := (Kd.V_reads' hs0).2.1
 refine (tree_up.calls A0 c0 l0 p n _ (Kd.C_below hC0 X0.b) hc0 hup).mono ?_
 rintro e W1 ⟨rfl, hb1⟩
 have X1 := X0.below hb1
 clear X0 hb1 hs0 hr2 hup
 dsimp only
 obtain ⟨m20, m30, m31, m32, m40, f40⟩ := X1.cells
 by_cases hn0 : n = 0
 ·subst hn0
  go_wp2_with (fail)
  have hbase : w.heap.size + 3 ≤ W1.heap.size := by
   have := blk_lt X1.k4
   omega
  have hV1 : Kd.V k42 42 W1 W1.heap.size (fun k => P k ∧ k < w.heap.size) (.slice A0 l0.length c0) l0 := Kd.V_below (Kd.V_bound HS.out) X1.b
  refine (CloneE_calls (fun k => P k ∧ k < w.heap.size) A0 c0 l0 W1 hV1 (by omega)).mono ?_
  rintro e W2 ⟨v2, rfl, hN2, hb2⟩
  have X2 := X1.below hb2
  obtain ⟨AN, cN, rfl⟩ := Kd.N_slice hN2
  have HX1 := Aside0.mk X1
  clear hV1 X1 m20 m30 m31 m32 m40 f40
  dsimp only
  obtain ⟨m20, m30, m31, m32, m40, f40⟩ := X2.cells
  go_wp2_with (fail)
  have hfd : tree_find.f l0 p = some ((lowB S42.f0 p l0 : Int), decide (∃ x ∈ l0, x.f0 = p)) := by
   unfold tree_find.f
   rw [if_pos ⟨hok, hp, hsrt⟩]
  obtain ⟨fd, hfdq⟩ : ∃ fd : Bool, fd = decide (∃ x ∈ l0, x.f0 = p) := ⟨_, rfl⟩
  rw [← hfdq] at hfd
  have HFD := Aside0.mk hfdq
  clear hfdq
  refine (tree_find.calls AN cN l0 p _ _ W2 (Kd.N_reads' hN2).2.2 (Kd.N_reads' hN2).2.1 hfd).mono ?_
  rintro e W3 ⟨rfl, hb3⟩
  have X3 := X2.below hb3
  have hN3 := Kd.N_below hN2 hb3
  have hB3 := hb2.trans (hb3.mono hb2.size)
  clear X2 hN2 hb2 hb3 m20 m30 m31 m32 m40 f40 hfd
  dsimp only
  obtain ⟨m20, m30, m31, m32, m40, f40⟩ := X3.cells
  have hlow := lowB_at (p := p) hsrt
  have hnew : ∀ rN : List S42, (fun _ => True) rN := fun _ => trivial
  go_upto_block 0 with (fail)
  go_cut [7] from 29 to 51 (fun v7 wc => ∃ (A7 : Option Addr) (c7 : Nat), v7 = .slice A7 (insT l0 p d b).length c7 ∧ Kd.N k42 42 wc W1.heap.size (fun k => (P k ∧ k < w.heap.size) ∨ W1.heap.size ≤ k) (.slice A7 (insT l0 p d b).length c7) (insT l0 p d b) ∧ Bx w wc (.slice A0 l0.length c0) p d (.slice A2 b.length c2) ∧ (¬ ∃ x ∈ l0, x.f0 = p ∧ x.f1 = true) ∧ (insT l0 p d b).length ≤ 10001 ∧ nB30 (insT l0 p d b) ≤ 4000000000000)
  case first =>
   have hE := own_eq (p := p) (d := d) hb
   have hR2 : Kd.C (Kd.int .u8) W3 A2 b.length b := Kd.C_below HR2.out X3.b
   have hB1 : W1.heap.size ≤ W3.heap.size := hB3.size
   have hap : ∀ k, W3.heap.size ≤ k → (P k ∧ k < w.heap.size) ∨ W1.heap.size ≤ k := fun k hk => .inr (by omega)
   have hli := insT_len p d b l0
   have hni := insT_nB p d b l0
   by_cases hx : ∃ x ∈ l0, x.f0 = p
   ·obtain rfl : fd = true := HFD.out.trans (decide_eq_true hx)
    obtain ⟨hlt, hat⟩ := hlow.2 hx
    have hC3 := (Kd.N_reads' hN3).2.2
    obtain ⟨ad, A9, c9, rfl, k0, k1, k2, _, _⟩ := atT hC3 _ hlt
    obtain ⟨g, cap', he, hg1, hg2, _⟩ := Kd.N_form hN3 (by omega)
    have hAD : ad = ⟨g, 0, none⟩ := by
     injection he with hA _ hc
     injection hA
    have HAD := Aside0.mk hAD
    clear he hAD
    have hf1 : ∀ x ∈ l0, x.f0 = p → x = l0[lowB S42.f0 p l0] := fun x hm hk => srt_key hsrt hm (List.getElem_mem hlt) (hk.trans hat.symm)
    have p1 : decide ((lowB S42.f0 p l0 : Int) < (l0.length : Int)) = true := decide_eq_true (by omega)
    have p2 : decide (0 ≤ (lowB S42.f0 p l0 : Int)) = true := decide_eq_true (by omega)
    have HN3 := Aside0.mk hN3
    have HAT := Aside0.mk hat
    have K0 := Aside0.mk k0
    have K1 := Aside0.mk k1
    have K2 := Aside0.mk k2
    clear hN3 hC3 hlow k0 k2 hat
    by_cases hd1 : l0[lowB S42.f0 p l0].f1 = true
    ·rw [hd1] at k1
     have HD1 := Aside0.mk hd1
     clear hd1
     go_wp2_with (fail)
     refine bodyPost_ret (results_ct rfl _ _ (w.heap.size + 1 + 1) 26 #[.slice A0 l0.length c0] (0, 0) _ rfl (blk_put (cs := #[.slice none 0 0]) X3.k4 0 _ rfl) Tryz.underlying26 rfl (by kernel_rfl)) rfl ?_
     obtain rfl : R = (l0, 7) := by
      have h := HRR.out
      rw [if_pos trivial] at h
      rw [h, with0, if_pos ⟨_, List.getElem_mem hlt, HAT.out, HD1.out⟩]
     exact ⟨_, rfl, V_came HS.out X3.b (by omega) _, X3.b.setCell (p := ⟨w.heap.size + 1 + 1, 0, none⟩) (by show w.heap.size ≤ w.heap.size + 1 + 1; omega) _⟩
    ·have hd2 : l0[lowB S42.f0 p l0].f1 = false := by simpa using hd1
     rw [hd2] at k1
     have HD1 := Aside0.mk hd2
     clear hd1 hd2
     go_wp2_with (fail)
     refine (tree_Entry_own.calls p d A2 c2 b p d b W3 hR2 hc2 hE).mono ?_
     rintro e W4 ⟨v4, rfl, hr4, hb4⟩
     obtain rfl := HAD.out
     obtain ⟨A4, c4, rfl⟩ := Kd.R_slice hr4
     have hFK : Kd.FK k42 W4 (fun k => W3.heap.size ≤ k ∧ k < W4.heap.size) ⟨p, d, b⟩ [.string p, .bool d, .slice A4 b.length c4] := k42_mkF W4 _ ⟨p, d, b⟩ (Kd.R_reads' hr4).2.1 (Kd.R_F (Kd.R_mono (Kd.R_bound hr4) fun k hk => ⟨hk.2.1, hk.2.2.1⟩))
     have hN4 := Kd.N_below HN3.out hb4
     have hk0 := (hb4.cell (World.block_lt_of_cell? W3 _ K0.out)).trans K0.out
     have hk1 := (hb4.cell (World.block_lt_of_cell? W3 _ K1.out)).trans K1.out
     have hk2 := (hb4.cell (World.block_lt_of_cell? W3 _ K2.out)).trans K2.out
     have hcc : ∀ (j : Nat) (u : Value), [Value.string l0[lowB S42.f0 p l0].f0, .bool l0[lowB S42.f0 p l0].f1, .slice A9 l0[lowB S42.f0 p l0].f2.length c9][j]? = some u → W4.cell? ⟨g, (lowB S42.f0 p l0 : Int).toNat * 3 + j, none⟩ = some u := by
      intro j u hj
      rw [Int.toNat_natCast]
      rcases j with _ | _ | _ | j
      ·obtain rfl : _ = u := by simpa using hj
       rw [show (⟨g, 0, none⟩ : Addr).add (lowB S42.f0 p l0 * 3) = ⟨g, lowB S42.f0 p l0 * 3, none⟩ by simp [add_at]] at hk0
       exact hk0
      ·obtain rfl : _ = u := by simpa using hj
       rw [show (⟨g, 0, none⟩ : Addr).add (lowB S42.f0 p l0 * 3) = ⟨g, lowB S42.f0 p l0 * 3, none⟩ by simp [add_at]] at hk1
       exact hk1
      ·obtain rfl : _ = u := by simpa using hj
       rw [show (⟨g, 0, none⟩ : Addr).add (lowB S42.f0 p l0 * 3) = ⟨g, lowB S42.f0 p l0 * 3, none⟩ by simp [add_at]] at hk2
       exact hk2
      ·simp at hj
     have HN4 := Aside0.mk hN4
     have HCC := Aside0.mk hcc
     have HFK := Aside0.mk hFK
     have HB4 := Aside0.mk (hb4.mono hB1)
     clear hN4 hcc hFK hb4 hr4 hk0 hk1 hk2 K0 K1 K2 HN3
     dsimp only
     go_wp2_with (refine gate_store (t := 42) (p := 51) rfl ?_; refine Stop.out ?_)
     constructor
     refine Kd.N_store k42 (w0 := W3) W1.heap.size rfl rfl 42 (.tmp 51) (.tmp 50) rfl 42 (g := g) (n := l0.length) (cap := cN) (o' := lowB S42.f0 p l0 * 3) (lowB S42.f0 p l0 : Int) 0 l0 ⟨p, d, b⟩ (.agg #[.string p, .bool d, .slice A4 b.length c4]) [.string p, .bool d, .slice A4 b.length c4] _ (fun k => (P k ∧ k < w.heap.size) ∨ W1.heap.size ≤ k) (fun k => W3.heap.size ≤ k ∧ k < W4.heap.size) ?q0 ?q1 rfl ?q2 sizeE ?q3 HN4.out (by omega) (by omega) rfl HCC.out (by show 0 + 3 ≤ 3; omega) HFK.out (fun k hk => ⟨hap k hk.1, by omega⟩) HB4.out ?_
     case q0 => rfl
     case q1 => rw [Int.toNat_natCast]; rfl
     case q2 => rfl
     case q3 => simp [Value.oneCell']
     intro w6 hN6 hB6 hG6
     rw [Int.toNat_natCast, insE_set (e := (⟨p, d, b⟩ : S42)) rfl hlt HAT.out] at hN6
     have hl6 : (insE S42.f0 ⟨p, d, b⟩ l0).length = l0.length := by
      rw [← insE_set (e := (⟨p, d, b⟩ : S42)) rfl hlt HAT.out, List.length_set]
     have X6 := X3.belowB hbase (hB6)
     clear HN4 HCC HFK HB4 X3 m20 m30 m31 m32 m40 f40 k1
     go_wp2_with (fail)
     go_meet
     case rel => exact ⟨some ⟨g, 0, none⟩, cN, by rw [insT, hl6], by rw [insT, hl6]; exact hN6, X6, fun ⟨x, hm, hk, hk1⟩ => Bool.false_ne_true (by rw [hf1 x hm hk, HD1.out] at hk1; exact hk1), by omega, by omega⟩
   ·obtain rfl : fd = false := HFD.out.trans (decide_eq_false hx)
    have HN3 := Aside0.mk hN3
    clear hN3
    go_wp2_with (fail)
    refine (tree_Entry_own.calls p d A2 c2 b p d b W3 hR2 hc2 hE).mono ?_
    rintro e W4 ⟨v4, rfl, hr4, hb4⟩
    obtain ⟨A4, c4, rfl⟩ := Kd.R_slice hr4
    have hFK : Kd.FK k42 W4 (fun k => W3.heap.size ≤ k ∧ k < W4.heap.size) ⟨p, d, b⟩ [.string p, .bool d, .slice A4 b.length c4] := k42_mkF W4 _ ⟨p, d, b⟩ (Kd.R_reads' hr4).2.1 (Kd.R_F (Kd.R_mono (Kd.R_bound hr4) fun k hk => ⟨hk.2.1, hk.2.2.1⟩))
    have hN4 := Kd.N_below HN3.out hb4
    have X4 := X3.below hb4
    have hs4 := hb4.size
    have hnW : ∀ k, W3.heap.size ≤ k → some k ≠ (Value.slice AN l0.length cN).ownBlock := fun k hk e => by
     have := Kd.N_lt HN3.out _ e.symm
     omega
    clear hb4 hr4 HN3 X3 m20 m30 m31 m32 m40 f40
    dsimp only
    go_wp2_with (fail)
    have hnin : some (W4.heap.size) ≠ (Value.slice AN l0.length cN).ownBlock := by
     intro e
     have := Kd.N_lt hN4 _ e.symm
     omega
    have hone : OneE (W4.alloc (Obj.cells #[Value.string p, Value.bool d, Value.slice A4 b.length c4] 42)) W4.heap.size (fun k => W3.heap.size ≤ k ∧ k < W4.heap.size) ⟨p, d, b⟩ [.string p, .bool d, .slice A4 b.length c4] :=
     ⟨blk_new W4 _, ⟨rfl, by simp [Value.oneCell']⟩, Kd.FK_below hFK (below_alloc (Below.refl _ _) _)⟩
    have hN5 := Kd.N_alloc hN4 (Obj.cells #[Value.string p, Value.bool d, Value.slice A4 b.length c4] 42)
    have X5 := X4.alloc (Obj.cells #[Value.string p, Value.bool d, Value.slice A4 b.length c4] 42)
    have hs5 : (W4.alloc (Obj.cells #[Value.string p, Value.bool d, Value.slice A4 b.length c4] 42)).heap.size = W4.heap.size + 1 := World.size_alloc _ _
    refine (InsertE_calls W1.heap.size _ (fun k => W3.heap.size ≤ k ∧ k < W4.heap.size) _ W4.heap.size (lowB S42.f0 p l0) l0 ⟨p, d, b⟩ _ _ hN5 hone (by omega) (lowB_le _ _) (by omega) (hap _ (by omega)) hnin (fun k hk => ⟨hap k hk.1, fun e => hnW k hk.1 e⟩) (fun k hk => hap k (by omega))).mono ?_
    rintro e W7 ⟨v7, rfl, hN7, hb7⟩
    have X7 := X5.belowB hbase hb7
    rw [insE_new (e := (⟨p, d, b⟩ : S42)) (l := l0) rfl (fun hi hk => hx ⟨_, List.getElem_mem hi, hk⟩)] at hN7
    obtain ⟨A7, c7, rfl⟩ := Kd.N_slice hN7
    clear hN4 hN5 X4 X5 hone hFK hnin
    dsimp only
    go_wp2_with (fail)
    go_meet
    case rel => exact ⟨A7, c7, rfl, hN7, X7, fun ⟨x, hm, hk, _⟩ => hx ⟨x, hm, hk⟩, by omega, by omega⟩
  case rest =>
   clear hN3 X3 hB3 m20 m30 m31 m32 m40 f40 hlow hnew
   obtain ⟨A7, c7, rfl, hN, X, hnd, hln, hnn⟩ := hcut
   obtain ⟨m20, m30, m31, m32, m40, f40⟩ := X.cells
   have hw0 : R = if (insT l0 p d b).length > 40 ∨ b.length > 2048 ∨ nB30 (insT l0 p d b) > 16384 then (l0, 9) else (insT l0 p d b, 0) := by
    have h := HRR.out
    rw [if_pos trivial] at h
    rw [h, with0, if_neg hnd]
   obtain ⟨rn, hrn⟩ : ∃ rn, rn = insT l0 p d b := ⟨_, rfl⟩
   rw [← hrn] at hN hln hnn hw0 ⊢
   have HN := Aside0.mk hN
   have HW := Aside0.mk hw0
   have HLN := Aside0.mk hln
   have HNN := Aside0.mk hnn
   have HND := Aside0.mk hnd
   clear hN hw0 hln hnn hnd hrn
   by_cases q1 : rn.length > 40
   ·have p1 : decide ((40 : Int) < (rn.length : Int)) = true := decide_eq_true (by omega)
    go_wp2_with (fail)
    refine bodyPost_ret (results_ct rfl _ _ (w.heap.size + 1 + 1) 26 #[.slice A0 l0.length c0] (0, 0) _ rfl (blk_put (cs := #[.slice none 0 0]) X.k4 0 _ rfl) Tryz.underlying26 rfl (by kernel_rfl)) rfl ?_
    obtain rfl : R = (l0, 9) := by rw [HW.out, if_pos (.inl q1)]
    exact ⟨_, rfl, V_came HS.out X.b (by omega) _, X.b.setCell (p := ⟨w.heap.size + 1 + 1, 0, none⟩) (by show w.heap.size ≤ w.heap.size + 1 + 1; omega) _⟩
   ·have p1 : decide ((40 : Int) < (rn.length : Int)) = false := decide_eq_false (by omega)
    by_cases q2 : b.length > 2048
    ·have p2 : decide ((2048 : Int) < (b.length : Int)) = true := decide_eq_true (by omega)
     go_wp2_with (fail)
     refine bodyPost_ret (results_ct rfl _ _ (w.heap.size + 1 + 1) 26 #[.slice A0 l0.length c0] (0, 0) _ rfl (blk_put (cs := #[.slice none 0 0]) X.k4 0 _ rfl) Tryz.underlying26 rfl (by kernel_rfl)) rfl ?_
     obtain rfl : R = (l0, 9) := by rw [HW.out, if_pos (.inr (.inl q2))]
     exact ⟨_, rfl, V_came HS.out X.b (by omega) _, X.b.setCell (p := ⟨w.heap.size + 1 + 1, 0, none⟩) (by show w.heap.size ≤ w.heap.size + 1 + 1; omega) _⟩
    ·have p2 : decide ((2048 : Int) < (b.length : Int)) = false := decide_eq_false (by omega)
     have hct : tree_count.f 10002 rn = some (nB30 rn : Int) := count_eq (by have := HLN.out; omega) (by have := HLN.out; omega) (by have := HNN.out; omega)
     go_wp2_with (fail)
     refine (tree_count.calls 10002 A7 c7 rn _ wc (Kd.N_reads' HN.out).2.2 (Kd.N_reads' HN.out).2.1 hct).mono ?_
     rintro e W5 ⟨rfl, hb5⟩
     have X5 := X.below hb5
     have hN5 := Kd.N_below HN.out hb5
     clear X hb5 m20 m30 m31 m32 m40 f40 hct
     dsimp only
     obtain ⟨m20, m30, m31, m32, m40, f40⟩ := X5.cells
     obtain ⟨nb, hnbq⟩ : ∃ nb : Nat, nb = nB30 rn := ⟨_, rfl⟩
     rw [← hnbq]
     have HNB := Aside0.mk hnbq
     clear hnbq
     by_cases q3 : nb > 16384
     ·have p3 : decide ((16384 : Int) < (nb : Int)) = true := decide_eq_true (by omega)
      have HN5 := Aside0.mk hN5
      clear hN5
      go_wp2_with (fail)
      refine bodyPost_ret (results_ct rfl _ _ (w.heap.size + 1 + 1) 26 #[.slice A0 l0.length c0] (0, 0) _ rfl (blk_put (cs := #[.slice none 0 0]) X5.k4 0 _ rfl) Tryz.underlying26 rfl (by kernel_rfl)) rfl ?_
      obtain rfl : R = (l0, 9) := by rw [HW.out, if_pos (.inr (.inr (by rw [← HNB.out]; exact q3)))]
      exact ⟨_, rfl, V_came HS.out X5.b (by omega) _, X5.b.setCell (p := ⟨w.heap.size + 1 + 1, 0, none⟩) (by show w.heap.size ≤ w.heap.size + 1 + 1; omega) _⟩
     ·have p3 : decide ((16384 : Int) < (nb : Int)) = false := decide_eq_false (by omega)
      have HN5 := Aside0.mk hN5
      clear hN5
      go_wp2_with (fail)
      refine bodyPost_ret (results_ct rfl _ _ (w.heap.size + 1 + 1) 26 #[.slice A7 rn.length c7] (0, 0) _ rfl (blk_put (cs := #[.slice none 0 0]) X5.k4 0 _ rfl) Tryz.underlying26 rfl (by kernel_rfl)) rfl ?_
      obtain rfl : R = (rn, 0) := by rw [HW.out, if_neg (fun h => h.elim q1 (fun h => h.elim q2 (fun h => q3 (by rw [HNB.out]; exact h))))]
      refine ⟨_, rfl, Kd.V_mono (Kd.V_far (p := ⟨w.heap.size + 1 + 1, 0, none⟩) (Kd.N_V HN5.out) (fun k hk => ?_) _) (fun k hk => ?_), X5.b.setCell (p := ⟨w.heap.size + 1 + 1, 0, none⟩) (by show w.heap.size ≤ w.heap.size + 1 + 1; omega) _⟩
      ·show k ≠ w.heap.size + 1 + 1
       rcases hk with hk | hk <;> omega
      ·rcases hk with hk | hk
       ·exact .inl hk.1
       ·exact .inr (by omega)
 ·have nb : (n != 0) = true := bne_iff_ne.2 hn0
  go_wp2_with (fail)
  refine bodyPost_ret (results_ct rfl _ _ (w.heap.size + 1 + 1) 26 #[.slice A0 l0.length c0] (0, 0) _ rfl (blk_put (cs := #[.slice none 0 0]) X1.k4 0 _ rfl) Tryz.underlying26 rfl (by kernel_rfl)) rfl ?_
  obtain rfl : R = (l0, n) := by rw [HRR.out, if_neg hn0]
  exact ⟨_, rfl, V_came HS.out X1.b (by omega) _, X1.b.setCell (p := ⟨w.heap.size + 1 + 1, 0, none⟩) (by show w.heap.size ≤ w.heap.size + 1 + 1; omega) _⟩
theorem tree_with.calls (P0_0_ : Nat → Prop) (A0_0 : Option Addr) (c0_0 : Nat) (l0_0 : List S42) (a1_0 : ByteArray) (a1_1 : Bool) (A1_2 : Option Addr) (c1_2 : Nat) (l1_2 : List Int) (r1 : List S42) (r2 : Int) (w : World) (hs0_0 : Kd.V k42 42 w w.heap.size (fun k_ => P0_0_ k_) (.slice A0_0 l0_0.length c0_0) l0_0) (hr1_2 : Kd.C (Kd.int .u8) w A1_2 l1_2.length l1_2) (hc1_2 : l1_2.length ≤ c1_2) (h : tree_with.f l0_0 a1_0 a1_1 l1_2 = some (r1, r2)) :
  Calls Tryz.prog 47 #[.agg #[.slice A0_0 l0_0.length c0_0], .agg #[.string a1_0, .bool a1_1, .slice A1_2 l1_2.length c1_2]] w fun e w' => ∃ v0_ : Value, e = .returned (.tuple #[.agg #[v0_], .int .i64 r2]) ∧ Kd.V k42 42 w' w.heap.size (fun k_ => (P0_0_ k_ ∨ w.heap.size ≤ k_)) v0_ r1 ∧ Below w.heap.size w w' := by
 unfold tree_with.f at h
 split at h
 ·rename_i hh
  obtain ⟨n, hup, h⟩ := Option.bind_eq_some_iff.1 h
  refine With_calls P0_0_ A0_0 c0_0 l0_0 a1_0 a1_1 A1_2 c1_2 l1_2 n w hs0_0 hr1_2 hc1_2 hh.1 hh.2.1 hh.2.2.1 hh.2.2.2.1 hh.2.2.2.2.1 hh.2.2.2.2.2 hup (r1, r2) ?_
  split at h
  ·rename_i hn
   rw [if_pos hn]
   exact (Option.some.inj h).symm
  ·rename_i hn
   rw [if_neg hn]
   exact (Option.some.inj h).symm
 ·cases h
end Go.Proofs.YtidlldfghkaeeaaGreatDoor.P
