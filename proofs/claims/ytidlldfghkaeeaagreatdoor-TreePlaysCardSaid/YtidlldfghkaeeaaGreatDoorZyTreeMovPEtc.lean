/- Put together by pack2.py: TreeMovP, TreeMov -/
import Derived.Test.YtidlldfghkaeeaaGreatDoorZyTreeSamEtc
import Derived.Test.YtidlldfghkaeeaaGreatDoorZyW0
set_option linter.unusedVariables false
set_option linter.unusedSimpArgs false
set_option maxHeartbeats 8000000
set_option maxRecDepth 100000
namespace Go.Proofs.YtidlldfghkaeeaaGreatDoor.P
open Go.RowKit Go.Proofs.YtidlldfghkaeeaaGreatDoorW.PrintWords Go.Proofs.YtidlldfghkaeeaaGreatDoorW.PrintLast Go.Proofs.YtidlldfghkaeeaaGreatDoorW.PrintMore
def bytesAt (l : List S42) (p : ByteArray) : List Int := match l.find? (fun x => decide (x.f0 = p)) with
 | some x => x.f2
 | none => []
theorem bytesAt_eq {l : List S42} (hs : Srt S42.f0 l) {x : S42} (hx : x ∈ l) : bytesAt l x.f0 = x.f2 := by
 unfold bytesAt
 cases h : l.find? (fun y => decide (y.f0 = x.f0)) with
 | none =>
  have := List.find?_eq_none.1 h x hx
  simp at this
 | some y =>
  have h1 : y.f0 = x.f0 := by simpa using List.find?_some h
  have h2 := List.mem_of_find?_eq_some h
  rw [srt_key hs h2 hx h1]
def move0 (l : List S42) (p q : ByteArray) : List S42 × Int :=
 if GT30 l then if Gd p.data.toList ∧ Gd q.data.toList then
  if ∃ x ∈ l, x.f0 = p then if ∃ x ∈ l, x.f0 = p ∧ x.f1 = true then (l, 7) else if p = q then (l, 0) else
   if (with1 (delE S42.f0 p l) q false (bytesAt l p)).2 = 0 then ((with1 (delE S42.f0 p l) q false (bytesAt l p)).1, 0) else (l, (with1 (delE S42.f0 p l) q false (bytesAt l p)).2)
  else (l, 5) else (l, 4) else (l, 1)
theorem GT_del {l : List S42} {p : ByteArray} (h : GT30 l) (hf : ¬ ∃ x ∈ l, x.f0 = p ∧ x.f1 = true) : GT30 (delE S42.f0 p l) := by
 refine ⟨Nat.le_trans (List.length_filter_le _ _) h.1, Nat.le_trans (nB_filter _ _) h.2.1, delE_srt h.2.2.1, fun x hx => ?_⟩
 obtain ⟨hx, hk⟩ := delE_mem.1 hx
 obtain ⟨a1, a2, a3, a4⟩ := h.2.2.2 x hx
 refine ⟨a1, a2, a3, a4.imp id ?_⟩
 rintro ⟨d, hd, e1, e2⟩
 exact ⟨d, delE_mem.2 ⟨hd, fun e => hf ⟨d, hd, e, e2⟩⟩, e1, e2⟩
theorem ins_len {e : S42} : ∀ {l : List S42}, (∀ y ∈ l, y.f0 ≠ e.f0) → (insE S42.f0 e l).length = l.length + 1 ∧ nB S42.f2 (insE S42.f0 e l) = nB S42.f2 l + e.f2.length
 | [], _ => by simp [insE, nB]
 | x :: l, h => by
  have ih := ins_len (l := l) fun y hy => h y (List.mem_cons_of_mem _ hy)
  unfold insE
  split
  ·rw [List.length_cons, List.length_cons, nB_cons, nB_cons, ih.1, ih.2]
   exact ⟨rfl, by omega⟩
  ·rw [if_neg (h x List.mem_cons_self), List.length_cons, List.length_cons, nB_cons, nB_cons]
   exact ⟨rfl, by omega⟩
theorem move0_done {l : List S42} {p q : ByteArray} (h : (move0 l p q).2 = 0) : GT30 l ∧ Gd p.data.toList ∧ Gd q.data.toList ∧ ∃ x ∈ l, x.f0 = p ∧ x.f1 = false ∧ ((p = q ∧ (move0 l p q).1 = l) ∨ (p ≠ q ∧ with1 (delE S42.f0 p l) q false x.f2 = ((move0 l p q).1, 0))) := by
 unfold move0 at h ⊢
 by_cases h1 : GT30 l
 ·rw [if_pos h1] at h ⊢
  by_cases h2 : Gd p.data.toList ∧ Gd q.data.toList
  ·rw [if_pos h2] at h ⊢
   by_cases h3 : ∃ x ∈ l, x.f0 = p
   ·rw [if_pos h3] at h ⊢
    by_cases h4 : ∃ x ∈ l, x.f0 = p ∧ x.f1 = true
    ·rw [if_pos h4] at h
     cases h
    ·rw [if_neg h4] at h ⊢
     obtain ⟨x, hx, rfl⟩ := h3
     have hf : x.f1 = false := by
      cases hb : x.f1 with
      | false => rfl
      | true => exact absurd ⟨x, hx, rfl, hb⟩ h4
     refine ⟨h1, h2.1, h2.2, x, hx, rfl, hf, ?_⟩
     by_cases h5 : x.f0 = q
     ·rw [if_pos h5]
      exact .inl ⟨h5, rfl⟩
     ·rw [if_neg h5] at h ⊢
      rw [bytesAt_eq h1.2.2.1 hx] at h ⊢
      by_cases h6 : (with1 (delE S42.f0 x.f0 l) q false x.f2).2 = 0
      ·rw [if_pos h6]
       exact .inr ⟨h5, by rw [← h6]⟩
      ·rw [if_neg h6] at h
       exact absurd h h6
   ·rw [if_neg h3] at h
    cases h
  ·rw [if_neg h2] at h
   cases h
 ·rw [if_neg h1] at h
  cases h
theorem move0_not {l : List S42} {p q : ByteArray} (h : (move0 l p q).2 ≠ 0) : (move0 l p q).1 = l := by
 unfold move0 at h ⊢
 split
 ·split
  ·split
   ·split
    ·rfl
    ·split
     ·rfl
     ·split
      ·rename_i h1 h2 h3 h4 h5 h6
       rw [if_pos h1, if_pos h2, if_pos h3, if_neg h4, if_neg h5, if_pos h6] at h
       exact absurd rfl h
      ·rfl
   ·rfl
  ·rfl
 ·rfl
theorem move0_GT {l : List S42} {p q : ByteArray} (hl : GT30 l) : GT30 (move0 l p q).1 := by
 by_cases h : (move0 l p q).2 = 0
 ·obtain ⟨_, hp, hq, x, hx, hxp, hf, h1 | ⟨_, h1⟩⟩ := move0_done h
  ·rw [h1.2]; exact hl
  ·have hd : GT30 (delE S42.f0 p l) := GT_del hl fun ⟨y, hy, e1, e2⟩ => by
    rw [srt_key hl.2.2.1 hy hx (e1.trans hxp.symm), hf] at e2
    cases e2
   rcases with1_cases (d := false) (b := x.f2) hd hq (fun h => by cases h) with ⟨h2, h3⟩ | ⟨h2, h3, _⟩
   ·rw [h1] at h3
    exact absurd rfl h3
   ·rw [h1] at h2
    have h2 := (Prod.mk.inj h2).1
    rw [h2]
    exact h3
 ·rw [move0_not h]
  exact hl
structure MvC (P : Nat → Prop) (w wd W : World) (B : Nat) (bx : Option Nat) (v : Value) (l : List S42) : Prop where
 hN : Kd.N k42 42 W B (fun k => (P k ∧ k < w.heap.size ∨ wd.heap.size ≤ k) ∧ bx ≠ some k) v l
 hb : Below wd.heap.size wd W
 hB : wd.heap.size ≤ B
 hB2 : B ≤ W.heap.size
 hx : ∀ b, bx = some b → W.heap[b]? = some (.cells #[.slice none 0 0] 26 (0, 0)) ∧ wd.heap.size ≤ b
structure MvV (P : Nat → Prop) (w wd W : World) (bx : Option Nat) (v : Value) (l : List S42) : Prop where
 hV : Kd.V k42 42 W w.heap.size (fun k => (P k ∧ k < w.heap.size ∨ wd.heap.size ≤ k) ∧ bx ≠ some k) v l
 hb : Below wd.heap.size wd W
 hx : ∀ b, bx = some b → W.heap[b]? = some (.cells #[.slice none 0 0] 26 (0, 0)) ∧ wd.heap.size ≤ b
section
variable {P : Nat → Prop} {w wd W : World} {B : Nat} {bx : Option Nat} {v : Value} {l l0 : List S42} {A0 : Option Addr} {c0 : Nat}
theorem MvC.alloc (h : MvC P w wd W B none v l) : MvC P w wd (W.alloc (.cells #[.slice none 0 0] 26)) B (some W.heap.size) v l :=
 ⟨Kd.N_mono (Kd.N_alloc (Kd.N_bound h.hN) _) fun k hk => ⟨hk.1.1, fun e => by injection e with e; have := hk.2; omega⟩, h.hb.trans ((below_alloc (Below.refl W.heap.size W) _).mono h.hb.size), h.hB, Nat.le_trans h.hB2 (by rw [World.size_alloc]; omega), fun b hb => by
  injection hb with hb
  subst hb
  exact ⟨blk_new W _, Nat.le_trans h.hB h.hB2⟩⟩
theorem MvV.alloc (h : MvV P w wd W none v l) : MvV P w wd (W.alloc (.cells #[.slice none 0 0] 26)) (some W.heap.size) v l :=
 ⟨Kd.V_mono (Kd.V_alloc (Kd.V_bound h.hV) _) fun k hk => ⟨hk.1.1, fun e => by injection e with e; have := hk.2; omega⟩, h.hb.trans ((below_alloc (Below.refl W.heap.size W) _).mono h.hb.size), fun b hb => by
  injection hb with hb
  subst hb
  exact ⟨blk_new W _, h.hb.size⟩⟩
theorem Mv_clone0 (hV : Kd.V k42 42 wd wd.heap.size (fun k => P k ∧ k < w.heap.size) (.slice A0 l0.length c0) l0) (hl : l0.length ≤ 100000) :
  Calls Tryz.prog 55 #[.slice A0 l0.length c0] wd fun e w' => ∃ v' : Value, e = .returned v' ∧ MvC P w wd w' wd.heap.size none v' l0 :=
 (CloneE_calls _ A0 c0 l0 wd hV hl).mono fun e w' ⟨v', h1, h2, h3⟩ => ⟨v', h1, ⟨Kd.N_mono h2 fun k hk => ⟨hk, fun e => by cases e⟩, h3, Nat.le_refl _, h3.size, fun b hb => by cases hb⟩⟩
theorem Mv_clone1 (hV : Kd.V k42 42 wd wd.heap.size (fun k => P k ∧ k < w.heap.size) (.slice A0 l0.length c0) l0) (hsz : w.heap.size + 2 ≤ wd.heap.size) (hl : l0.length ≤ 100000) :
  Calls Tryz.prog 55 #[.slice A0 l0.length c0] (wd.alloc (.cells #[.slice none 0 0] 26)) fun e w' => ∃ v' : Value, e = .returned v' ∧ MvC P w wd w' (wd.heap.size + 1) (some wd.heap.size) v' l0 := by
 have hs : (wd.alloc (.cells #[.slice none 0 0] 26)).heap.size = wd.heap.size + 1 := World.size_alloc _ _
 have hb := below_alloc (Below.refl wd.heap.size wd) (.cells #[.slice none 0 0] 26)
 have hx := blk_new wd (.cells #[.slice none 0 0] 26)
 have hV1 : Kd.V k42 42 (wd.alloc (.cells #[.slice none 0 0] 26)) (wd.alloc (.cells #[.slice none 0 0] 26)).heap.size (fun k => P k ∧ k < w.heap.size) (.slice A0 l0.length c0) l0 := Kd.V_alloc hV _
 refine (CloneE_calls _ A0 c0 l0 _ hV1 hl).mono ?_
 generalize wd.alloc (.cells #[.slice none 0 0] 26) = W at *
 rintro e w' ⟨v', h1, h2, h3⟩
 rw [hs] at h2
 have h3s := h3.size
 refine ⟨v', h1, ⟨Kd.N_mono h2 fun k hk => ⟨hk.imp id fun h => by omega, fun e => ?_⟩, hb.trans (h3.mono hb.size), by omega, by omega, fun b hb => ?_⟩⟩
 ·injection e with e
  rcases hk with hk | hk
  ·have := hk.2
   omega
  ·omega
 ·injection hb with hb
  subst hb
  exact ⟨(h3.block _ (blk_lt hx)).trans hx, Nat.le_refl _⟩
theorem Mv_delete (h : MvC P w wd W B bx v l) {i : Nat} {ii jj : Int} (hi : i < l.length) (hn : l.length ≤ 100000) (hii : ii = (i : Int)) (hjj : jj = ((i + 1 : Nat) : Int)) :
  Calls Tryz.prog 54 #[v, .int .i64 ii, .int .i64 jj] W fun e w' => ∃ A' c', e = .returned (.slice A' (l.eraseIdx i).length c') ∧ MvC P w wd w' B bx (.slice A' (l.eraseIdx i).length c') (l.eraseIdx i) :=
 (DeleteEK_calls B _ v i ii jj l W h.hN h.hB2 hi hn hii hjj).mono fun e w' ⟨v', h1, h2, h3, h4⟩ => by
  obtain ⟨A', c', rfl⟩ := Kd.N_slice h2
  exact ⟨A', c', h1, ⟨h2, h.hb.trans (h3.mono h.hB), h.hB, Nat.le_trans h.hB2 h3.size, fun b hb => ⟨(h4 b (blk_lt (h.hx b hb).1) (fun e => (h.hN.1 b e.symm).2 hb)).trans (h.hx b hb).1, (h.hx b hb).2⟩⟩⟩
theorem Mv_with (h : MvC P w wd W B bx v l) {p : ByteArray} {d : Bool} {A2 : Option Addr} {c2 : Nat} {b : List Int} {n : Int} (hr2 : Kd.C (Kd.int .u8) W A2 b.length b) (hc2 : b.length ≤ c2)
  (hok : okP l = true) (hp : p.size < 4294967280) (hsrt : Srt S42.f0 l) (hb : b.length ≤ 1000000000000) (hnb : nB30 l ≤ 1000000000000) (hl0 : l.length ≤ 10000) (hup : tree_up.f l p = some n) (RL : List S42) (RN : Int) (hR : (RL, RN) = if n = 0 then with0 l p d b else (l, n)) :
  Calls Tryz.prog 47 #[.agg #[v], .agg #[.string p, .bool d, .slice A2 b.length c2]] W fun e w' => ∃ v' : Value, e = .returned (.tuple #[.agg #[v'], .int .i64 RN]) ∧ MvV P w wd w' bx v' RL := by
 obtain ⟨A, c, rfl⟩ := Kd.N_slice h.hN
 refine (With_calls _ A c l p d A2 c2 b n W (Kd.N_V h.hN) hr2 hc2 hok hp hsrt hb hnb hl0 hup (RL, RN) hR).mono ?_
 rintro e w' ⟨v', h1, h2, h3⟩
 refine ⟨v', h1, ⟨Kd.V_mono h2 fun k hk => ?_, h.hb.trans (h3.mono h.hb.size), fun b hb => ⟨(h3.block b (blk_lt (h.hx b hb).1)).trans (h.hx b hb).1, (h.hx b hb).2⟩⟩⟩
 rcases hk with hk | hk
 ·exact hk
 ·refine ⟨.inr (Nat.le_trans h.hb.size hk), fun e => ?_⟩
  have := blk_lt (h.hx k e).1
  omega
end
theorem Move_calls (P : Nat → Prop) (A0 : Option Addr) (c0 : Nat) (l0 : List S42) (p q : ByteArray) (w : World) (hs0 : Kd.V k42 42 w w.heap.size (fun k_ => P k_) (.slice A0 l0.length c0) l0) (hok : okT l0) (hp : p.size < 4294967280) (hq : q.size < 4294967280) (R : List S42 × Int) (hR : R = move0 l0 p q) :
  Calls Tryz.prog 12 #[.agg #[.slice A0 l0.length c0], .string p, .string q] w fun e w' => ∃ v0_ : Value, e = .returned (.tuple #[.agg #[v0_], .int .i64 R.2]) ∧ Kd.V k42 42 w' w.heap.size (fun k_ => (P k_ ∨ w.heap.size ≤ k_)) v0_ R.1 ∧ Below w.heap.size w w' := by
 have hu26 := Tryz.underlying26
 have hu30 := Tryz.underlying42
 have HS := Aside0.mk hs0
 have HRR := Aside0.mk hR
 clear hR
 have hC0 := (Kd.V_reads' hs0).2.2
 have hc0 := (Kd.V_reads' hs0).2.1
 have hge := tree_Good.eq hok
 have hpg := Good_eq (s := p) (by omega)
 have hqg := Good_eq (s := q) (by omega)
 obtain ⟨gd, hgd⟩ : ∃ gd, gd = decide (GT30 l0) := ⟨_, rfl⟩
 obtain ⟨gp, hgp⟩ : ∃ gp, gp = decide (Gd p.data.toList) := ⟨_, rfl⟩
 obtain ⟨gq, hgq⟩ : ∃ gq, gq = decide (Gd q.data.toList) := ⟨_, rfl⟩
 rw [← hgd] at hge
 rw [← hgp] at hpg
 rw [← hgq] at hqg
 have HGD := Aside0.mk hgd
 have HGP := Aside0.mk hgp
 have HGQ := Aside0.mk hgq
 have HOK := Aside0.mk hok
 have X0 := By.new w (.slice A0 l0.length c0)
 obtain ⟨m20, m40, f40⟩ := X0.cells
 clear hgd hgp hgq hs0 hok
 go_enter Tryz.func12, Tryz.ntmps12
 go_wp2_with (fail)
 refine (tree_Good.calls A0 c0 l0 gd _ (Kd.C_below hC0 X0.b) hc0 hge).mono ?_
 rintro e W1 ⟨rfl, hb1⟩
 have X1 := X0.below hb1
 clear X0 hb1 hge m20 m40 f40
 dsimp only
 obtain ⟨m20, m40, f40⟩ := X1.cells
 cases gd with
 | false =>
  go_wp2_with (fail)
  refine bodyPost_ret (results_ct rfl _ _ (w.heap.size + 1) 26 #[.slice A0 l0.length c0] (0, 0) _ rfl (blk_put (cs := #[.slice none 0 0]) X1.k4 0 _ rfl) Tryz.underlying26 rfl (by kernel_rfl)) rfl ?_
  obtain rfl : R = (l0, 1) := by rw [HRR.out, move0, if_neg (of_decide_eq_false HGD.out.symm)]
  exact ⟨_, rfl, V_came HS.out X1.b (by omega) _, X1.b.setCell (p := ⟨w.heap.size + 1, 0, none⟩) (by show w.heap.size ≤ w.heap.size + 1; omega) _⟩
 | true =>
  go_wp2_with (fail)
  refine (path_Good.calls p gp W1 hpg).mono ?_
  rintro e W2 ⟨rfl, hb2⟩
  have X2 := X1.below hb2
  clear X1 hb2 hpg m20 m40 f40
  dsimp only
  obtain ⟨m20, m40, f40⟩ := X2.cells
  have hg := of_decide_eq_true HGD.out.symm
  have HG := Aside0.mk hg
  clear hg
  cases gp with
  | false =>
   go_wp2_with (fail)
   refine bodyPost_ret (results_ct rfl _ _ (w.heap.size + 1) 26 #[.slice A0 l0.length c0] (0, 0) _ rfl (blk_put (cs := #[.slice none 0 0]) X2.k4 0 _ rfl) Tryz.underlying26 rfl (by kernel_rfl)) rfl ?_
   obtain rfl : R = (l0, 4) := by rw [HRR.out, move0, if_pos HG.out, if_neg (fun h => of_decide_eq_false HGP.out.symm h.1)]
   exact ⟨_, rfl, V_came HS.out X2.b (by omega) _, X2.b.setCell (p := ⟨w.heap.size + 1, 0, none⟩) (by show w.heap.size ≤ w.heap.size + 1; omega) _⟩
  | true =>
   go_wp2_with (fail)
   refine (path_Good.calls q gq W2 hqg).mono ?_
   rintro e W3 ⟨rfl, hb3⟩
   have X3 := X2.below hb3
   clear X2 hb3 hqg m20 m40 f40
   dsimp only
   obtain ⟨m20, m40, f40⟩ := X3.cells
   cases gq with
   | false =>
    go_wp2_with (fail)
    refine bodyPost_ret (results_ct rfl _ _ (w.heap.size + 1) 26 #[.slice A0 l0.length c0] (0, 0) _ rfl (blk_put (cs := #[.slice none 0 0]) X3.k4 0 _ rfl) Tryz.underlying26 rfl (by kernel_rfl)) rfl ?_
    obtain rfl : R = (l0, 4) := by rw [HRR.out, move0, if_pos HG.out, if_neg (fun h => of_decide_eq_false HGQ.out.symm h.2)]
    exact ⟨_, rfl, V_came HS.out X3.b (by omega) _, X3.b.setCell (p := ⟨w.heap.size + 1, 0, none⟩) (by show w.heap.size ≤ w.heap.size + 1; omega) _⟩
   | true =>
    have HPQ : Aside0 (Gd p.data.toList ∧ Gd q.data.toList) := ⟨⟨of_decide_eq_true HGP.out.symm, of_decide_eq_true HGQ.out.symm⟩⟩
    have hfd := tree_find.eq HOK.out hp HG.out.2.2.1
    have hlow := lowB_at (p := p) HG.out.2.2.1
    have HLOW := Aside0.mk hlow
    obtain ⟨fd, hfq⟩ : ∃ fd, fd = decide (∃ x ∈ l0, x.f0 = p) := ⟨_, rfl⟩
    rw [← hfq] at hfd
    obtain ⟨i, hi⟩ : ∃ i, i = lowB S42.f0 p l0 := ⟨_, rfl⟩
    rw [← hi] at hfd
    have HFQ := Aside0.mk hfq
    have HI := Aside0.mk hi
    clear hfq hlow hi
    go_wp2_with (fail)
    refine (tree_find.calls A0 c0 l0 p i fd W3 (Kd.C_below hC0 X3.b) hc0 hfd).mono ?_
    rintro e W4 ⟨rfl, hb4⟩
    have X4 := X3.below hb4
    clear X3 hb4 hfd m20 m40 f40
    dsimp only
    obtain ⟨m20, m40, f40⟩ := X4.cells
    cases fd with
    | false =>
     go_wp2_with (fail)
     refine bodyPost_ret (results_ct rfl _ _ (w.heap.size + 1) 26 #[.slice A0 l0.length c0] (0, 0) _ rfl (blk_put (cs := #[.slice none 0 0]) X4.k4 0 _ rfl) Tryz.underlying26 rfl (by kernel_rfl)) rfl ?_
     obtain rfl : R = (l0, 5) := by rw [HRR.out, move0, if_pos HG.out, if_pos HPQ.out, if_neg (of_decide_eq_false HFQ.out.symm)]
     exact ⟨_, rfl, V_came HS.out X4.b (by omega) _, X4.b.setCell (p := ⟨w.heap.size + 1, 0, none⟩) (by show w.heap.size ≤ w.heap.size + 1; omega) _⟩
    | true =>
     have hex := of_decide_eq_true HFQ.out.symm
     obtain ⟨hlt, hat⟩ := HLOW.out.2 hex
     have hlt' : i < l0.length := by rw [HI.out]; exact hlt
     have hat' : l0[i].f0 = p := by
      have h := HI.out
      subst h
      exact hat
     clear hlt hat
     obtain ⟨ad, A9, c9, rfl, k0, k1, k2, k3, k4⟩ := atT (Kd.C_below hC0 X4.b) i hlt'
     have a1 : decide ((i : Int) < (l0.length : Int)) = true := decide_eq_true (by omega)
     have a2 : decide (0 ≤ (i : Int)) = true := decide_eq_true (by omega)
     have hmem := List.getElem_mem hlt'
     obtain ⟨X, hX⟩ : ∃ X, X = l0[i] := ⟨_, rfl⟩
     rw [← hX] at k0 k1 k2 k3 k4 hat' hmem
     have HX := Aside0.mk hX
     have HAT := Aside0.mk hat'
     have HMEM := Aside0.mk hmem
     have HEX := Aside0.mk hex
     have HK4 := Aside0.mk k4
     clear hX hat' hmem hex k4
     obtain ⟨dd, hdd⟩ : ∃ dd, dd = X.f1 := ⟨_, rfl⟩
     rw [← hdd] at k1
     have HDD := Aside0.mk hdd
     clear hdd
     cases dd with
     | true =>
      go_wp2_with (fail)
      refine bodyPost_ret (results_ct rfl _ _ (w.heap.size + 1) 26 #[.slice (some ad) l0.length c0] (0, 0) _ rfl (blk_put (cs := #[.slice none 0 0]) X4.k4 0 _ rfl) Tryz.underlying26 rfl (by kernel_rfl)) rfl ?_
      obtain rfl : R = (l0, 7) := by rw [HRR.out, move0, if_pos HG.out, if_pos HPQ.out, if_pos HEX.out, if_pos ⟨X, HMEM.out, HAT.out, HDD.out.symm⟩]
      exact ⟨_, rfl, V_came HS.out X4.b (by omega) _, X4.b.setCell (p := ⟨w.heap.size + 1, 0, none⟩) (by show w.heap.size ≤ w.heap.size + 1; omega) _⟩
     | false =>
      have HND : Aside0 (¬ ∃ x ∈ l0, x.f0 = p ∧ x.f1 = true) := ⟨fun ⟨y, hy, e1, e2⟩ => by
       rw [srt_key HG.out.2.2.1 hy HMEM.out (e1.trans HAT.out.symm), ← HDD.out] at e2
       cases e2⟩
      by_cases hpq : p = q
      ·have h1 : (p.toList == q.toList) = true := by rw [hpq]; exact beq_self_eq_true _
       have HPE := Aside0.mk hpq
       clear hpq
       go_wp2_with (fail)
       refine bodyPost_ret (results_ct rfl _ _ (w.heap.size + 1) 26 #[.slice (some ad) l0.length c0] (0, 0) _ rfl (blk_put (cs := #[.slice none 0 0]) X4.k4 0 _ rfl) Tryz.underlying26 rfl (by kernel_rfl)) rfl ?_
       obtain rfl : R = (l0, 0) := by rw [HRR.out, move0, if_pos HG.out, if_pos HPQ.out, if_pos HEX.out, if_neg HND.out, if_pos HPE.out]
       exact ⟨_, rfl, V_came HS.out X4.b (by omega) _, X4.b.setCell (p := ⟨w.heap.size + 1, 0, none⟩) (by show w.heap.size ≤ w.heap.size + 1; omega) _⟩
      ·have HNE := Aside0.mk hpq
       have h1 : (p.toList == q.toList) = false := by
        refine beq_eq_false_iff_ne.2 fun e => hpq ?_
        rw [Lib.toList_data, Lib.toList_data] at e
        exact bext e
       clear hpq
       have hgd := GT_del (p := p) HG.out HND.out
       have hbt : bytesAt l0 p = X.f2 := by rw [← HAT.out]; exact bytesAt_eq HG.out.2.2.1 HMEM.out
       obtain ⟨RL, RN, hrw⟩ : ∃ RL RN, with1 (delE S42.f0 p l0) q false X.f2 = (RL, RN) := ⟨_, _, rfl⟩
       have hl40 : l0.length ≤ 100000 := by have := HG.out.1; omega
       have hdl : l0.eraseIdx i = delE S42.f0 p l0 := by
        rw [List.eraseIdx_eq_take_drop_succ]
        refine erase_del HG.out.2.2.1 hlt' ?_
        rw [← HX.out]
        exact HAT.out
       have hX2 : X.f2.length ≤ 1000000000000 := by have := nB_mem HMEM.out; have := HG.out.2.1; unfold nB30 at *; omega
       have hokd : okP (delE S42.f0 p l0) = true := okP_iff.2 ⟨fun y hy => (okP_iff.1 HOK.out.1).1 y (delE_mem.1 hy).1, by have := hgd.1; omega⟩
       have hnbd : nB30 (delE S42.f0 p l0) ≤ 1000000000000 := by have := hgd.2.1; unfold nB30; omega
       have HWITH : Aside0 (∀ (wd W : World) (bx : Option Nat) (v : Value) {B : Nat}, MvC P w wd W B bx v (l0.eraseIdx i) → Kd.C (Kd.int .u8) W A9 X.f2.length X.f2 → Calls Tryz.prog 47 #[.agg #[v], .agg #[.string q, .bool false, .slice A9 X.f2.length c9]] W fun e w' => ∃ v' : Value, e = .returned (.tuple #[.agg #[v'], .int .i64 RN]) ∧ MvV P w wd w' bx v' RL) := ⟨by
        intro wd W bx v B h hr2
        rw [hdl] at h
        refine Mv_with h (d := false) hr2 k3 hokd hq hgd.2.2.1 hX2 hnbd (by have := hgd.1; omega) (tree_up.eq ⟨hokd, hnbd⟩ hq hgd.2.2.1 HPQ.out.2) RL RN ?_
        exact hrw.symm⟩
       have HM : Aside0 (R = if RN = 0 then (RL, 0) else (l0, RN)) := ⟨by rw [HRR.out, move0, if_pos HG.out, if_pos HPQ.out, if_pos HEX.out, if_neg HND.out, if_neg HNE.out, hbt, hrw]⟩
       have HL40 := Aside0.mk hl40
       have HLT := Aside0.mk hlt'
       obtain ⟨ii, hii⟩ : ∃ ii : Int, ii = (i : Int) := ⟨_, rfl⟩
       have hw : wrap64 (ii + 1) = ((i + 1 : Nat) : Int) := by rw [hii]; exact wr1 (by have := HG.out.1; omega)
       have hti : ii.toNat = i := by rw [hii, Int.toNat_natCast]
       have hlo : 0 ≤ ii := by omega
       have hhi : ii < (l0.length : Int) := by omega
       rw [← hii] at a1 a2 ⊢
       have HII := Aside0.mk hii
       have HJJ := Aside0.mk hw
       clear hgd hbt hrw hl40 hdl hX2 hokd hnbd hii hw HX
       clear hlt'
       go_wp2_with (fail)
       have hXd := X4.below (below_drew (Below.refl W4.heap.size W4))
       have md := hXd.cells.1
       have kd : W4.drew.cell? ⟨(ad.add (i * 3)).block, (ad.add (i * 3)).off + 2, none⟩ = some (.slice A9 X.f2.length c9) := k2
       have hVd : Kd.V k42 42 W4.drew W4.drew.heap.size (fun k => P k ∧ k < w.heap.size) (.slice (some ad) l0.length c0) l0 := Kd.V_below (Kd.V_bound HS.out) hXd.b
       have hsz : w.heap.size + 2 ≤ W4.drew.heap.size := by
        have := blk_lt hXd.k4
        omega
       have HCB : Aside0 (Kd.C (Kd.int .u8) W4.drew A9 X.f2.length X.f2) := ⟨Kd.C_drew HK4.out⟩
       clear X4 m20 m40 f40 k0 k1 k2 HK4
       refine start_ (n := 23) (S := fun w' => w'.cell? ⟨w.heap.size, 0, none⟩ = some (.slice (some ad) l0.length c0) ∧ w'.cell? ⟨(ad.add (i * 3)).block, (ad.add (i * 3)).off + 2, none⟩ = some (.slice A9 X.f2.length c9)) (ds := [21]) (bs_ 23 0x0) (by kernel_rfl) rfl rfl ⟨md, kd⟩ (fun hHeld => ?_)
       generalize W4.drew = wd at md kd hVd hsz hXd HCB hHeld ⊢
       refine pl_ [(0, some 52, 0x1), (3, some 55, 0x9), (4, some 56, 0x19), (5, some 57, 0x39), (8, some 60, 0x139), (9, some 61, 0x339), (11, some 63, 0xb39), (1, some 53, 0xb3b), (10, some 62, 0xf3b), (12, some 64, 0x1f3b), (13, some 65, 0x3f3b), (14, some 66, 0x7f3b), (15, some 67, 0xff3b)] ?_; iterate 13 (first | (refine pr_ (v := ?_) (a' := ?_) rfl rfl (by kernel_rfl) (fun _ _ _ h => h) (Or.inl ⟨by rfl, ?_⟩) ?_ ?_; rotate_left; (intro w'; go_simp; with_reducible rfl); rotate_left; (simp only [nm_]; rfl)) | (refine tr_ (v := ?_) (a' := ?_) rfl rfl (by kernel_rfl) (fun _ _ _ h => h) (Or.inl ⟨by rfl, ?_⟩) hHeld ?_ ?_; rotate_left; (rintro w' ⟨s0, s1⟩; go_simp; with_reducible rfl); rotate_left; (simp only [nm_]; rfl)))
       refine ql_ ?_
       refine join_ (σ := Value × Option Addr × Nat × Value × Nat) 2 (bs_ 23 0x1fffff) (fun s => [(54, s.1), (58, .slice s.2.1 (l0.eraseIdx i).length s.2.2.1), (59, .agg #[.slice s.2.1 (l0.eraseIdx i).length s.2.2.1]), (68, .tuple #[.agg #[s.2.2.2.1], .int .i64 RN]), (51, .tuple #[.agg #[s.2.2.2.1], .int .i64 RN]), (69, .agg #[s.2.2.2.1]), (70, .int .i64 RN), (10, .pointer (some ⟨s.2.2.2.2, 0, none⟩))]) (fun s w' => MvV P w wd w' (some s.2.2.2.2) s.2.2.2.1 RL) ?_ ?_
       rotate_left
       ·intro hCont
        refine two_ (i := 2) (j := 20) (Ni := some 54) (Nj := some 10) (bs_ 23 0xff3f) (bs_ 23 0x10ff3b) rfl rfl rfl rfl (by kernel_rfl) (by decide) (by decide) (fun K hK => ?_) (fun K hK => ?_)
        ·skip
         refine goes_ Tryz.func55 (by kernel_rfl) rfl #[.slice (some ad) l0.length c0] (by rfl) rfl rfl (by simp only [List.map_toArray, List.map_cons, List.map_nil]; rfl) ?_
         with_reducible refine (Mv_clone0 hVd HL40.out).mono ?_
         rintro e wA ⟨vA, rfl, hM⟩
         refine ⟨_, rfl, ?_⟩
         refine hK.out _ _ ⟨(Below.cell hM.hb (cell_lt2 md)).trans md, (Below.cell hM.hb (cell_lt2 kd)).trans kd⟩ (fun hHeld => ?_)
         clear hK K
         refine norm_ (a' := ?_) ?_ ?_
         rotate_left
         ·show Act.put _ (some 54) _ = _
          simp only [nm_]
          rfl
         refine two_ (i := 6) (j := 20) (Ni := some 58) (Nj := some 10) (bs_ 23 0xff7f) (bs_ 23 0x10ff3f) rfl rfl rfl rfl (by kernel_rfl) (by decide) (by decide) (fun K hK => ?_) (fun K hK => ?_)
         ·skip
          refine goes_ Tryz.func54 (by kernel_rfl) rfl #[vA, .int .i64 ii, .int .i64 (wrap64 (ii + 1))] (by rfl) rfl rfl (by simp only [List.map_toArray, List.map_cons, List.map_nil]; rfl) ?_
          with_reducible refine (Mv_delete hM HLT.out HL40.out HII.out HJJ.out).mono ?_
          rintro e wB ⟨AB, cB, rfl, hM⟩
          refine ⟨_, rfl, ?_⟩
          refine hK.out _ _ ⟨(Below.cell hM.hb (cell_lt2 md)).trans md, (Below.cell hM.hb (cell_lt2 kd)).trans kd⟩ (fun hHeld => ?_)
          clear hK K
          refine norm_ (a' := ?_) ?_ ?_
          rotate_left
          ·show Act.put _ (some 58) _ = _
           simp only [nm_]
           rfl
          refine pure_ (i := 7) (N := some 59) (v := ?_) (a' := ?_) (bs_ 23 0xffff) rfl rfl (by kernel_rfl) (fun _ _ _ h => h) (Or.inl ⟨by rfl, ?_⟩) ?_ ?_; rotate_left; (intro w'; go_simp; with_reducible rfl); rotate_left; (simp only [nm_]; rfl)
          refine two_ (i := 16) (j := 20) (Ni := some 68) (Nj := some 10) (bs_ 23 0x1ffff) (bs_ 23 0x10ffff) rfl rfl rfl rfl (by kernel_rfl) (by decide) (by decide) (fun K hK => ?_) (fun K hK => ?_)
          ·skip
           refine goes_ Tryz.func47 (by kernel_rfl) rfl #[.agg #[.slice AB (l0.eraseIdx i).length cB], .agg #[.string q, .bool false, .slice A9 X.f2.length c9]] (by rfl) rfl rfl (by simp only [List.map_toArray, List.map_cons, List.map_nil]; rfl) ?_
           with_reducible refine (HWITH.out _ _ _ _ hM (Kd.C_below HCB.out hM.hb)).mono ?_
           rintro e wC ⟨vC, rfl, hW⟩
           refine ⟨_, rfl, ?_⟩
           refine hK.out _ _ ⟨(Below.cell hW.hb (cell_lt2 md)).trans md, (Below.cell hW.hb (cell_lt2 kd)).trans kd⟩ (fun hHeld => ?_)
           clear hK K
           refine norm_ (a' := ?_) ?_ ?_
           rotate_left
           ·show Act.put _ (some 68) _ = _
            simp only [nm_]
            rfl
           refine pl_ [(17, some 51, 0x3ffff), (18, some 69, 0x7ffff), (19, some 70, 0xfffff)] ?_; iterate 3 (refine pr_ (v := ?_) (a' := ?_) rfl rfl (by kernel_rfl) (fun _ _ _ h => h) (Or.inl ⟨by rfl, ?_⟩) ?_ ?_; rotate_left; (intro w'; go_simp; with_reducible rfl); rotate_left; (simp only [nm_]; rfl))
           refine ql_ ?_
           refine one_ (i := 20) (N := some 10) (bs_ 23 0x1fffff) rfl rfl (by kernel_rfl) (by decide) (fun K hK => ?_)
           refine value_ (w1 := ?_) (v := ?_) (by rfl) rfl ?_ ?_
           rotate_left 2
           ·go_simp
            constructor
            ·rfl
            ·rfl
           replace hW := hW.alloc
           refine hK.out _ _ ⟨(Below.cell hW.hb (cell_lt2 md)).trans md, (Below.cell hW.hb (cell_lt2 kd)).trans kd⟩ (fun hHeld => ?_)
           clear hK K
           refine norm_ (a' := ?_) ?_ ?_
           rotate_left
           ·show Act.put _ (some 10) _ = _
            simp only [nm_]
            rfl
           exact norm_ (by simp only [putAll, Act.put, List.setIfInBounds_toArray, List.set_cons_zero, List.set_cons_succ]) (hCont (vA, AB, cB, vC, wC.heap.size) _ hW)
          ·skip
           refine value_ (w1 := ?_) (v := ?_) (by rfl) rfl ?_ ?_
           rotate_left 2
           ·go_simp
            constructor
            ·rfl
            ·rfl
           replace hM := hM.alloc
           refine hK.out _ _ ⟨(Below.cell hM.hb (cell_lt2 md)).trans md, (Below.cell hM.hb (cell_lt2 kd)).trans kd⟩ (fun hHeld => ?_)
           clear hK K
           refine norm_ (a' := ?_) ?_ ?_
           rotate_left
           ·show Act.put _ (some 10) _ = _
            simp only [nm_]
            rfl
           refine one_ (i := 16) (N := some 68) (bs_ 23 0x11ffff) rfl rfl (by kernel_rfl) (by decide) (fun K hK => ?_)
           refine goes_ Tryz.func47 (by kernel_rfl) rfl #[.agg #[.slice AB (l0.eraseIdx i).length cB], .agg #[.string q, .bool false, .slice A9 X.f2.length c9]] (by rfl) rfl rfl (by simp only [List.map_toArray, List.map_cons, List.map_nil]; rfl) ?_
           with_reducible refine (HWITH.out _ _ _ _ hM (Kd.C_below HCB.out hM.hb)).mono ?_
           rintro e wC ⟨vC, rfl, hW⟩
           refine ⟨_, rfl, ?_⟩
           refine hK.out _ _ ⟨(Below.cell hW.hb (cell_lt2 md)).trans md, (Below.cell hW.hb (cell_lt2 kd)).trans kd⟩ (fun hHeld => ?_)
           clear hK K
           refine norm_ (a' := ?_) ?_ ?_
           rotate_left
           ·show Act.put _ (some 68) _ = _
            simp only [nm_]
            rfl
           refine pl_ [(17, some 51, 0x13ffff), (18, some 69, 0x17ffff), (19, some 70, 0x1fffff)] ?_; iterate 3 (refine pr_ (v := ?_) (a' := ?_) rfl rfl (by kernel_rfl) (fun _ _ _ h => h) (Or.inl ⟨by rfl, ?_⟩) ?_ ?_; rotate_left; (intro w'; go_simp; with_reducible rfl); rotate_left; (simp only [nm_]; rfl))
           refine ql_ ?_
           exact norm_ (by simp only [putAll, Act.put, List.setIfInBounds_toArray, List.set_cons_zero, List.set_cons_succ]) (hCont (vA, AB, cB, vC, wB.heap.size) _ hW)
         ·skip
          refine value_ (w1 := ?_) (v := ?_) (by rfl) rfl ?_ ?_
          rotate_left 2
          ·go_simp
           constructor
           ·rfl
           ·rfl
          replace hM := hM.alloc
          refine hK.out _ _ ⟨(Below.cell hM.hb (cell_lt2 md)).trans md, (Below.cell hM.hb (cell_lt2 kd)).trans kd⟩ (fun hHeld => ?_)
          clear hK K
          refine norm_ (a' := ?_) ?_ ?_
          rotate_left
          ·show Act.put _ (some 10) _ = _
           simp only [nm_]
           rfl
          refine one_ (i := 6) (N := some 58) (bs_ 23 0x10ff7f) rfl rfl (by kernel_rfl) (by decide) (fun K hK => ?_)
          refine goes_ Tryz.func54 (by kernel_rfl) rfl #[vA, .int .i64 ii, .int .i64 (wrap64 (ii + 1))] (by rfl) rfl rfl (by simp only [List.map_toArray, List.map_cons, List.map_nil]; rfl) ?_
          with_reducible refine (Mv_delete hM HLT.out HL40.out HII.out HJJ.out).mono ?_
          rintro e wB ⟨AB, cB, rfl, hM⟩
          refine ⟨_, rfl, ?_⟩
          refine hK.out _ _ ⟨(Below.cell hM.hb (cell_lt2 md)).trans md, (Below.cell hM.hb (cell_lt2 kd)).trans kd⟩ (fun hHeld => ?_)
          clear hK K
          refine norm_ (a' := ?_) ?_ ?_
          rotate_left
          ·show Act.put _ (some 58) _ = _
           simp only [nm_]
           rfl
          refine pure_ (i := 7) (N := some 59) (v := ?_) (a' := ?_) (bs_ 23 0x10ffff) rfl rfl (by kernel_rfl) (fun _ _ _ h => h) (Or.inl ⟨by rfl, ?_⟩) ?_ ?_; rotate_left; (intro w'; go_simp; with_reducible rfl); rotate_left; (simp only [nm_]; rfl)
          refine one_ (i := 16) (N := some 68) (bs_ 23 0x11ffff) rfl rfl (by kernel_rfl) (by decide) (fun K hK => ?_)
          refine goes_ Tryz.func47 (by kernel_rfl) rfl #[.agg #[.slice AB (l0.eraseIdx i).length cB], .agg #[.string q, .bool false, .slice A9 X.f2.length c9]] (by rfl) rfl rfl (by simp only [List.map_toArray, List.map_cons, List.map_nil]; rfl) ?_
          with_reducible refine (HWITH.out _ _ _ _ hM (Kd.C_below HCB.out hM.hb)).mono ?_
          rintro e wC ⟨vC, rfl, hW⟩
          refine ⟨_, rfl, ?_⟩
          refine hK.out _ _ ⟨(Below.cell hW.hb (cell_lt2 md)).trans md, (Below.cell hW.hb (cell_lt2 kd)).trans kd⟩ (fun hHeld => ?_)
          clear hK K
          refine norm_ (a' := ?_) ?_ ?_
          rotate_left
          ·show Act.put _ (some 68) _ = _
           simp only [nm_]
           rfl
          refine pl_ [(17, some 51, 0x13ffff), (18, some 69, 0x17ffff), (19, some 70, 0x1fffff)] ?_; iterate 3 (refine pr_ (v := ?_) (a' := ?_) rfl rfl (by kernel_rfl) (fun _ _ _ h => h) (Or.inl ⟨by rfl, ?_⟩) ?_ ?_; rotate_left; (intro w'; go_simp; with_reducible rfl); rotate_left; (simp only [nm_]; rfl))
          refine ql_ ?_
          exact norm_ (by simp only [putAll, Act.put, List.setIfInBounds_toArray, List.set_cons_zero, List.set_cons_succ]) (hCont (vA, AB, cB, vC, wA.heap.size) _ hW)
        ·skip
         refine value_ (w1 := ?_) (v := ?_) (by rfl) rfl ?_ ?_
         rotate_left 2
         ·go_simp
          constructor
          ·rfl
          ·rfl
         have hb0 := below_alloc (Below.refl wd.heap.size wd) (.cells #[.slice none 0 0] 26)
         refine hK.out _ _ ⟨(Below.cell hb0 (cell_lt2 md)).trans md, (Below.cell hb0 (cell_lt2 kd)).trans kd⟩ (fun hHeld => ?_)
         clear hK K
         refine norm_ (a' := ?_) ?_ ?_
         rotate_left
         ·show Act.put _ (some 10) _ = _
          simp only [nm_]
          rfl
         refine one_ (i := 2) (N := some 54) (bs_ 23 0x10ff3f) rfl rfl (by kernel_rfl) (by decide) (fun K hK => ?_)
         refine goes_ Tryz.func55 (by kernel_rfl) rfl #[.slice (some ad) l0.length c0] (by rfl) rfl rfl (by simp only [List.map_toArray, List.map_cons, List.map_nil]; rfl) ?_
         with_reducible refine (Mv_clone1 hVd hsz HL40.out).mono ?_
         rintro e wA ⟨vA, rfl, hM⟩
         refine ⟨_, rfl, ?_⟩
         refine hK.out _ _ ⟨(Below.cell hM.hb (cell_lt2 md)).trans md, (Below.cell hM.hb (cell_lt2 kd)).trans kd⟩ (fun hHeld => ?_)
         clear hK K
         refine norm_ (a' := ?_) ?_ ?_
         rotate_left
         ·show Act.put _ (some 54) _ = _
          simp only [nm_]
          rfl
         refine one_ (i := 6) (N := some 58) (bs_ 23 0x10ff7f) rfl rfl (by kernel_rfl) (by decide) (fun K hK => ?_)
         refine goes_ Tryz.func54 (by kernel_rfl) rfl #[vA, .int .i64 ii, .int .i64 (wrap64 (ii + 1))] (by rfl) rfl rfl (by simp only [List.map_toArray, List.map_cons, List.map_nil]; rfl) ?_
         with_reducible refine (Mv_delete hM HLT.out HL40.out HII.out HJJ.out).mono ?_
         rintro e wB ⟨AB, cB, rfl, hM⟩
         refine ⟨_, rfl, ?_⟩
         refine hK.out _ _ ⟨(Below.cell hM.hb (cell_lt2 md)).trans md, (Below.cell hM.hb (cell_lt2 kd)).trans kd⟩ (fun hHeld => ?_)
         clear hK K
         refine norm_ (a' := ?_) ?_ ?_
         rotate_left
         ·show Act.put _ (some 58) _ = _
          simp only [nm_]
          rfl
         refine pure_ (i := 7) (N := some 59) (v := ?_) (a' := ?_) (bs_ 23 0x10ffff) rfl rfl (by kernel_rfl) (fun _ _ _ h => h) (Or.inl ⟨by rfl, ?_⟩) ?_ ?_; rotate_left; (intro w'; go_simp; with_reducible rfl); rotate_left; (simp only [nm_]; rfl)
         refine one_ (i := 16) (N := some 68) (bs_ 23 0x11ffff) rfl rfl (by kernel_rfl) (by decide) (fun K hK => ?_)
         refine goes_ Tryz.func47 (by kernel_rfl) rfl #[.agg #[.slice AB (l0.eraseIdx i).length cB], .agg #[.string q, .bool false, .slice A9 X.f2.length c9]] (by rfl) rfl rfl (by simp only [List.map_toArray, List.map_cons, List.map_nil]; rfl) ?_
         with_reducible refine (HWITH.out _ _ _ _ hM (Kd.C_below HCB.out hM.hb)).mono ?_
         rintro e wC ⟨vC, rfl, hW⟩
         refine ⟨_, rfl, ?_⟩
         refine hK.out _ _ ⟨(Below.cell hW.hb (cell_lt2 md)).trans md, (Below.cell hW.hb (cell_lt2 kd)).trans kd⟩ (fun hHeld => ?_)
         clear hK K
         refine norm_ (a' := ?_) ?_ ?_
         rotate_left
         ·show Act.put _ (some 68) _ = _
          simp only [nm_]
          rfl
         refine pl_ [(17, some 51, 0x13ffff), (18, some 69, 0x17ffff), (19, some 70, 0x1fffff)] ?_; iterate 3 (refine pr_ (v := ?_) (a' := ?_) rfl rfl (by kernel_rfl) (fun _ _ _ h => h) (Or.inl ⟨by rfl, ?_⟩) ?_ ?_; rotate_left; (intro w'; go_simp; with_reducible rfl); rotate_left; (simp only [nm_]; rfl))
         refine ql_ ?_
         exact norm_ (by simp only [putAll, Act.put, List.setIfInBounds_toArray, List.set_cons_zero, List.set_cons_succ]) (hCont (vA, AB, cB, vC, wd.heap.size) _ hW)
       rintro ⟨vA, AB, cB, vC, b⟩ wz hW
       dsimp only at hW ⊢
       obtain ⟨hbx, hbl⟩ := hW.hx b rfl
       have hbc := blk_cell hbx 0
       have hbf := blk_frozen hbx 0
       have hHeld : wz.cell? ⟨w.heap.size, 0, none⟩ = some (.slice (some ad) l0.length c0) ∧ wz.cell? ⟨(ad.add (i * 3)).block, (ad.add (i * 3)).off + 2, none⟩ = some (.slice A9 X.f2.length c9) := ⟨(Below.cell hW.hb (cell_lt2 md)).trans md, (Below.cell hW.hb (cell_lt2 kd)).trans kd⟩
       obtain ⟨A6, c6, rfl, _⟩ := hW.hV
       refine norm_ (a' := ?_) ?_ ?_
       rotate_left
       ·simp only [putAll, Act.put, List.setIfInBounds_toArray, List.set_cons_zero, List.set_cons_succ]
        rfl
       refine last_ (i := 21) (N := none) (bs_ 23 0x3fffff) rfl rfl (by kernel_rfl) (by decide) (fun K hK => ?_)
       refine skip_ (w1 := ?_) (by rfl) rfl ?_ ?_
       rotate_left
       ·go_simp
        rfl
       refine hK.out _ _ ?_
       clear hK K
       refine pure_ (i := 22) (N := some 11) (v := ?_) (a' := ?_) (bs_ 23 0x7fffff) rfl rfl (by kernel_rfl) (fun _ _ _ h => h) (Or.inl ⟨by rfl, ?_⟩) ?_ ?_; rotate_left; (intro w'; go_simp; with_reducible rfl); rotate_left; (simp only [nm_]; rfl)
       refine done_ (by kernel_rfl) ?_
       have hbz := blk_put (cs := #[.slice none 0 0]) hbx 0 (.slice A6 RL.length c6) rfl
       have XZ := hXd.below (hW.hb.setCell (p := ⟨b, 0, none⟩) hbl (.slice A6 RL.length c6))
       have hVZ := Kd.V_far (p := ⟨b, 0, none⟩) hW.hV (fun k hk e => hk.2 (by rw [show k = b from e])) (.slice A6 RL.length c6)
       have mz := blk_cell hbz 0
       obtain ⟨m20, m40, f40⟩ := XZ.cells
       have HVZ := Aside0.mk hVZ
       clear hW hbx hbc hbf hVZ hHeld
       generalize wz.setCell ⟨b, 0, none⟩ (.slice A6 RL.length c6) = wy at *
       clear hXd
       by_cases hn : RN = 0
       ·have g1 : (RN != 0) = false := by rw [hn]; rfl
        have HN := Aside0.mk hn
        clear hn
        go_wp2_with (fail)
        refine bodyPost_ret (results_ct rfl _ _ (w.heap.size + 1) 26 #[.slice A6 RL.length c6] (0, 0) _ rfl (blk_put (cs := #[.slice none 0 0]) XZ.k4 0 _ rfl) Tryz.underlying26 rfl (by kernel_rfl)) rfl ?_
        obtain rfl : R = (RL, 0) := by rw [HM.out, if_pos HN.out]
        refine ⟨_, rfl, Kd.V_mono (Kd.V_far (p := ⟨w.heap.size + 1, 0, none⟩) HVZ.out (fun k hk => ?_) _) (fun k hk => ?_), XZ.b.setCell (p := ⟨w.heap.size + 1, 0, none⟩) (by show w.heap.size ≤ w.heap.size + 1; omega) _⟩
        ·show k ≠ w.heap.size + 1
         rcases hk.1 with hk | hk
         ·have := hk.2
          omega
         ·omega
        ·rcases hk.1 with hk | hk
         ·exact .inl hk.1
         ·exact .inr (by omega)
       ·have g1 : (RN != 0) = true := bne_iff_ne.2 hn
        have HN := Aside0.mk hn
        clear hn
        go_wp2_with (fail)
        refine bodyPost_ret (results_ct rfl _ _ (w.heap.size + 1) 26 #[.slice (some ad) l0.length c0] (0, 0) _ rfl (blk_put (cs := #[.slice none 0 0]) XZ.k4 0 _ rfl) Tryz.underlying26 rfl (by kernel_rfl)) rfl ?_
        obtain rfl : R = (l0, RN) := by rw [HM.out, if_neg HN.out]
        exact ⟨_, rfl, V_came HS.out XZ.b (by omega) _, XZ.b.setCell (p := ⟨w.heap.size + 1, 0, none⟩) (by show w.heap.size ≤ w.heap.size + 1; omega) _⟩
def tree_Move.f (l : List S42) (p q : ByteArray) : Option (List S42 × Int) := if okT l ∧ p.size < 4294967280 ∧ q.size < 4294967280 then some (move0 l p q) else none
theorem tree_Move.calls (P0_0_ : Nat → Prop) (A0_0 : Option Addr) (c0_0 : Nat) (l0_0 : List S42) (a1 a2 : ByteArray) (r1 : List S42) (r2 : Int) (w : World) (hs0_0 : Kd.V k42 42 w w.heap.size (fun k_ => P0_0_ k_) (.slice A0_0 l0_0.length c0_0) l0_0) (h : tree_Move.f l0_0 a1 a2 = some (r1, r2)) :
  Calls Tryz.prog 12 #[.agg #[.slice A0_0 l0_0.length c0_0], .string a1, .string a2] w fun e w' => ∃ v0_ : Value, e = .returned (.tuple #[.agg #[v0_], .int .i64 r2]) ∧ Kd.V k42 42 w' w.heap.size (fun k_ => (P0_0_ k_ ∨ w.heap.size ≤ k_)) v0_ r1 ∧ Below w.heap.size w w' := by
 unfold tree_Move.f at h
 split at h
 ·rename_i hh
  exact Move_calls P0_0_ A0_0 c0_0 l0_0 a1 a2 w hs0_0 hh.1 hh.2.1 hh.2.2 (r1, r2) (Option.some.inj h).symm
 ·cases h
end Go.Proofs.YtidlldfghkaeeaaGreatDoor.P
