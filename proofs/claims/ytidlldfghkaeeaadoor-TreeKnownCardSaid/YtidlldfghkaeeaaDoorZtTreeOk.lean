/- Put together by pack2.py: TreeOk -/
import Derived.Test.YtidlldfghkaeeaaDoorZtOwn53Etc
import Derived.Test.YtidlldfghkaeeaaDoorZtTreeOkPEtc
import Derived.Test.YtidlldfghkaeeaaDoorZtPfTreeEntryOwnEtc
import Derived.Test.YtidlldfghkaeeaaDoorZtW0
namespace Go.Proofs.YtidlldfghkaeeaaDoor.P
open Go.RowKit Go.Proofs.YtidlldfghkaeeaaDoorW.PrintWords Go.Proofs.YtidlldfghkaeeaaDoorW.PrintLast Go.Proofs.YtidlldfghkaeeaaDoorW.PrintMore
set_option linter.unusedVariables false
set_option linter.unusedSimpArgs false

theorem upB_size {p : ByteArray} (g : Gd p.data.toList) : (upB p).size ≤ 68 := by
 rw [D_size, upB_data]
 rcases up_cases g with ⟨h, _, _⟩ | ⟨x, _, _, _, _, _, h⟩
 ·rw [h]; simp
 ·exact gd_len h
theorem dir_step {l : List S30} {i : Nat} (hi : i < l.length) (h : Cs l i) (c : Cx l i l[i]) {p : ByteArray} {d : Bool} (hp : l[i].f0 = p) (hd : l[i].f1 = d) (s : ByteArray) : (if s = p then d else decide (dirAt l i s)) = decide (dirAt l (i + 1) s) := by
 have k := dirAt_succ hi h c s
 rw [hp, hd] at k
 by_cases e : s = p
 ·rw [if_pos e] at k ⊢
  cases d with
  | true => exact (decide_eq_true (k.2 rfl)).symm
  | false => exact (decide_eq_false fun h => Bool.false_ne_true (k.1 h)).symm
 ·rw [if_neg e] at k ⊢
  rw [decide_eq_decide]
  exact k.symm
set_option maxHeartbeats 8000000 in
set_option maxRecDepth 100000 in
theorem Good_calls (A0 : Option Addr) (c0 : Nat) (l0 : List S30) (w : World) (hr0 : Kd.C k30 w A0 l0.length l0) (hc0 : l0.length ≤ c0) (hs : ∀ x ∈ l0, x.f0.size < 4294967280) (hl : l0.length ≤ 100000) (hnb : nB30 l0 ≤ 1000000000000) :
  Calls Tryd.prog 14 #[.agg #[.slice A0 l0.length c0]] w fun e w' => e = .returned (.bool (decide (GT30 l0))) ∧ Below w.heap.size w w' := by
 have hu26 := Tryd.underlying26
 have hu30 := Tryd.underlying30
 have HR := Aside0.mk hr0
 have HS := Aside0.mk hs
 have HL := Aside0.mk hl
 have HN := Aside0.mk hnb
 clear hr0 hs hl hnb
 obtain ⟨res, hres⟩ : ∃ res, res = decide (GT30 l0) := ⟨_, rfl⟩
 rw [← hres]
 have HRES := Aside0.mk hres
 clear hres
 go_enter Tryd.func14, Tryd.ntmps14
 have kb := blk_new w (.cells #[.slice A0 l0.length c0] 26)
 have kB := below_alloc (Below.refl w.heap.size w) (.cells #[.slice A0 l0.length c0] 26)
 have kc := blk_cell kb 0
 by_cases q1 : l0.length > 40
 ·have p1 : decide ((40 : Int) < (l0.length : Int)) = true := decide_eq_true (by omega)
  have hf : res = false := HRES.out.trans (decide_eq_false fun h => by have := h.1; omega)
  go_wp2_with (fail)
  go_ret
  exact ⟨by rw [hf]; rfl, kB⟩
 ·have p1 : decide ((40 : Int) < (l0.length : Int)) = false := decide_eq_false (by omega)
  have hct : tree_count.f 100001 l0 = some (nB30 l0 : Int) := count_eq HL.out (by have := HL.out; omega) (by have := HN.out; omega)
  go_wp2_with (fail)
  refine (tree_count.calls 100001 A0 c0 l0 _ _ (Kd.C_below HR.out kB) hc0 hct).mono ?_
  rintro e W1 ⟨rfl, hb1⟩
  have kb1 := (hb1.block _ (blk_lt kb)).trans kb
  have kB1 := kB.trans (hb1.mono (by rw [World.size_alloc]; omega))
  have kc1 := blk_cell kb1 0
  clear kb kB kc hb1 hct
  dsimp only
  obtain ⟨nb, hnbq⟩ : ∃ nb : Nat, nb = nB30 l0 := ⟨_, rfl⟩
  rw [← hnbq]
  have HNB := Aside0.mk hnbq
  clear hnbq
  by_cases q2 : nb > 16384
  ·have p2 : decide ((16384 : Int) < (nb : Int)) = true := decide_eq_true (by omega)
   have hf : res = false := HRES.out.trans (decide_eq_false fun h => by have h2 : nB30 l0 ≤ 16384 := h.2.1; have := HNB.out; omega)
   go_wp2_with (fail)
   go_ret
   exact ⟨by rw [hf]; rfl, kB1⟩
  ·have p2 : decide ((16384 : Int) < (nb : Int)) = false := decide_eq_false (by omega)
   have hm0 := MapIs.made W1
   have hmB := below_alloc kB1 (.map #[] 0)
   have hmk := blk_alloc kb1 (.map #[] 0)
   have hs1 : W1.heap.size ≥ w.heap.size + 1 := by have := blk_lt kb1; omega
   have hmlt := hm0.lt
   have hmk0 : (Instr.makeMap 82 none).run Tryd.prog W1 = .ok (.map (some W1.heap.size)) (W1.alloc (.map #[] 0)) := rfl
   go_wp2_with (refine insert_dir hm0 rfl (.tmp 18) (.const (.string ⟨#[]⟩)) (.const (.bool true)) rfl rfl rfl rfl (by decide) (by decide) ?_; intro W2 hm2 hg2; refine Stop.out ?_)
   clear hmk0
   have kb2 := (hg2.block _ (by omega) (by intro e; injection e with e; omega)).trans hmk
   have kB2 := hmB.grown hg2 (by rw [World.size_alloc]; omega) (by intro k hk; injection hk with hk; omega)
   have kc2 := blk_cell kb2 0
   have hm3 : MapIs W2 W1.heap.size 1 (fun s => decide (dirAt l0 0 s)) := hm2.congr fun s => by
    show (if s = ⟨#[]⟩ then true else false) = _
    by_cases h : s = ⟨#[]⟩
    ·rw [if_pos h]; exact (decide_eq_true ((dirAt_zero _ _).2 h)).symm
    ·rw [if_neg h]; exact (decide_eq_false fun h2 => h ((dirAt_zero _ _).1 h2)).symm
   obtain ⟨mb, hmb⟩ : ∃ mb, mb = W1.heap.size := ⟨_, rfl⟩
   rw [← hmb] at hm3 ⊢
   have hmw : w.heap.size + 1 ≤ mb := by omega
   clear hm0 hmB hmk hm2 hg2 kb1 kB1 kc1 hmlt hmb hs1
   constructor
   go_wp2_with (fail)
   go_loopg [23] l0.length (fun gg s23 wr => ∃ i : Nat, i ≤ l0.length ∧ gg = l0.length - i ∧ s23 = .int .i64 i ∧ Cs l0 i ∧ MapIs wr mb (i + 1) (fun s => decide (dirAt l0 i s)) ∧ wr.heap[w.heap.size]? = some (.cells #[.slice A0 l0.length c0] 26 (0, 0)) ∧ Below w.heap.size w wr)
   case atStart => exact ⟨0, Nat.zero_le _, rfl, rfl, Cs_zero _, hm3, kb2, kB2⟩
   case round =>
    clear hm3 kb2 kB2 kc2
    obtain ⟨i, hi, rfl, rfl, hC, hM, kb, kB⟩ := hrel
    by_cases a : i < l0.length
    ·have a1 : decide ((i : Int) < (l0.length : Int)) = true := decide_eq_true (by omega)
     have a2 : decide (0 ≤ (i : Int)) = true := decide_eq_true (by omega)
     obtain ⟨ad, A9, c9, rfl, k0, k1, k2, _, _⟩ := atT (Kd.C_below HR.out kB) i a
     obtain ⟨X, hX⟩ : ∃ X, X = l0[i] := ⟨_, rfl⟩
     rw [← hX] at k0 k1 k2
     have HX := Aside0.mk hX
     have hB := below_size kB
     have hxs : X.f0.size < 4294967280 := HS.out X (by rw [hX]; exact List.getElem_mem a)
     have hbad : ¬ Cx l0 i X → decide (GT30 l0) = false := fun h => decide_eq_false (Cs_bad a (by rw [← hX]; exact h))
     clear hX
     obtain ⟨p, hp⟩ : ∃ p, p = X.f0 := ⟨_, rfl⟩
     obtain ⟨n2, hn2⟩ : ∃ n2, n2 = X.f2.length := ⟨_, rfl⟩
     obtain ⟨dd, hdd⟩ : ∃ dd, dd = X.f1 := ⟨_, rfl⟩
     rw [← hp] at k0 hxs
     rw [← hdd] at k1
     rw [← hn2] at k2
     have HPE := Aside0.mk hp.symm
     have HNE := Aside0.mk hn2
     have HDE := Aside0.mk hdd.symm
     have HBAD0 := Aside0.mk hbad
     have HXS := Aside0.mk hxs
     have HPS : Aside0 (p.size ≤ maxLen) := ⟨Nat.le_trans (Nat.le_of_lt hxs) (by decide)⟩
     have HMAX : Aside0 (i + 1 < maxLen) := ⟨Nat.lt_of_le_of_lt (show i + 1 ≤ 41 by omega) (by decide)⟩
     have HWI : Aside0 (wrap64 ((i : Int) + 1) = ((i + 1 : Nat) : Int)) := ⟨wr1 (by omega)⟩
     have HC := Aside0.mk hC
     have hmlt := hM.lt
     clear hp hn2 hdd hbad hxs hC
     have kbE := blk_new wr (.cells #[.string p, .bool dd, .slice A9 n2 c9] 30)
     have kb1 := blk_alloc kb (.cells #[.string p, .bool dd, .slice A9 n2 c9] 30)
     have kB1 := below_alloc kB (.cells #[.string p, .bool dd, .slice A9 n2 c9] 30)
     have hM1 : MapIs (wr.alloc (.cells #[.string p, .bool dd, .slice A9 n2 c9] 30)) mb (i + 1) (fun s => decide (dirAt l0 i s)) := hM.below (below_alloc (Below.refl _ _) _)
     clear hM kb kB
     go_wp2_with (fail)
     obtain ⟨r1, r2, hr, hup⟩ : ∃ r1 r2, path_Up.f p = some (r1, r2) ∧ ((Gd p.data.toList ∧ r1 = upB p ∧ r2 = true) ∨ (¬ Gd p.data.toList ∧ r2 = false)) := by
      have h := Up_eq (s := p) (by have := HXS.out; omega)
      by_cases g : Gd p.data.toList
      ·rw [if_pos g] at h; exact ⟨_, _, h, .inl ⟨g, rfl, rfl⟩⟩
      ·rw [if_neg g] at h; exact ⟨_, _, h, .inr ⟨g, rfl⟩⟩
     have HUPC := Aside0.mk hup
     clear hup
     refine (path_Up.calls p r1 r2 _ hr).mono ?_
     clear hr
     rintro e W2 ⟨rfl, hb2⟩
     have hup := HUPC.out
     have kbE2 := (hb2.block _ (blk_lt kbE)).trans kbE
     have kb2 := (hb2.block _ (blk_lt kb1)).trans kb1
     have kB2 := kB1.trans (hb2.mono kB1.size)
     have hM2 := hM1.below hb2
     clear kbE kb1 kB1 hM1 hb2 k0 k1 k2
     dsimp only
     obtain ⟨eb, heb⟩ : ∃ eb, eb = wr.heap.size := ⟨_, rfl⟩
     rw [← heb] at kbE2 ⊢
     have hew : w.heap.size < eb := by rw [heb]; omega
     clear heb hB
     have HUPC2 := HUPC
     clear HUPC
     have sd1 : W2.drew.cell? ⟨eb, 1, none⟩ = some (.bool dd) := blk_cell kbE2 1
     have sd2 : W2.drew.cell? ⟨eb, 2, none⟩ = some (.slice A9 n2 c9) := blk_cell kbE2 2
     have sd3 : W2.drew.cell? ⟨eb, 0, none⟩ = some (.string p) := blk_cell kbE2 0
     have sd4 : W2.drew.cell? ⟨w.heap.size, 0, none⟩ = some (.slice (some ad) l0.length c0) := blk_cell kb2 0
     have hMd : MapIs W2.drew mb (i + 1) (fun s => decide (dirAt l0 i s)) := hM2.keep rfl
     have kbd : W2.drew.heap[w.heap.size]? = some (.cells #[.slice (some ad) l0.length c0] 26 (0, 0)) := kb2
     have kBd : Below w.heap.size w W2.drew := below_drew kB2
     have kcE0 := blk_cell kbE2 0
     clear kbE2 kb2 kB2 hM2 hup
     have HPSZ := HXS
     go_wp2_with (fail)
     rcases HUPC2.out with ⟨g, rfl, rfl⟩ | ⟨g, rfl⟩
     ·have HGP := Aside0.mk g
      have HUP : Aside0 ((upB p).size ≤ maxLen) := ⟨Nat.le_trans (upB_size g) (by decide)⟩
      obtain ⟨up, hupe⟩ : ∃ up, up = upB p := ⟨_, rfl⟩
      rw [← hupe] at HUP ⊢
      have HUPE := Aside0.mk hupe
      clear hupe HUPC2 g
      by_cases hg1 : decide (dirAt l0 i up) = true
      ·have HG := Aside0.mk hg1
       have sd0 : (Instr.lookup 82 (.map (some mb)) (.string up) false).run Tryd.prog W2.drew = .ok (.bool true) W2.drew := by rw [← hg1]; exact hMd.look HUP.out
       clear hg1
       cases dd with
       | true =>
        by_cases hn0 : 0 < n2
        ·have c1 : decide ((0 : Int) < (n2 : Int)) = true := decide_eq_true (by omega)
         have HBAD : Aside0 (decide (GT30 l0) = false) := ⟨HBAD0.out fun c => by have h := c.db HDE.out; rw [HNE.out, h] at hn0; exact absurd hn0 (Nat.lt_irrefl 0)⟩
         refine start_ (n := 41) (S := fun w' => (Instr.lookup 82 (.map (some mb)) (.string up) false).run Tryd.prog w' = .ok (.bool true) w' ∧ w'.cell? ⟨eb, 1, none⟩ = some (.bool true) ∧ w'.cell? ⟨eb, 2, none⟩ = some (.slice A9 n2 c9) ∧ w'.cell? ⟨eb, 0, none⟩ = some (.string p) ∧ w'.cell? ⟨w.heap.size, 0, none⟩ = some (.slice (some ad) l0.length c0)) (ds := []) (bs_ 41 0x0) (by kernel_rfl) rfl rfl ⟨sd0, sd1, sd2, sd3, sd4⟩ (fun hHeld => ?_)
         generalize W2.drew = wd at sd0 sd1 sd2 sd3 sd4 hMd kbd kBd hHeld ⊢
         refine pure_ (i := 0) (N := some 34) (v := ?_) (a' := ?_) (bs_ 41 0x1) rfl rfl (by kernel_rfl) (fun _ _ _ h => h) (Or.inl ⟨by rfl, ?_⟩) ?_ ?_; rotate_left; (intro w'; go_simp; with_reducible rfl); rotate_left; (simp only [nm_]; rfl)
         refine pure_ (i := 1) (N := some 35) (v := ?_) (a' := ?_) (bs_ 41 0x3) rfl rfl (by kernel_rfl) (fun _ _ _ h => h) (Or.inl ⟨by rfl, ?_⟩) ?_ ?_; rotate_left; (intro w'; go_simp; with_reducible rfl); rotate_left; (simp only [nm_]; rfl)
         refine pure_ (i := 2) (N := some 36) (v := ?_) (a' := ?_) (bs_ 41 0x7) rfl rfl (by kernel_rfl) (fun _ _ _ h => h) (Or.inl ⟨by rfl, ?_⟩) ?_ ?_; rotate_left; (intro w'; go_simp; with_reducible rfl); rotate_left; (simp only [nm_]; rfl)
         refine pure_ (i := 3) (N := some 37) (v := ?_) (a' := ?_) (bs_ 41 0xf) rfl rfl (by kernel_rfl) (fun _ _ _ h => h) (Or.inl ⟨by rfl, ?_⟩) ?_ ?_; rotate_left; (intro w'; go_simp; with_reducible rfl); rotate_left; (simp only [nm_]; rfl)
         refine pure_ (i := 4) (N := some 38) (v := ?_) (a' := ?_) (bs_ 41 0x1f) rfl rfl (by kernel_rfl) (fun _ _ _ h => h) (Or.inl ⟨by rfl, ?_⟩) ?_ ?_; rotate_left; (intro w'; go_simp; with_reducible rfl); rotate_left; (simp only [nm_]; rfl)
         refine take_ (i := 5) (N := some 39) (v := ?_) (a' := ?_) (bs_ 41 0x3f) rfl rfl (by kernel_rfl) (fun _ _ _ h => h) (Or.inl ⟨by rfl, ?_⟩) hHeld ?_ ?_; rotate_left; (rintro w' ⟨s0, s1, s2, s3, s4⟩; go_simp; with_reducible rfl); rotate_left; (simp only [nm_]; rfl)
         refine pure_ (i := 6) (N := some 40) (v := ?_) (a' := ?_) (bs_ 41 0x7f) rfl rfl (by kernel_rfl) (fun _ _ _ h => h) (Or.inl ⟨by rfl, ?_⟩) ?_ ?_; rotate_left; (intro w'; go_simp; with_reducible rfl); rotate_left; (simp only [nm_]; rfl)
         refine pure_ (i := 7) (N := some 41) (v := ?_) (a' := ?_) (bs_ 41 0xff) rfl rfl (by kernel_rfl) (fun _ _ _ h => h) (Or.inl ⟨by rfl, ?_⟩) ?_ ?_; rotate_left; (intro w'; go_simp; with_reducible rfl); rotate_left; (simp only [nm_]; rfl)
         refine pure_ (i := 8) (N := some 42) (v := ?_) (a' := ?_) (bs_ 41 0x1ff) rfl rfl (by kernel_rfl) (fun _ _ _ h => h) (Or.inl ⟨by rfl, ?_⟩) ?_ ?_; rotate_left; (intro w'; go_simp; with_reducible rfl); rotate_left; (simp only [nm_]; rfl)
         refine pure_ (i := 9) (N := some 43) (v := ?_) (a' := ?_) (bs_ 41 0x3ff) rfl rfl (by kernel_rfl) (fun _ _ _ h => h) (Or.inl ⟨by rfl, ?_⟩) ?_ ?_; rotate_left; (intro w'; go_simp; with_reducible rfl); rotate_left; (simp only [nm_]; rfl)
         refine take_ (i := 10) (N := some 44) (v := ?_) (a' := ?_) (bs_ 41 0x7ff) rfl rfl (by kernel_rfl) (fun _ _ _ h => h) (Or.inl ⟨by rfl, ?_⟩) hHeld ?_ ?_; rotate_left; (rintro w' ⟨s0, s1, s2, s3, s4⟩; go_simp; with_reducible rfl); rotate_left; (simp only [nm_]; rfl)
         refine pure_ (i := 11) (N := some 45) (v := ?_) (a' := ?_) (bs_ 41 0xfff) rfl rfl (by kernel_rfl) (fun _ _ _ h => h) (Or.inl ⟨by rfl, ?_⟩) ?_ ?_; rotate_left; (intro w'; go_simp; with_reducible rfl); rotate_left; (simp only [nm_]; rfl)
         refine pure_ (i := 12) (N := some 46) (v := ?_) (a' := ?_) (bs_ 41 0x1fff) rfl rfl (by kernel_rfl) (fun _ _ _ h => h) (Or.inl ⟨by rfl, ?_⟩) ?_ ?_; rotate_left; (intro w'; go_simp; with_reducible rfl); rotate_left; (simp only [nm_]; rfl)
         refine take_ (i := 13) (N := some 47) (v := ?_) (a' := ?_) (bs_ 41 0x3fff) rfl rfl (by kernel_rfl) (fun _ _ _ h => h) (Or.inl ⟨by rfl, ?_⟩) hHeld ?_ ?_; rotate_left; (rintro w' ⟨s0, s1, s2, s3, s4⟩; go_simp; with_reducible rfl); rotate_left; (simp only [nm_]; rfl)
         refine pure_ (i := 14) (N := some 48) (v := ?_) (a' := ?_) (bs_ 41 0x7fff) rfl rfl (by kernel_rfl) (fun _ _ _ h => h) (Or.inl ⟨by rfl, ?_⟩) ?_ ?_; rotate_left; (intro w'; go_simp; with_reducible rfl); rotate_left; (simp only [nm_]; rfl)
         refine pure_ (i := 15) (N := some 49) (v := ?_) (a' := ?_) (bs_ 41 0xffff) rfl rfl (by kernel_rfl) (fun _ _ _ h => h) (Or.inl ⟨by rfl, ?_⟩) ?_ ?_; rotate_left; (intro w'; go_simp; with_reducible rfl); rotate_left; (simp only [nm_]; rfl)
         refine pure_ (i := 16) (N := some 50) (v := ?_) (a' := ?_) (bs_ 41 0x1ffff) rfl rfl (by kernel_rfl) (fun _ _ _ h => h) (Or.inl ⟨by rfl, ?_⟩) ?_ ?_; rotate_left; (intro w'; go_simp; with_reducible rfl); rotate_left; (simp only [nm_]; rfl)
         refine pure_ (i := 17) (N := some 51) (v := ?_) (a' := ?_) (bs_ 41 0x3ffff) rfl rfl (by kernel_rfl) (fun _ _ _ h => h) (Or.inl ⟨by rfl, ?_⟩) ?_ ?_; rotate_left; (intro w'; go_simp; with_reducible rfl); rotate_left; (simp only [nm_]; rfl)
         refine pure_ (i := 18) (N := some 52) (v := ?_) (a' := ?_) (bs_ 41 0x7ffff) rfl rfl (by kernel_rfl) (fun _ _ _ h => h) (Or.inl ⟨by rfl, ?_⟩) ?_ ?_; rotate_left; (intro w'; go_simp; with_reducible rfl); rotate_left; (simp only [nm_]; rfl)
         refine pure_ (i := 19) (N := some 53) (v := undef) (a' := ?_) (bs_ 41 0xfffff) rfl rfl (by kernel_rfl) (fun _ _ _ h => h) (Or.inr ⟨by rfl, rfl⟩) ?_ ?_
         rotate_left
         ·simp only [nm_]
          rfl
         refine pure_ (i := 20) (N := some 54) (v := undef) (a' := ?_) (bs_ 41 0x1fffff) rfl rfl (by kernel_rfl) (fun _ _ _ h => h) (Or.inr ⟨by rfl, rfl⟩) ?_ ?_
         rotate_left
         ·simp only [nm_]
          rfl
         refine pure_ (i := 21) (N := some 55) (v := undef) (a' := ?_) (bs_ 41 0x3fffff) rfl rfl (by kernel_rfl) (fun _ _ _ h => h) (Or.inr ⟨by rfl, rfl⟩) ?_ ?_
         rotate_left
         ·simp only [nm_]
          rfl
         refine pure_ (i := 22) (N := some 56) (v := undef) (a' := ?_) (bs_ 41 0x7fffff) rfl rfl (by kernel_rfl) (fun _ _ _ h => h) (Or.inr ⟨by rfl, rfl⟩) ?_ ?_
         rotate_left
         ·simp only [nm_]
          rfl
         refine pure_ (i := 23) (N := some 57) (v := ?_) (a' := ?_) (bs_ 41 0xffffff) rfl rfl (by kernel_rfl) (fun _ _ _ h => h) (Or.inl ⟨by rfl, ?_⟩) ?_ ?_; rotate_left; (intro w'; go_simp; with_reducible rfl); rotate_left; (simp only [nm_]; rfl)
         refine pure_ (i := 24) (N := some 58) (v := ?_) (a' := ?_) (bs_ 41 0x1ffffff) rfl rfl (by kernel_rfl) (fun _ _ _ h => h) (Or.inl ⟨by rfl, ?_⟩) ?_ ?_; rotate_left; (intro w'; go_simp; with_reducible rfl); rotate_left; (simp only [nm_]; rfl)
         refine pure_ (i := 25) (N := some 59) (v := undef) (a' := ?_) (bs_ 41 0x3ffffff) rfl rfl (by kernel_rfl) (fun _ _ _ h => h) (Or.inr ⟨by rfl, rfl⟩) ?_ ?_
         rotate_left
         ·simp only [nm_]
          rfl
         refine pure_ (i := 26) (N := some 60) (v := undef) (a' := ?_) (bs_ 41 0x7ffffff) rfl rfl (by kernel_rfl) (fun _ _ _ h => h) (Or.inr ⟨by rfl, rfl⟩) ?_ ?_
         rotate_left
         ·simp only [nm_]
          rfl
         refine pure_ (i := 27) (N := some 61) (v := undef) (a' := ?_) (bs_ 41 0xfffffff) rfl rfl (by kernel_rfl) (fun _ _ _ h => h) (Or.inr ⟨by rfl, rfl⟩) ?_ ?_
         rotate_left
         ·simp only [nm_]
          rfl
         refine pure_ (i := 28) (N := some 62) (v := undef) (a' := ?_) (bs_ 41 0x1fffffff) rfl rfl (by kernel_rfl) (fun _ _ _ h => h) (Or.inr ⟨by rfl, rfl⟩) ?_ ?_
         rotate_left
         ·simp only [nm_]
          rfl
         refine pure_ (i := 29) (N := some 63) (v := undef) (a' := ?_) (bs_ 41 0x3fffffff) rfl rfl (by kernel_rfl) (fun _ _ _ h => h) (Or.inr ⟨by rfl, rfl⟩) ?_ ?_
         rotate_left
         ·simp only [nm_]
          rfl
         refine pure_ (i := 30) (N := some 64) (v := undef) (a' := ?_) (bs_ 41 0x7fffffff) rfl rfl (by kernel_rfl) (fun _ _ _ h => h) (Or.inr ⟨by rfl, rfl⟩) ?_ ?_
         rotate_left
         ·simp only [nm_]
          rfl
         refine pure_ (i := 31) (N := some 65) (v := undef) (a' := ?_) (bs_ 41 0xffffffff) rfl rfl (by kernel_rfl) (fun _ _ _ h => h) (Or.inr ⟨by rfl, rfl⟩) ?_ ?_
         rotate_left
         ·simp only [nm_]
          rfl
         refine pure_ (i := 32) (N := some 66) (v := undef) (a' := ?_) (bs_ 41 0x1ffffffff) rfl rfl (by kernel_rfl) (fun _ _ _ h => h) (Or.inr ⟨by rfl, rfl⟩) ?_ ?_
         rotate_left
         ·simp only [nm_]
          rfl
         refine pure_ (i := 33) (N := some 67) (v := undef) (a' := ?_) (bs_ 41 0x3ffffffff) rfl rfl (by kernel_rfl) (fun _ _ _ h => h) (Or.inr ⟨by rfl, rfl⟩) ?_ ?_
         rotate_left
         ·simp only [nm_]
          rfl
         refine pure_ (i := 34) (N := some 68) (v := undef) (a' := ?_) (bs_ 41 0x7ffffffff) rfl rfl (by kernel_rfl) (fun _ _ _ h => h) (Or.inr ⟨by rfl, rfl⟩) ?_ ?_
         rotate_left
         ·simp only [nm_]
          rfl
         refine pure_ (i := 35) (N := some 69) (v := undef) (a' := ?_) (bs_ 41 0xfffffffff) rfl rfl (by kernel_rfl) (fun _ _ _ h => h) (Or.inr ⟨by rfl, rfl⟩) ?_ ?_
         rotate_left
         ·simp only [nm_]
          rfl
         refine pure_ (i := 36) (N := some 70) (v := undef) (a' := ?_) (bs_ 41 0x1fffffffff) rfl rfl (by kernel_rfl) (fun _ _ _ h => h) (Or.inr ⟨by rfl, rfl⟩) ?_ ?_
         rotate_left
         ·simp only [nm_]
          rfl
         refine pure_ (i := 37) (N := some 71) (v := undef) (a' := ?_) (bs_ 41 0x3fffffffff) rfl rfl (by kernel_rfl) (fun _ _ _ h => h) (Or.inr ⟨by rfl, rfl⟩) ?_ ?_
         rotate_left
         ·simp only [nm_]
          rfl
         refine pure_ (i := 38) (N := some 72) (v := undef) (a' := ?_) (bs_ 41 0x7fffffffff) rfl rfl (by kernel_rfl) (fun _ _ _ h => h) (Or.inr ⟨by rfl, rfl⟩) ?_ ?_
         rotate_left
         ·simp only [nm_]
          rfl
         refine pure_ (i := 39) (N := some 73) (v := undef) (a' := ?_) (bs_ 41 0xffffffffff) rfl rfl (by kernel_rfl) (fun _ _ _ h => h) (Or.inr ⟨by rfl, rfl⟩) ?_ ?_
         rotate_left
         ·simp only [nm_]
          rfl
         refine pure_ (i := 40) (N := some 74) (v := ?_) (a' := ?_) (bs_ 41 0x1ffffffffff) rfl rfl (by kernel_rfl) (fun _ _ _ h => h) (Or.inl ⟨by rfl, ?_⟩) ?_ ?_; rotate_left; (intro w'; go_simp; with_reducible rfl); rotate_left; (simp only [nm_]; rfl)
         refine done_ (by kernel_rfl) ?_
         have kBx := kBd
         go_wp2_with (fail)
         go_ret
         exact ⟨by rw [HRES.out, HBAD.out]; rfl, kBx⟩
        ·have c1 : decide ((0 : Int) < (n2 : Int)) = false := decide_eq_false (by omega)
         have c2 : decide ((2048 : Int) < (n2 : Int)) = false := decide_eq_false (by omega)
         have HDB : Aside0 (X.f1 = true → X.f2 = []) := ⟨fun _ => List.eq_nil_of_length_eq_zero (by rw [← HNE.out]; omega)⟩
         have HSZ : Aside0 (X.f2.length ≤ 2048) := ⟨by rw [← HNE.out]; omega⟩
         by_cases hi0 : i = 0
         ·have c3 : decide ((0 : Int) < (i : Int)) = false := decide_eq_false (by omega)
          have HI0 := Aside0.mk hi0
          obtain ⟨kk, hkk⟩ : ∃ kk : Int, kk = (i : Int) := ⟨_, rfl⟩
          rw [← hkk] at c3 ⊢
          have HWI2 : Aside0 (wrap64 (kk + 1) = ((i + 1 : Nat) : Int)) := ⟨by rw [hkk]; exact HWI.out⟩
          clear HWI hkk hi0 a1 a2
          have HWI := HWI2
          clear HWI2
          have HCX : Aside0 (Cx l0 i X) := ⟨⟨by rw [HPE.out]; exact HGP.out, by rw [HPE.out, ← HUPE.out]; exact of_decide_eq_true HG.out, HDB.out, HSZ.out, fun q hq _ => by have := HI0.out; omega⟩⟩
          refine start_ (n := 41) (S := fun w' => (Instr.lookup 82 (.map (some mb)) (.string up) false).run Tryd.prog w' = .ok (.bool true) w' ∧ w'.cell? ⟨eb, 1, none⟩ = some (.bool true) ∧ w'.cell? ⟨eb, 2, none⟩ = some (.slice A9 n2 c9) ∧ w'.cell? ⟨eb, 0, none⟩ = some (.string p) ∧ w'.cell? ⟨w.heap.size, 0, none⟩ = some (.slice (some ad) l0.length c0)) (ds := []) (bs_ 41 0x0) (by kernel_rfl) rfl rfl ⟨sd0, sd1, sd2, sd3, sd4⟩ (fun hHeld => ?_)
          generalize W2.drew = wd at sd0 sd1 sd2 sd3 sd4 hMd kbd kBd hHeld ⊢
          refine pure_ (i := 0) (N := some 34) (v := ?_) (a' := ?_) (bs_ 41 0x1) rfl rfl (by kernel_rfl) (fun _ _ _ h => h) (Or.inl ⟨by rfl, ?_⟩) ?_ ?_; rotate_left; (intro w'; go_simp; with_reducible rfl); rotate_left; (simp only [nm_]; rfl)
          refine pure_ (i := 1) (N := some 35) (v := ?_) (a' := ?_) (bs_ 41 0x3) rfl rfl (by kernel_rfl) (fun _ _ _ h => h) (Or.inl ⟨by rfl, ?_⟩) ?_ ?_; rotate_left; (intro w'; go_simp; with_reducible rfl); rotate_left; (simp only [nm_]; rfl)
          refine pure_ (i := 2) (N := some 36) (v := ?_) (a' := ?_) (bs_ 41 0x7) rfl rfl (by kernel_rfl) (fun _ _ _ h => h) (Or.inl ⟨by rfl, ?_⟩) ?_ ?_; rotate_left; (intro w'; go_simp; with_reducible rfl); rotate_left; (simp only [nm_]; rfl)
          refine pure_ (i := 3) (N := some 37) (v := ?_) (a' := ?_) (bs_ 41 0xf) rfl rfl (by kernel_rfl) (fun _ _ _ h => h) (Or.inl ⟨by rfl, ?_⟩) ?_ ?_; rotate_left; (intro w'; go_simp; with_reducible rfl); rotate_left; (simp only [nm_]; rfl)
          refine pure_ (i := 4) (N := some 38) (v := ?_) (a' := ?_) (bs_ 41 0x1f) rfl rfl (by kernel_rfl) (fun _ _ _ h => h) (Or.inl ⟨by rfl, ?_⟩) ?_ ?_; rotate_left; (intro w'; go_simp; with_reducible rfl); rotate_left; (simp only [nm_]; rfl)
          refine take_ (i := 5) (N := some 39) (v := ?_) (a' := ?_) (bs_ 41 0x3f) rfl rfl (by kernel_rfl) (fun _ _ _ h => h) (Or.inl ⟨by rfl, ?_⟩) hHeld ?_ ?_; rotate_left; (rintro w' ⟨s0, s1, s2, s3, s4⟩; go_simp; with_reducible rfl); rotate_left; (simp only [nm_]; rfl)
          refine pure_ (i := 6) (N := some 40) (v := ?_) (a' := ?_) (bs_ 41 0x7f) rfl rfl (by kernel_rfl) (fun _ _ _ h => h) (Or.inl ⟨by rfl, ?_⟩) ?_ ?_; rotate_left; (intro w'; go_simp; with_reducible rfl); rotate_left; (simp only [nm_]; rfl)
          refine pure_ (i := 7) (N := some 41) (v := ?_) (a' := ?_) (bs_ 41 0xff) rfl rfl (by kernel_rfl) (fun _ _ _ h => h) (Or.inl ⟨by rfl, ?_⟩) ?_ ?_; rotate_left; (intro w'; go_simp; with_reducible rfl); rotate_left; (simp only [nm_]; rfl)
          refine pure_ (i := 8) (N := some 42) (v := ?_) (a' := ?_) (bs_ 41 0x1ff) rfl rfl (by kernel_rfl) (fun _ _ _ h => h) (Or.inl ⟨by rfl, ?_⟩) ?_ ?_; rotate_left; (intro w'; go_simp; with_reducible rfl); rotate_left; (simp only [nm_]; rfl)
          refine pure_ (i := 9) (N := some 43) (v := ?_) (a' := ?_) (bs_ 41 0x3ff) rfl rfl (by kernel_rfl) (fun _ _ _ h => h) (Or.inl ⟨by rfl, ?_⟩) ?_ ?_; rotate_left; (intro w'; go_simp; with_reducible rfl); rotate_left; (simp only [nm_]; rfl)
          refine take_ (i := 10) (N := some 44) (v := ?_) (a' := ?_) (bs_ 41 0x7ff) rfl rfl (by kernel_rfl) (fun _ _ _ h => h) (Or.inl ⟨by rfl, ?_⟩) hHeld ?_ ?_; rotate_left; (rintro w' ⟨s0, s1, s2, s3, s4⟩; go_simp; with_reducible rfl); rotate_left; (simp only [nm_]; rfl)
          refine pure_ (i := 11) (N := some 45) (v := ?_) (a' := ?_) (bs_ 41 0xfff) rfl rfl (by kernel_rfl) (fun _ _ _ h => h) (Or.inl ⟨by rfl, ?_⟩) ?_ ?_; rotate_left; (intro w'; go_simp; with_reducible rfl); rotate_left; (simp only [nm_]; rfl)
          refine pure_ (i := 12) (N := some 46) (v := ?_) (a' := ?_) (bs_ 41 0x1fff) rfl rfl (by kernel_rfl) (fun _ _ _ h => h) (Or.inl ⟨by rfl, ?_⟩) ?_ ?_; rotate_left; (intro w'; go_simp; with_reducible rfl); rotate_left; (simp only [nm_]; rfl)
          refine take_ (i := 13) (N := some 47) (v := ?_) (a' := ?_) (bs_ 41 0x3fff) rfl rfl (by kernel_rfl) (fun _ _ _ h => h) (Or.inl ⟨by rfl, ?_⟩) hHeld ?_ ?_; rotate_left; (rintro w' ⟨s0, s1, s2, s3, s4⟩; go_simp; with_reducible rfl); rotate_left; (simp only [nm_]; rfl)
          refine pure_ (i := 14) (N := some 48) (v := ?_) (a' := ?_) (bs_ 41 0x7fff) rfl rfl (by kernel_rfl) (fun _ _ _ h => h) (Or.inl ⟨by rfl, ?_⟩) ?_ ?_; rotate_left; (intro w'; go_simp; with_reducible rfl); rotate_left; (simp only [nm_]; rfl)
          refine pure_ (i := 15) (N := some 49) (v := ?_) (a' := ?_) (bs_ 41 0xffff) rfl rfl (by kernel_rfl) (fun _ _ _ h => h) (Or.inl ⟨by rfl, ?_⟩) ?_ ?_; rotate_left; (intro w'; go_simp; with_reducible rfl); rotate_left; (simp only [nm_]; rfl)
          refine pure_ (i := 16) (N := some 50) (v := ?_) (a' := ?_) (bs_ 41 0x1ffff) rfl rfl (by kernel_rfl) (fun _ _ _ h => h) (Or.inl ⟨by rfl, ?_⟩) ?_ ?_; rotate_left; (intro w'; go_simp; with_reducible rfl); rotate_left; (simp only [nm_]; rfl)
          refine pure_ (i := 17) (N := some 51) (v := ?_) (a' := ?_) (bs_ 41 0x3ffff) rfl rfl (by kernel_rfl) (fun _ _ _ h => h) (Or.inl ⟨by rfl, ?_⟩) ?_ ?_; rotate_left; (intro w'; go_simp; with_reducible rfl); rotate_left; (simp only [nm_]; rfl)
          refine pure_ (i := 18) (N := some 52) (v := ?_) (a' := ?_) (bs_ 41 0x7ffff) rfl rfl (by kernel_rfl) (fun _ _ _ h => h) (Or.inl ⟨by rfl, ?_⟩) ?_ ?_; rotate_left; (intro w'; go_simp; with_reducible rfl); rotate_left; (simp only [nm_]; rfl)
          refine pure_ (i := 19) (N := some 53) (v := ?_) (a' := ?_) (bs_ 41 0xfffff) rfl rfl (by kernel_rfl) (fun _ _ _ h => h) (Or.inl ⟨by rfl, ?_⟩) ?_ ?_; rotate_left; (intro w'; go_simp; with_reducible rfl); rotate_left; (simp only [nm_]; rfl)
          refine take_ (i := 20) (N := some 54) (v := ?_) (a' := ?_) (bs_ 41 0x1fffff) rfl rfl (by kernel_rfl) (fun _ _ _ h => h) (Or.inl ⟨by rfl, ?_⟩) hHeld ?_ ?_; rotate_left; (rintro w' ⟨s0, s1, s2, s3, s4⟩; go_simp; with_reducible rfl); rotate_left; (simp only [nm_]; rfl)
          refine pure_ (i := 21) (N := some 55) (v := ?_) (a' := ?_) (bs_ 41 0x3fffff) rfl rfl (by kernel_rfl) (fun _ _ _ h => h) (Or.inl ⟨by rfl, ?_⟩) ?_ ?_; rotate_left; (intro w'; go_simp; with_reducible rfl); rotate_left; (simp only [nm_]; rfl)
          refine pure_ (i := 22) (N := some 56) (v := ?_) (a' := ?_) (bs_ 41 0x7fffff) rfl rfl (by kernel_rfl) (fun _ _ _ h => h) (Or.inl ⟨by rfl, ?_⟩) ?_ ?_; rotate_left; (intro w'; go_simp; with_reducible rfl); rotate_left; (simp only [nm_]; rfl)
          refine pure_ (i := 23) (N := some 57) (v := ?_) (a' := ?_) (bs_ 41 0xffffff) rfl rfl (by kernel_rfl) (fun _ _ _ h => h) (Or.inl ⟨by rfl, ?_⟩) ?_ ?_; rotate_left; (intro w'; go_simp; with_reducible rfl); rotate_left; (simp only [nm_]; rfl)
          refine pure_ (i := 24) (N := some 58) (v := ?_) (a' := ?_) (bs_ 41 0x1ffffff) rfl rfl (by kernel_rfl) (fun _ _ _ h => h) (Or.inl ⟨by rfl, ?_⟩) ?_ ?_; rotate_left; (intro w'; go_simp; with_reducible rfl); rotate_left; (simp only [nm_]; rfl)
          refine pure_ (i := 25) (N := some 59) (v := ?_) (a' := ?_) (bs_ 41 0x3ffffff) rfl rfl (by kernel_rfl) (fun _ _ _ h => h) (Or.inl ⟨by rfl, ?_⟩) ?_ ?_; rotate_left; (intro w'; go_simp; with_reducible rfl); rotate_left; (simp only [nm_]; rfl)
          refine pure_ (i := 26) (N := some 60) (v := ?_) (a' := ?_) (bs_ 41 0x7ffffff) rfl rfl (by kernel_rfl) (fun _ _ _ h => h) (Or.inl ⟨by rfl, ?_⟩) ?_ ?_; rotate_left; (intro w'; go_simp; with_reducible rfl); rotate_left; (simp only [nm_]; rfl)
          refine pure_ (i := 27) (N := some 61) (v := ?_) (a' := ?_) (bs_ 41 0xfffffff) rfl rfl (by kernel_rfl) (fun _ _ _ h => h) (Or.inl ⟨by rfl, ?_⟩) ?_ ?_; rotate_left; (intro w'; go_simp; with_reducible rfl); rotate_left; (simp only [nm_]; rfl)
          refine pure_ (i := 28) (N := some 62) (v := undef) (a' := ?_) (bs_ 41 0x1fffffff) rfl rfl (by kernel_rfl) (fun _ _ _ h => h) (Or.inr ⟨by rfl, rfl⟩) ?_ ?_
          rotate_left
          ·simp only [nm_]
           rfl
          refine pure_ (i := 29) (N := some 63) (v := undef) (a' := ?_) (bs_ 41 0x3fffffff) rfl rfl (by kernel_rfl) (fun _ _ _ h => h) (Or.inr ⟨by rfl, rfl⟩) ?_ ?_
          rotate_left
          ·simp only [nm_]
           rfl
          refine pure_ (i := 30) (N := some 64) (v := undef) (a' := ?_) (bs_ 41 0x7fffffff) rfl rfl (by kernel_rfl) (fun _ _ _ h => h) (Or.inr ⟨by rfl, rfl⟩) ?_ ?_
          rotate_left
          ·simp only [nm_]
           rfl
          refine pure_ (i := 31) (N := some 65) (v := undef) (a' := ?_) (bs_ 41 0xffffffff) rfl rfl (by kernel_rfl) (fun _ _ _ h => h) (Or.inr ⟨by rfl, rfl⟩) ?_ ?_
          rotate_left
          ·simp only [nm_]
           rfl
          refine pure_ (i := 32) (N := some 66) (v := undef) (a' := ?_) (bs_ 41 0x1ffffffff) rfl rfl (by kernel_rfl) (fun _ _ _ h => h) (Or.inr ⟨by rfl, rfl⟩) ?_ ?_
          rotate_left
          ·simp only [nm_]
           rfl
          refine pure_ (i := 33) (N := some 67) (v := undef) (a' := ?_) (bs_ 41 0x3ffffffff) rfl rfl (by kernel_rfl) (fun _ _ _ h => h) (Or.inr ⟨by rfl, rfl⟩) ?_ ?_
          rotate_left
          ·simp only [nm_]
           rfl
          refine pure_ (i := 34) (N := some 68) (v := undef) (a' := ?_) (bs_ 41 0x7ffffffff) rfl rfl (by kernel_rfl) (fun _ _ _ h => h) (Or.inr ⟨by rfl, rfl⟩) ?_ ?_
          rotate_left
          ·simp only [nm_]
           rfl
          refine pure_ (i := 35) (N := some 69) (v := undef) (a' := ?_) (bs_ 41 0xfffffffff) rfl rfl (by kernel_rfl) (fun _ _ _ h => h) (Or.inr ⟨by rfl, rfl⟩) ?_ ?_
          rotate_left
          ·simp only [nm_]
           rfl
          refine pure_ (i := 36) (N := some 70) (v := undef) (a' := ?_) (bs_ 41 0x1fffffffff) rfl rfl (by kernel_rfl) (fun _ _ _ h => h) (Or.inr ⟨by rfl, rfl⟩) ?_ ?_
          rotate_left
          ·simp only [nm_]
           rfl
          refine pure_ (i := 37) (N := some 71) (v := undef) (a' := ?_) (bs_ 41 0x3fffffffff) rfl rfl (by kernel_rfl) (fun _ _ _ h => h) (Or.inr ⟨by rfl, rfl⟩) ?_ ?_
          rotate_left
          ·simp only [nm_]
           rfl
          refine pure_ (i := 38) (N := some 72) (v := undef) (a' := ?_) (bs_ 41 0x7fffffffff) rfl rfl (by kernel_rfl) (fun _ _ _ h => h) (Or.inr ⟨by rfl, rfl⟩) ?_ ?_
          rotate_left
          ·simp only [nm_]
           rfl
          refine pure_ (i := 39) (N := some 73) (v := ?_) (a' := ?_) (bs_ 41 0xffffffffff) rfl rfl (by kernel_rfl) (fun _ _ _ h => h) (Or.inl ⟨by rfl, ?_⟩) ?_ ?_; rotate_left; (intro w'; go_simp; with_reducible rfl); rotate_left; (simp only [nm_]; rfl)
          refine pure_ (i := 40) (N := some 74) (v := ?_) (a' := ?_) (bs_ 41 0x1ffffffffff) rfl rfl (by kernel_rfl) (fun _ _ _ h => h) (Or.inl ⟨by rfl, ?_⟩) ?_ ?_; rotate_left; (intro w'; go_simp; with_reducible rfl); rotate_left; (simp only [nm_]; rfl)
          refine done_ (by kernel_rfl) ?_
          have kBx := kBd
          have kbx := kbd
          have hMx := hMd
          obtain ⟨sx0, sx1, sx2, sx3, sx4⟩ := hHeld
          go_wp2_with (refine update_dir hMx rfl (.tmp 75) (.tmp 77) (.tmp 79) rfl rfl rfl rfl HPS.out HMAX.out ?_; intro W5 hm5 hg5; refine Stop.out ?_)
          constructor
          have hcx := HCX.out
          go_wp2_with (fail)
          go_roundg (l0.length - (i + 1))
          case measure => omega
          case rel => exact ⟨i + 1, a, rfl, by rw [HWI.out], Cs_succ a HC.out (HX.out ▸ hcx), hm5.congr (fun s => dir_step a HC.out (HX.out ▸ hcx) (by rw [← HX.out, HPE.out]) (by rw [← HX.out, HDE.out]) s), (hg5.block _ (blk_lt kbx) (by intro e; injection e with e; omega)).trans kbx, kBx.grown hg5 (by have := kBx.size; omega) (by intro k hk; injection hk with hk; omega)⟩
         ·obtain ⟨m, hm⟩ : ∃ m, i = m + 1 := ⟨i - 1, by omega⟩
          have c3 : decide ((0 : Int) < (i : Int)) = true := decide_eq_true (by omega)
          have hmr : m < l0.length := by omega
          obtain ⟨ad', A8, c8, had, e0, _, _, _, _⟩ := atT (Kd.C_below HR.out kBd) m hmr
          obtain rfl : ad = ad' := by injection had
          have hqs : l0[m].f0.size < 4294967280 := HS.out _ (List.getElem_mem hmr)
          obtain ⟨q, hq⟩ : ∃ q, q = l0[m].f0 := ⟨_, rfl⟩
          rw [← hq] at e0 hqs
          have sd5 : W2.drew.cell? (ad.add (m * 3)) = some (.string q) := e0
          obtain ⟨cc, hcc⟩ : ∃ cc, cc = cL (sp q.data.toList) (sp p.data.toList) := ⟨_, rfl⟩
          have kC : ∀ W, Calls Tryd.prog 51 #[.string q, .string p] W fun e w' => e = .returned (.int .i64 cc) ∧ Below W.heap.size W w' := fun W => path_Cmp.calls q p cc W (by unfold path_Cmp.f; rw [if_pos (by omega), if_pos (by have := HXS.out; omega), hcc])
          have HLT : Aside0 (cc < 0 ↔ ltP q p) := ⟨by rw [hcc]; exact Iff.rfl⟩
          have HQ := Aside0.mk hq
          have HM := Aside0.mk hm
          obtain ⟨kk, hkk⟩ : ∃ kk : Int, kk = (i : Int) := ⟨_, rfl⟩
          have HKK := Aside0.mk hkk
          have p2 : wrap64 (kk - 1) = (m : Int) := by unfold wrap64; omega
          have p3 : decide ((m : Int) < (l0.length : Int)) = true := decide_eq_true (by omega)
          have p4 : decide (0 ≤ (m : Int)) = true := decide_eq_true (by omega)
          rw [← hkk] at c3 ⊢
          have HWI2 : Aside0 (wrap64 (kk + 1) = ((i + 1 : Nat) : Int)) := ⟨by rw [hkk]; exact HWI.out⟩
          clear HWI hq hm hcc hqs e0 had hkk hi0 a1 a2
          have HWI := HWI2
          clear HWI2
          refine start_ (n := 41) (S := fun w' => (Instr.lookup 82 (.map (some mb)) (.string up) false).run Tryd.prog w' = .ok (.bool true) w' ∧ w'.cell? ⟨eb, 1, none⟩ = some (.bool true) ∧ w'.cell? ⟨eb, 2, none⟩ = some (.slice A9 n2 c9) ∧ w'.cell? ⟨eb, 0, none⟩ = some (.string p) ∧ w'.cell? ⟨w.heap.size, 0, none⟩ = some (.slice (some ad) l0.length c0) ∧ w'.cell? (ad.add (m * 3)) = some (.string q)) (ds := []) (bs_ 41 0x0) (by kernel_rfl) rfl rfl ⟨sd0, sd1, sd2, sd3, sd4, sd5⟩ (fun hHeld => ?_)
          generalize W2.drew = wd at sd0 sd1 sd2 sd3 sd4 sd5 hMd kbd kBd hHeld ⊢
          refine pure_ (i := 0) (N := some 34) (v := ?_) (a' := ?_) (bs_ 41 0x1) rfl rfl (by kernel_rfl) (fun _ _ _ h => h) (Or.inl ⟨by rfl, ?_⟩) ?_ ?_; rotate_left; (intro w'; go_simp; with_reducible rfl); rotate_left; (simp only [nm_]; rfl)
          refine pure_ (i := 1) (N := some 35) (v := ?_) (a' := ?_) (bs_ 41 0x3) rfl rfl (by kernel_rfl) (fun _ _ _ h => h) (Or.inl ⟨by rfl, ?_⟩) ?_ ?_; rotate_left; (intro w'; go_simp; with_reducible rfl); rotate_left; (simp only [nm_]; rfl)
          refine pure_ (i := 2) (N := some 36) (v := ?_) (a' := ?_) (bs_ 41 0x7) rfl rfl (by kernel_rfl) (fun _ _ _ h => h) (Or.inl ⟨by rfl, ?_⟩) ?_ ?_; rotate_left; (intro w'; go_simp; with_reducible rfl); rotate_left; (simp only [nm_]; rfl)
          refine pure_ (i := 3) (N := some 37) (v := ?_) (a' := ?_) (bs_ 41 0xf) rfl rfl (by kernel_rfl) (fun _ _ _ h => h) (Or.inl ⟨by rfl, ?_⟩) ?_ ?_; rotate_left; (intro w'; go_simp; with_reducible rfl); rotate_left; (simp only [nm_]; rfl)
          refine pure_ (i := 4) (N := some 38) (v := ?_) (a' := ?_) (bs_ 41 0x1f) rfl rfl (by kernel_rfl) (fun _ _ _ h => h) (Or.inl ⟨by rfl, ?_⟩) ?_ ?_; rotate_left; (intro w'; go_simp; with_reducible rfl); rotate_left; (simp only [nm_]; rfl)
          refine take_ (i := 5) (N := some 39) (v := ?_) (a' := ?_) (bs_ 41 0x3f) rfl rfl (by kernel_rfl) (fun _ _ _ h => h) (Or.inl ⟨by rfl, ?_⟩) hHeld ?_ ?_; rotate_left; (rintro w' ⟨s0, s1, s2, s3, s4, s5⟩; go_simp; with_reducible rfl); rotate_left; (simp only [nm_]; rfl)
          refine pure_ (i := 6) (N := some 40) (v := ?_) (a' := ?_) (bs_ 41 0x7f) rfl rfl (by kernel_rfl) (fun _ _ _ h => h) (Or.inl ⟨by rfl, ?_⟩) ?_ ?_; rotate_left; (intro w'; go_simp; with_reducible rfl); rotate_left; (simp only [nm_]; rfl)
          refine pure_ (i := 7) (N := some 41) (v := ?_) (a' := ?_) (bs_ 41 0xff) rfl rfl (by kernel_rfl) (fun _ _ _ h => h) (Or.inl ⟨by rfl, ?_⟩) ?_ ?_; rotate_left; (intro w'; go_simp; with_reducible rfl); rotate_left; (simp only [nm_]; rfl)
          refine pure_ (i := 8) (N := some 42) (v := ?_) (a' := ?_) (bs_ 41 0x1ff) rfl rfl (by kernel_rfl) (fun _ _ _ h => h) (Or.inl ⟨by rfl, ?_⟩) ?_ ?_; rotate_left; (intro w'; go_simp; with_reducible rfl); rotate_left; (simp only [nm_]; rfl)
          refine pure_ (i := 9) (N := some 43) (v := ?_) (a' := ?_) (bs_ 41 0x3ff) rfl rfl (by kernel_rfl) (fun _ _ _ h => h) (Or.inl ⟨by rfl, ?_⟩) ?_ ?_; rotate_left; (intro w'; go_simp; with_reducible rfl); rotate_left; (simp only [nm_]; rfl)
          refine take_ (i := 10) (N := some 44) (v := ?_) (a' := ?_) (bs_ 41 0x7ff) rfl rfl (by kernel_rfl) (fun _ _ _ h => h) (Or.inl ⟨by rfl, ?_⟩) hHeld ?_ ?_; rotate_left; (rintro w' ⟨s0, s1, s2, s3, s4, s5⟩; go_simp; with_reducible rfl); rotate_left; (simp only [nm_]; rfl)
          refine pure_ (i := 11) (N := some 45) (v := ?_) (a' := ?_) (bs_ 41 0xfff) rfl rfl (by kernel_rfl) (fun _ _ _ h => h) (Or.inl ⟨by rfl, ?_⟩) ?_ ?_; rotate_left; (intro w'; go_simp; with_reducible rfl); rotate_left; (simp only [nm_]; rfl)
          refine pure_ (i := 12) (N := some 46) (v := ?_) (a' := ?_) (bs_ 41 0x1fff) rfl rfl (by kernel_rfl) (fun _ _ _ h => h) (Or.inl ⟨by rfl, ?_⟩) ?_ ?_; rotate_left; (intro w'; go_simp; with_reducible rfl); rotate_left; (simp only [nm_]; rfl)
          refine take_ (i := 13) (N := some 47) (v := ?_) (a' := ?_) (bs_ 41 0x3fff) rfl rfl (by kernel_rfl) (fun _ _ _ h => h) (Or.inl ⟨by rfl, ?_⟩) hHeld ?_ ?_; rotate_left; (rintro w' ⟨s0, s1, s2, s3, s4, s5⟩; go_simp; with_reducible rfl); rotate_left; (simp only [nm_]; rfl)
          refine pure_ (i := 14) (N := some 48) (v := ?_) (a' := ?_) (bs_ 41 0x7fff) rfl rfl (by kernel_rfl) (fun _ _ _ h => h) (Or.inl ⟨by rfl, ?_⟩) ?_ ?_; rotate_left; (intro w'; go_simp; with_reducible rfl); rotate_left; (simp only [nm_]; rfl)
          refine pure_ (i := 15) (N := some 49) (v := ?_) (a' := ?_) (bs_ 41 0xffff) rfl rfl (by kernel_rfl) (fun _ _ _ h => h) (Or.inl ⟨by rfl, ?_⟩) ?_ ?_; rotate_left; (intro w'; go_simp; with_reducible rfl); rotate_left; (simp only [nm_]; rfl)
          refine pure_ (i := 16) (N := some 50) (v := ?_) (a' := ?_) (bs_ 41 0x1ffff) rfl rfl (by kernel_rfl) (fun _ _ _ h => h) (Or.inl ⟨by rfl, ?_⟩) ?_ ?_; rotate_left; (intro w'; go_simp; with_reducible rfl); rotate_left; (simp only [nm_]; rfl)
          refine pure_ (i := 17) (N := some 51) (v := ?_) (a' := ?_) (bs_ 41 0x3ffff) rfl rfl (by kernel_rfl) (fun _ _ _ h => h) (Or.inl ⟨by rfl, ?_⟩) ?_ ?_; rotate_left; (intro w'; go_simp; with_reducible rfl); rotate_left; (simp only [nm_]; rfl)
          refine pure_ (i := 18) (N := some 52) (v := ?_) (a' := ?_) (bs_ 41 0x7ffff) rfl rfl (by kernel_rfl) (fun _ _ _ h => h) (Or.inl ⟨by rfl, ?_⟩) ?_ ?_; rotate_left; (intro w'; go_simp; with_reducible rfl); rotate_left; (simp only [nm_]; rfl)
          refine pure_ (i := 19) (N := some 53) (v := ?_) (a' := ?_) (bs_ 41 0xfffff) rfl rfl (by kernel_rfl) (fun _ _ _ h => h) (Or.inl ⟨by rfl, ?_⟩) ?_ ?_; rotate_left; (intro w'; go_simp; with_reducible rfl); rotate_left; (simp only [nm_]; rfl)
          refine take_ (i := 20) (N := some 54) (v := ?_) (a' := ?_) (bs_ 41 0x1fffff) rfl rfl (by kernel_rfl) (fun _ _ _ h => h) (Or.inl ⟨by rfl, ?_⟩) hHeld ?_ ?_; rotate_left; (rintro w' ⟨s0, s1, s2, s3, s4, s5⟩; go_simp; with_reducible rfl); rotate_left; (simp only [nm_]; rfl)
          refine pure_ (i := 21) (N := some 55) (v := ?_) (a' := ?_) (bs_ 41 0x3fffff) rfl rfl (by kernel_rfl) (fun _ _ _ h => h) (Or.inl ⟨by rfl, ?_⟩) ?_ ?_; rotate_left; (intro w'; go_simp; with_reducible rfl); rotate_left; (simp only [nm_]; rfl)
          refine pure_ (i := 22) (N := some 56) (v := ?_) (a' := ?_) (bs_ 41 0x7fffff) rfl rfl (by kernel_rfl) (fun _ _ _ h => h) (Or.inl ⟨by rfl, ?_⟩) ?_ ?_; rotate_left; (intro w'; go_simp; with_reducible rfl); rotate_left; (simp only [nm_]; rfl)
          refine pure_ (i := 23) (N := some 57) (v := ?_) (a' := ?_) (bs_ 41 0xffffff) rfl rfl (by kernel_rfl) (fun _ _ _ h => h) (Or.inl ⟨by rfl, ?_⟩) ?_ ?_; rotate_left; (intro w'; go_simp; with_reducible rfl); rotate_left; (simp only [nm_]; rfl)
          refine pure_ (i := 24) (N := some 58) (v := ?_) (a' := ?_) (bs_ 41 0x1ffffff) rfl rfl (by kernel_rfl) (fun _ _ _ h => h) (Or.inl ⟨by rfl, ?_⟩) ?_ ?_; rotate_left; (intro w'; go_simp; with_reducible rfl); rotate_left; (simp only [nm_]; rfl)
          refine pure_ (i := 25) (N := some 59) (v := ?_) (a' := ?_) (bs_ 41 0x3ffffff) rfl rfl (by kernel_rfl) (fun _ _ _ h => h) (Or.inl ⟨by rfl, ?_⟩) ?_ ?_; rotate_left; (intro w'; go_simp; with_reducible rfl); rotate_left; (simp only [nm_]; rfl)
          refine pure_ (i := 26) (N := some 60) (v := ?_) (a' := ?_) (bs_ 41 0x7ffffff) rfl rfl (by kernel_rfl) (fun _ _ _ h => h) (Or.inl ⟨by rfl, ?_⟩) ?_ ?_; rotate_left; (intro w'; go_simp; with_reducible rfl); rotate_left; (simp only [nm_]; rfl)
          refine pure_ (i := 27) (N := some 61) (v := ?_) (a' := ?_) (bs_ 41 0xfffffff) rfl rfl (by kernel_rfl) (fun _ _ _ h => h) (Or.inl ⟨by rfl, ?_⟩) ?_ ?_; rotate_left; (intro w'; go_simp; with_reducible rfl); rotate_left; (simp only [nm_]; rfl)
          refine pure_ (i := 28) (N := some 62) (v := ?_) (a' := ?_) (bs_ 41 0x1fffffff) rfl rfl (by kernel_rfl) (fun _ _ _ h => h) (Or.inl ⟨by rfl, ?_⟩) ?_ ?_; rotate_left; (intro w'; go_simp; with_reducible rfl); rotate_left; (simp only [nm_]; rfl)
          refine pure_ (i := 30) (N := some 64) (v := ?_) (a' := ?_) (bs_ 41 0x5fffffff) rfl rfl (by kernel_rfl) (fun _ _ _ h => h) (Or.inl ⟨by rfl, ?_⟩) ?_ ?_; rotate_left; (intro w'; go_simp; with_reducible rfl); rotate_left; (simp only [nm_]; rfl)
          refine pure_ (i := 31) (N := some 65) (v := ?_) (a' := ?_) (bs_ 41 0xdfffffff) rfl rfl (by kernel_rfl) (fun _ _ _ h => h) (Or.inl ⟨by rfl, ?_⟩) ?_ ?_; rotate_left; (intro w'; go_simp; with_reducible rfl); rotate_left; (simp only [nm_]; rfl)
          refine pure_ (i := 35) (N := some 69) (v := ?_) (a' := ?_) (bs_ 41 0x8dfffffff) rfl rfl (by kernel_rfl) (fun _ _ _ h => h) (Or.inl ⟨by rfl, ?_⟩) ?_ ?_; rotate_left; (intro w'; go_simp; with_reducible rfl); rotate_left; (simp only [nm_]; rfl)
          refine take_ (i := 29) (N := some 63) (v := ?_) (a' := ?_) (bs_ 41 0x8ffffffff) rfl rfl (by kernel_rfl) (fun _ _ _ h => h) (Or.inl ⟨by rfl, ?_⟩) hHeld ?_ ?_; rotate_left; (rintro w' ⟨s0, s1, s2, s3, s4, s5⟩; go_simp; with_reducible rfl); rotate_left; (simp only [nm_]; rfl)
          refine pure_ (i := 32) (N := some 66) (v := ?_) (a' := ?_) (bs_ 41 0x9ffffffff) rfl rfl (by kernel_rfl) (fun _ _ _ h => h) (Or.inl ⟨by rfl, ?_⟩) ?_ ?_; rotate_left; (intro w'; go_simp; with_reducible rfl); rotate_left; (simp only [nm_]; rfl)
          refine pure_ (i := 33) (N := some 67) (v := ?_) (a' := ?_) (bs_ 41 0xbffffffff) rfl rfl (by kernel_rfl) (fun _ _ _ h => h) (Or.inl ⟨by rfl, ?_⟩) ?_ ?_; rotate_left; (intro w'; go_simp; with_reducible rfl); rotate_left; (simp only [nm_]; rfl)
          refine take_ (i := 34) (N := some 68) (v := ?_) (a' := ?_) (bs_ 41 0xfffffffff) rfl rfl (by kernel_rfl) (fun _ _ _ h => h) (Or.inl ⟨by rfl, ?_⟩) hHeld ?_ ?_; rotate_left; (rintro w' ⟨s0, s1, s2, s3, s4, s5⟩; go_simp; with_reducible rfl); rotate_left; (simp only [nm_]; rfl)
          refine take_ (i := 36) (N := some 70) (v := ?_) (a' := ?_) (bs_ 41 0x1fffffffff) rfl rfl (by kernel_rfl) (fun _ _ _ h => h) (Or.inl ⟨by rfl, ?_⟩) hHeld ?_ ?_; rotate_left; (rintro w' ⟨s0, s1, s2, s3, s4, s5⟩; go_simp; with_reducible rfl); rotate_left; (simp only [nm_]; rfl)
          refine one_ (i := 37) (N := some 71) (bs_ 41 0x3fffffffff) rfl rfl (by kernel_rfl) (by decide) (fun K hK => ?_)
          refine goes_ Tryd.func51 (by kernel_rfl) rfl #[.string q, .string p] (by rfl) rfl rfl (by simp only [List.map_toArray, List.map_cons, List.map_nil]; rfl) ?_
          with_reducible refine (kC wd).mono ?_
          rintro e w3 ⟨rfl, hb3⟩
          refine ⟨_, rfl, ?_⟩
          refine hK.out _ _ ⟨(by rw [← HG.out]; exact (hMd.below hb3).look HUP.out), (Below.cell hb3 (cell_lt2 sd1)).trans sd1, (Below.cell hb3 (cell_lt2 sd2)).trans sd2, (Below.cell hb3 (cell_lt2 sd3)).trans sd3, (Below.cell hb3 (cell_lt2 sd4)).trans sd4, (Below.cell hb3 (cell_lt2 sd5)).trans sd5⟩ (fun hHeld => ?_)
          clear hK K
          refine norm_ (a' := ?_) ?_ ?_
          rotate_left
          ·show Act.put _ (some 71) _ = _
           simp only [nm_]
           rfl
          refine pure_ (i := 38) (N := some 72) (v := ?_) (a' := ?_) (bs_ 41 0x7fffffffff) rfl rfl (by kernel_rfl) (fun _ _ _ h => h) (Or.inl ⟨by rfl, ?_⟩) ?_ ?_; rotate_left; (intro w'; go_simp; with_reducible rfl); rotate_left; (simp only [nm_]; rfl)
          refine pure_ (i := 39) (N := some 73) (v := ?_) (a' := ?_) (bs_ 41 0xffffffffff) rfl rfl (by kernel_rfl) (fun _ _ _ h => h) (Or.inl ⟨by rfl, ?_⟩) ?_ ?_; rotate_left; (intro w'; go_simp; with_reducible rfl); rotate_left; (simp only [nm_]; rfl)
          refine pure_ (i := 40) (N := some 74) (v := ?_) (a' := ?_) (bs_ 41 0x1ffffffffff) rfl rfl (by kernel_rfl) (fun _ _ _ h => h) (Or.inl ⟨by rfl, ?_⟩) ?_ ?_; rotate_left; (intro w'; go_simp; with_reducible rfl); rotate_left; (simp only [nm_]; rfl)
          refine done_ (by kernel_rfl) ?_
          have kBx := kBd.trans (hb3.mono kBd.size)
          have kbx := (hb3.block _ (blk_lt kbd)).trans kbd
          have hMx := hMd.below hb3
          by_cases hc0 : 0 ≤ cc
          ·have p5 : decide (0 ≤ cc) = true := decide_eq_true hc0
           have HBAD : Aside0 (decide (GT30 l0) = false) := ⟨HBAD0.out fun c => by have h := c.lt m HM.out hmr; rw [← HQ.out, HPE.out] at h; have := HLT.out.2 h; omega⟩
           go_wp2_with (fail)
           go_ret
           exact ⟨by rw [HRES.out, HBAD.out]; rfl, kBx⟩
          ·have p5 : decide (0 ≤ cc) = false := decide_eq_false hc0
           have HCX : Aside0 (Cx l0 i X) := ⟨⟨by rw [HPE.out]; exact HGP.out, by rw [HPE.out, ← HUPE.out]; exact of_decide_eq_true HG.out, HDB.out, HSZ.out, fun q' hq' hl' => by
            obtain rfl : q' = m := by have := HM.out; omega
            rw [← HQ.out, HPE.out]
            exact HLT.out.1 (by omega)⟩⟩
           obtain ⟨sx0, sx1, sx2, sx3, sx4, sx5⟩ := hHeld
           go_wp2_with (refine update_dir hMx rfl (.tmp 75) (.tmp 77) (.tmp 79) rfl rfl rfl rfl HPS.out HMAX.out ?_; intro W5 hm5 hg5; refine Stop.out ?_)
           constructor
           have hcx := HCX.out
           go_wp2_with (fail)
           go_roundg (l0.length - (i + 1))
           case measure => omega
           case rel => exact ⟨i + 1, a, rfl, by rw [HWI.out], Cs_succ a HC.out (HX.out ▸ hcx), hm5.congr (fun s => dir_step a HC.out (HX.out ▸ hcx) (by rw [← HX.out, HPE.out]) (by rw [← HX.out, HDE.out]) s), (hg5.block _ (blk_lt kbx) (by intro e; injection e with e; omega)).trans kbx, kBx.grown hg5 (by have := kBx.size; omega) (by intro k hk; injection hk with hk; omega)⟩
       | false =>
        have HDB : Aside0 (X.f1 = true → X.f2 = []) := ⟨fun h => by rw [HDE.out] at h; cases h⟩
        by_cases hn1 : 2048 < n2
        ·have c2 : decide ((2048 : Int) < (n2 : Int)) = true := decide_eq_true (by omega)
         have HBAD : Aside0 (decide (GT30 l0) = false) := ⟨HBAD0.out fun c => by have h := c.sz; rw [← HNE.out] at h; omega⟩
         refine start_ (n := 41) (S := fun w' => (Instr.lookup 82 (.map (some mb)) (.string up) false).run Tryd.prog w' = .ok (.bool true) w' ∧ w'.cell? ⟨eb, 1, none⟩ = some (.bool false) ∧ w'.cell? ⟨eb, 2, none⟩ = some (.slice A9 n2 c9) ∧ w'.cell? ⟨eb, 0, none⟩ = some (.string p) ∧ w'.cell? ⟨w.heap.size, 0, none⟩ = some (.slice (some ad) l0.length c0)) (ds := []) (bs_ 41 0x0) (by kernel_rfl) rfl rfl ⟨sd0, sd1, sd2, sd3, sd4⟩ (fun hHeld => ?_)
         generalize W2.drew = wd at sd0 sd1 sd2 sd3 sd4 hMd kbd kBd hHeld ⊢
         refine pure_ (i := 0) (N := some 34) (v := ?_) (a' := ?_) (bs_ 41 0x1) rfl rfl (by kernel_rfl) (fun _ _ _ h => h) (Or.inl ⟨by rfl, ?_⟩) ?_ ?_; rotate_left; (intro w'; go_simp; with_reducible rfl); rotate_left; (simp only [nm_]; rfl)
         refine pure_ (i := 1) (N := some 35) (v := ?_) (a' := ?_) (bs_ 41 0x3) rfl rfl (by kernel_rfl) (fun _ _ _ h => h) (Or.inl ⟨by rfl, ?_⟩) ?_ ?_; rotate_left; (intro w'; go_simp; with_reducible rfl); rotate_left; (simp only [nm_]; rfl)
         refine pure_ (i := 2) (N := some 36) (v := ?_) (a' := ?_) (bs_ 41 0x7) rfl rfl (by kernel_rfl) (fun _ _ _ h => h) (Or.inl ⟨by rfl, ?_⟩) ?_ ?_; rotate_left; (intro w'; go_simp; with_reducible rfl); rotate_left; (simp only [nm_]; rfl)
         refine pure_ (i := 3) (N := some 37) (v := ?_) (a' := ?_) (bs_ 41 0xf) rfl rfl (by kernel_rfl) (fun _ _ _ h => h) (Or.inl ⟨by rfl, ?_⟩) ?_ ?_; rotate_left; (intro w'; go_simp; with_reducible rfl); rotate_left; (simp only [nm_]; rfl)
         refine pure_ (i := 4) (N := some 38) (v := ?_) (a' := ?_) (bs_ 41 0x1f) rfl rfl (by kernel_rfl) (fun _ _ _ h => h) (Or.inl ⟨by rfl, ?_⟩) ?_ ?_; rotate_left; (intro w'; go_simp; with_reducible rfl); rotate_left; (simp only [nm_]; rfl)
         refine take_ (i := 5) (N := some 39) (v := ?_) (a' := ?_) (bs_ 41 0x3f) rfl rfl (by kernel_rfl) (fun _ _ _ h => h) (Or.inl ⟨by rfl, ?_⟩) hHeld ?_ ?_; rotate_left; (rintro w' ⟨s0, s1, s2, s3, s4⟩; go_simp; with_reducible rfl); rotate_left; (simp only [nm_]; rfl)
         refine pure_ (i := 6) (N := some 40) (v := ?_) (a' := ?_) (bs_ 41 0x7f) rfl rfl (by kernel_rfl) (fun _ _ _ h => h) (Or.inl ⟨by rfl, ?_⟩) ?_ ?_; rotate_left; (intro w'; go_simp; with_reducible rfl); rotate_left; (simp only [nm_]; rfl)
         refine pure_ (i := 7) (N := some 41) (v := ?_) (a' := ?_) (bs_ 41 0xff) rfl rfl (by kernel_rfl) (fun _ _ _ h => h) (Or.inl ⟨by rfl, ?_⟩) ?_ ?_; rotate_left; (intro w'; go_simp; with_reducible rfl); rotate_left; (simp only [nm_]; rfl)
         refine pure_ (i := 8) (N := some 42) (v := ?_) (a' := ?_) (bs_ 41 0x1ff) rfl rfl (by kernel_rfl) (fun _ _ _ h => h) (Or.inl ⟨by rfl, ?_⟩) ?_ ?_; rotate_left; (intro w'; go_simp; with_reducible rfl); rotate_left; (simp only [nm_]; rfl)
         refine pure_ (i := 9) (N := some 43) (v := ?_) (a' := ?_) (bs_ 41 0x3ff) rfl rfl (by kernel_rfl) (fun _ _ _ h => h) (Or.inl ⟨by rfl, ?_⟩) ?_ ?_; rotate_left; (intro w'; go_simp; with_reducible rfl); rotate_left; (simp only [nm_]; rfl)
         refine take_ (i := 10) (N := some 44) (v := ?_) (a' := ?_) (bs_ 41 0x7ff) rfl rfl (by kernel_rfl) (fun _ _ _ h => h) (Or.inl ⟨by rfl, ?_⟩) hHeld ?_ ?_; rotate_left; (rintro w' ⟨s0, s1, s2, s3, s4⟩; go_simp; with_reducible rfl); rotate_left; (simp only [nm_]; rfl)
         refine pure_ (i := 11) (N := some 45) (v := ?_) (a' := ?_) (bs_ 41 0xfff) rfl rfl (by kernel_rfl) (fun _ _ _ h => h) (Or.inl ⟨by rfl, ?_⟩) ?_ ?_; rotate_left; (intro w'; go_simp; with_reducible rfl); rotate_left; (simp only [nm_]; rfl)
         refine pure_ (i := 12) (N := some 46) (v := undef) (a' := ?_) (bs_ 41 0x1fff) rfl rfl (by kernel_rfl) (fun _ _ _ h => h) (Or.inr ⟨by rfl, rfl⟩) ?_ ?_
         rotate_left
         ·simp only [nm_]
          rfl
         refine pure_ (i := 13) (N := some 47) (v := undef) (a' := ?_) (bs_ 41 0x3fff) rfl rfl (by kernel_rfl) (fun _ _ _ h => h) (Or.inr ⟨by rfl, rfl⟩) ?_ ?_
         rotate_left
         ·simp only [nm_]
          rfl
         refine pure_ (i := 14) (N := some 48) (v := undef) (a' := ?_) (bs_ 41 0x7fff) rfl rfl (by kernel_rfl) (fun _ _ _ h => h) (Or.inr ⟨by rfl, rfl⟩) ?_ ?_
         rotate_left
         ·simp only [nm_]
          rfl
         refine pure_ (i := 15) (N := some 49) (v := undef) (a' := ?_) (bs_ 41 0xffff) rfl rfl (by kernel_rfl) (fun _ _ _ h => h) (Or.inr ⟨by rfl, rfl⟩) ?_ ?_
         rotate_left
         ·simp only [nm_]
          rfl
         refine pure_ (i := 16) (N := some 50) (v := ?_) (a' := ?_) (bs_ 41 0x1ffff) rfl rfl (by kernel_rfl) (fun _ _ _ h => h) (Or.inl ⟨by rfl, ?_⟩) ?_ ?_; rotate_left; (intro w'; go_simp; with_reducible rfl); rotate_left; (simp only [nm_]; rfl)
         refine pure_ (i := 17) (N := some 51) (v := ?_) (a' := ?_) (bs_ 41 0x3ffff) rfl rfl (by kernel_rfl) (fun _ _ _ h => h) (Or.inl ⟨by rfl, ?_⟩) ?_ ?_; rotate_left; (intro w'; go_simp; with_reducible rfl); rotate_left; (simp only [nm_]; rfl)
         refine pure_ (i := 18) (N := some 52) (v := ?_) (a' := ?_) (bs_ 41 0x7ffff) rfl rfl (by kernel_rfl) (fun _ _ _ h => h) (Or.inl ⟨by rfl, ?_⟩) ?_ ?_; rotate_left; (intro w'; go_simp; with_reducible rfl); rotate_left; (simp only [nm_]; rfl)
         refine pure_ (i := 19) (N := some 53) (v := ?_) (a' := ?_) (bs_ 41 0xfffff) rfl rfl (by kernel_rfl) (fun _ _ _ h => h) (Or.inl ⟨by rfl, ?_⟩) ?_ ?_; rotate_left; (intro w'; go_simp; with_reducible rfl); rotate_left; (simp only [nm_]; rfl)
         refine take_ (i := 20) (N := some 54) (v := ?_) (a' := ?_) (bs_ 41 0x1fffff) rfl rfl (by kernel_rfl) (fun _ _ _ h => h) (Or.inl ⟨by rfl, ?_⟩) hHeld ?_ ?_; rotate_left; (rintro w' ⟨s0, s1, s2, s3, s4⟩; go_simp; with_reducible rfl); rotate_left; (simp only [nm_]; rfl)
         refine pure_ (i := 21) (N := some 55) (v := ?_) (a' := ?_) (bs_ 41 0x3fffff) rfl rfl (by kernel_rfl) (fun _ _ _ h => h) (Or.inl ⟨by rfl, ?_⟩) ?_ ?_; rotate_left; (intro w'; go_simp; with_reducible rfl); rotate_left; (simp only [nm_]; rfl)
         refine pure_ (i := 22) (N := some 56) (v := ?_) (a' := ?_) (bs_ 41 0x7fffff) rfl rfl (by kernel_rfl) (fun _ _ _ h => h) (Or.inl ⟨by rfl, ?_⟩) ?_ ?_; rotate_left; (intro w'; go_simp; with_reducible rfl); rotate_left; (simp only [nm_]; rfl)
         refine pure_ (i := 23) (N := some 57) (v := ?_) (a' := ?_) (bs_ 41 0xffffff) rfl rfl (by kernel_rfl) (fun _ _ _ h => h) (Or.inl ⟨by rfl, ?_⟩) ?_ ?_; rotate_left; (intro w'; go_simp; with_reducible rfl); rotate_left; (simp only [nm_]; rfl)
         refine pure_ (i := 24) (N := some 58) (v := ?_) (a' := ?_) (bs_ 41 0x1ffffff) rfl rfl (by kernel_rfl) (fun _ _ _ h => h) (Or.inl ⟨by rfl, ?_⟩) ?_ ?_; rotate_left; (intro w'; go_simp; with_reducible rfl); rotate_left; (simp only [nm_]; rfl)
         refine pure_ (i := 25) (N := some 59) (v := undef) (a' := ?_) (bs_ 41 0x3ffffff) rfl rfl (by kernel_rfl) (fun _ _ _ h => h) (Or.inr ⟨by rfl, rfl⟩) ?_ ?_
         rotate_left
         ·simp only [nm_]
          rfl
         refine pure_ (i := 26) (N := some 60) (v := undef) (a' := ?_) (bs_ 41 0x7ffffff) rfl rfl (by kernel_rfl) (fun _ _ _ h => h) (Or.inr ⟨by rfl, rfl⟩) ?_ ?_
         rotate_left
         ·simp only [nm_]
          rfl
         refine pure_ (i := 27) (N := some 61) (v := undef) (a' := ?_) (bs_ 41 0xfffffff) rfl rfl (by kernel_rfl) (fun _ _ _ h => h) (Or.inr ⟨by rfl, rfl⟩) ?_ ?_
         rotate_left
         ·simp only [nm_]
          rfl
         refine pure_ (i := 28) (N := some 62) (v := undef) (a' := ?_) (bs_ 41 0x1fffffff) rfl rfl (by kernel_rfl) (fun _ _ _ h => h) (Or.inr ⟨by rfl, rfl⟩) ?_ ?_
         rotate_left
         ·simp only [nm_]
          rfl
         refine pure_ (i := 29) (N := some 63) (v := undef) (a' := ?_) (bs_ 41 0x3fffffff) rfl rfl (by kernel_rfl) (fun _ _ _ h => h) (Or.inr ⟨by rfl, rfl⟩) ?_ ?_
         rotate_left
         ·simp only [nm_]
          rfl
         refine pure_ (i := 30) (N := some 64) (v := undef) (a' := ?_) (bs_ 41 0x7fffffff) rfl rfl (by kernel_rfl) (fun _ _ _ h => h) (Or.inr ⟨by rfl, rfl⟩) ?_ ?_
         rotate_left
         ·simp only [nm_]
          rfl
         refine pure_ (i := 31) (N := some 65) (v := undef) (a' := ?_) (bs_ 41 0xffffffff) rfl rfl (by kernel_rfl) (fun _ _ _ h => h) (Or.inr ⟨by rfl, rfl⟩) ?_ ?_
         rotate_left
         ·simp only [nm_]
          rfl
         refine pure_ (i := 32) (N := some 66) (v := undef) (a' := ?_) (bs_ 41 0x1ffffffff) rfl rfl (by kernel_rfl) (fun _ _ _ h => h) (Or.inr ⟨by rfl, rfl⟩) ?_ ?_
         rotate_left
         ·simp only [nm_]
          rfl
         refine pure_ (i := 33) (N := some 67) (v := undef) (a' := ?_) (bs_ 41 0x3ffffffff) rfl rfl (by kernel_rfl) (fun _ _ _ h => h) (Or.inr ⟨by rfl, rfl⟩) ?_ ?_
         rotate_left
         ·simp only [nm_]
          rfl
         refine pure_ (i := 34) (N := some 68) (v := undef) (a' := ?_) (bs_ 41 0x7ffffffff) rfl rfl (by kernel_rfl) (fun _ _ _ h => h) (Or.inr ⟨by rfl, rfl⟩) ?_ ?_
         rotate_left
         ·simp only [nm_]
          rfl
         refine pure_ (i := 35) (N := some 69) (v := undef) (a' := ?_) (bs_ 41 0xfffffffff) rfl rfl (by kernel_rfl) (fun _ _ _ h => h) (Or.inr ⟨by rfl, rfl⟩) ?_ ?_
         rotate_left
         ·simp only [nm_]
          rfl
         refine pure_ (i := 36) (N := some 70) (v := undef) (a' := ?_) (bs_ 41 0x1fffffffff) rfl rfl (by kernel_rfl) (fun _ _ _ h => h) (Or.inr ⟨by rfl, rfl⟩) ?_ ?_
         rotate_left
         ·simp only [nm_]
          rfl
         refine pure_ (i := 37) (N := some 71) (v := undef) (a' := ?_) (bs_ 41 0x3fffffffff) rfl rfl (by kernel_rfl) (fun _ _ _ h => h) (Or.inr ⟨by rfl, rfl⟩) ?_ ?_
         rotate_left
         ·simp only [nm_]
          rfl
         refine pure_ (i := 38) (N := some 72) (v := undef) (a' := ?_) (bs_ 41 0x7fffffffff) rfl rfl (by kernel_rfl) (fun _ _ _ h => h) (Or.inr ⟨by rfl, rfl⟩) ?_ ?_
         rotate_left
         ·simp only [nm_]
          rfl
         refine pure_ (i := 39) (N := some 73) (v := undef) (a' := ?_) (bs_ 41 0xffffffffff) rfl rfl (by kernel_rfl) (fun _ _ _ h => h) (Or.inr ⟨by rfl, rfl⟩) ?_ ?_
         rotate_left
         ·simp only [nm_]
          rfl
         refine pure_ (i := 40) (N := some 74) (v := ?_) (a' := ?_) (bs_ 41 0x1ffffffffff) rfl rfl (by kernel_rfl) (fun _ _ _ h => h) (Or.inl ⟨by rfl, ?_⟩) ?_ ?_; rotate_left; (intro w'; go_simp; with_reducible rfl); rotate_left; (simp only [nm_]; rfl)
         refine done_ (by kernel_rfl) ?_
         have kBx := kBd
         go_wp2_with (fail)
         go_ret
         exact ⟨by rw [HRES.out, HBAD.out]; rfl, kBx⟩
        ·have c2 : decide ((2048 : Int) < (n2 : Int)) = false := decide_eq_false (by omega)
         have HSZ : Aside0 (X.f2.length ≤ 2048) := ⟨by rw [← HNE.out]; omega⟩
         by_cases hi0 : i = 0
         ·have c3 : decide ((0 : Int) < (i : Int)) = false := decide_eq_false (by omega)
          have HI0 := Aside0.mk hi0
          obtain ⟨kk, hkk⟩ : ∃ kk : Int, kk = (i : Int) := ⟨_, rfl⟩
          rw [← hkk] at c3 ⊢
          have HWI2 : Aside0 (wrap64 (kk + 1) = ((i + 1 : Nat) : Int)) := ⟨by rw [hkk]; exact HWI.out⟩
          clear HWI hkk hi0 a1 a2
          have HWI := HWI2
          clear HWI2
          have HCX : Aside0 (Cx l0 i X) := ⟨⟨by rw [HPE.out]; exact HGP.out, by rw [HPE.out, ← HUPE.out]; exact of_decide_eq_true HG.out, HDB.out, HSZ.out, fun q hq _ => by have := HI0.out; omega⟩⟩
          refine start_ (n := 41) (S := fun w' => (Instr.lookup 82 (.map (some mb)) (.string up) false).run Tryd.prog w' = .ok (.bool true) w' ∧ w'.cell? ⟨eb, 1, none⟩ = some (.bool false) ∧ w'.cell? ⟨eb, 2, none⟩ = some (.slice A9 n2 c9) ∧ w'.cell? ⟨eb, 0, none⟩ = some (.string p) ∧ w'.cell? ⟨w.heap.size, 0, none⟩ = some (.slice (some ad) l0.length c0)) (ds := []) (bs_ 41 0x0) (by kernel_rfl) rfl rfl ⟨sd0, sd1, sd2, sd3, sd4⟩ (fun hHeld => ?_)
          generalize W2.drew = wd at sd0 sd1 sd2 sd3 sd4 hMd kbd kBd hHeld ⊢
          refine pure_ (i := 0) (N := some 34) (v := ?_) (a' := ?_) (bs_ 41 0x1) rfl rfl (by kernel_rfl) (fun _ _ _ h => h) (Or.inl ⟨by rfl, ?_⟩) ?_ ?_; rotate_left; (intro w'; go_simp; with_reducible rfl); rotate_left; (simp only [nm_]; rfl)
          refine pure_ (i := 1) (N := some 35) (v := ?_) (a' := ?_) (bs_ 41 0x3) rfl rfl (by kernel_rfl) (fun _ _ _ h => h) (Or.inl ⟨by rfl, ?_⟩) ?_ ?_; rotate_left; (intro w'; go_simp; with_reducible rfl); rotate_left; (simp only [nm_]; rfl)
          refine pure_ (i := 2) (N := some 36) (v := ?_) (a' := ?_) (bs_ 41 0x7) rfl rfl (by kernel_rfl) (fun _ _ _ h => h) (Or.inl ⟨by rfl, ?_⟩) ?_ ?_; rotate_left; (intro w'; go_simp; with_reducible rfl); rotate_left; (simp only [nm_]; rfl)
          refine pure_ (i := 3) (N := some 37) (v := ?_) (a' := ?_) (bs_ 41 0xf) rfl rfl (by kernel_rfl) (fun _ _ _ h => h) (Or.inl ⟨by rfl, ?_⟩) ?_ ?_; rotate_left; (intro w'; go_simp; with_reducible rfl); rotate_left; (simp only [nm_]; rfl)
          refine pure_ (i := 4) (N := some 38) (v := ?_) (a' := ?_) (bs_ 41 0x1f) rfl rfl (by kernel_rfl) (fun _ _ _ h => h) (Or.inl ⟨by rfl, ?_⟩) ?_ ?_; rotate_left; (intro w'; go_simp; with_reducible rfl); rotate_left; (simp only [nm_]; rfl)
          refine take_ (i := 5) (N := some 39) (v := ?_) (a' := ?_) (bs_ 41 0x3f) rfl rfl (by kernel_rfl) (fun _ _ _ h => h) (Or.inl ⟨by rfl, ?_⟩) hHeld ?_ ?_; rotate_left; (rintro w' ⟨s0, s1, s2, s3, s4⟩; go_simp; with_reducible rfl); rotate_left; (simp only [nm_]; rfl)
          refine pure_ (i := 6) (N := some 40) (v := ?_) (a' := ?_) (bs_ 41 0x7f) rfl rfl (by kernel_rfl) (fun _ _ _ h => h) (Or.inl ⟨by rfl, ?_⟩) ?_ ?_; rotate_left; (intro w'; go_simp; with_reducible rfl); rotate_left; (simp only [nm_]; rfl)
          refine pure_ (i := 7) (N := some 41) (v := ?_) (a' := ?_) (bs_ 41 0xff) rfl rfl (by kernel_rfl) (fun _ _ _ h => h) (Or.inl ⟨by rfl, ?_⟩) ?_ ?_; rotate_left; (intro w'; go_simp; with_reducible rfl); rotate_left; (simp only [nm_]; rfl)
          refine pure_ (i := 8) (N := some 42) (v := ?_) (a' := ?_) (bs_ 41 0x1ff) rfl rfl (by kernel_rfl) (fun _ _ _ h => h) (Or.inl ⟨by rfl, ?_⟩) ?_ ?_; rotate_left; (intro w'; go_simp; with_reducible rfl); rotate_left; (simp only [nm_]; rfl)
          refine pure_ (i := 9) (N := some 43) (v := ?_) (a' := ?_) (bs_ 41 0x3ff) rfl rfl (by kernel_rfl) (fun _ _ _ h => h) (Or.inl ⟨by rfl, ?_⟩) ?_ ?_; rotate_left; (intro w'; go_simp; with_reducible rfl); rotate_left; (simp only [nm_]; rfl)
          refine take_ (i := 10) (N := some 44) (v := ?_) (a' := ?_) (bs_ 41 0x7ff) rfl rfl (by kernel_rfl) (fun _ _ _ h => h) (Or.inl ⟨by rfl, ?_⟩) hHeld ?_ ?_; rotate_left; (rintro w' ⟨s0, s1, s2, s3, s4⟩; go_simp; with_reducible rfl); rotate_left; (simp only [nm_]; rfl)
          refine pure_ (i := 11) (N := some 45) (v := ?_) (a' := ?_) (bs_ 41 0xfff) rfl rfl (by kernel_rfl) (fun _ _ _ h => h) (Or.inl ⟨by rfl, ?_⟩) ?_ ?_; rotate_left; (intro w'; go_simp; with_reducible rfl); rotate_left; (simp only [nm_]; rfl)
          refine pure_ (i := 12) (N := some 46) (v := undef) (a' := ?_) (bs_ 41 0x1fff) rfl rfl (by kernel_rfl) (fun _ _ _ h => h) (Or.inr ⟨by rfl, rfl⟩) ?_ ?_
          rotate_left
          ·simp only [nm_]
           rfl
          refine pure_ (i := 13) (N := some 47) (v := undef) (a' := ?_) (bs_ 41 0x3fff) rfl rfl (by kernel_rfl) (fun _ _ _ h => h) (Or.inr ⟨by rfl, rfl⟩) ?_ ?_
          rotate_left
          ·simp only [nm_]
           rfl
          refine pure_ (i := 14) (N := some 48) (v := undef) (a' := ?_) (bs_ 41 0x7fff) rfl rfl (by kernel_rfl) (fun _ _ _ h => h) (Or.inr ⟨by rfl, rfl⟩) ?_ ?_
          rotate_left
          ·simp only [nm_]
           rfl
          refine pure_ (i := 15) (N := some 49) (v := undef) (a' := ?_) (bs_ 41 0xffff) rfl rfl (by kernel_rfl) (fun _ _ _ h => h) (Or.inr ⟨by rfl, rfl⟩) ?_ ?_
          rotate_left
          ·simp only [nm_]
           rfl
          refine pure_ (i := 16) (N := some 50) (v := ?_) (a' := ?_) (bs_ 41 0x1ffff) rfl rfl (by kernel_rfl) (fun _ _ _ h => h) (Or.inl ⟨by rfl, ?_⟩) ?_ ?_; rotate_left; (intro w'; go_simp; with_reducible rfl); rotate_left; (simp only [nm_]; rfl)
          refine pure_ (i := 17) (N := some 51) (v := ?_) (a' := ?_) (bs_ 41 0x3ffff) rfl rfl (by kernel_rfl) (fun _ _ _ h => h) (Or.inl ⟨by rfl, ?_⟩) ?_ ?_; rotate_left; (intro w'; go_simp; with_reducible rfl); rotate_left; (simp only [nm_]; rfl)
          refine pure_ (i := 18) (N := some 52) (v := ?_) (a' := ?_) (bs_ 41 0x7ffff) rfl rfl (by kernel_rfl) (fun _ _ _ h => h) (Or.inl ⟨by rfl, ?_⟩) ?_ ?_; rotate_left; (intro w'; go_simp; with_reducible rfl); rotate_left; (simp only [nm_]; rfl)
          refine pure_ (i := 19) (N := some 53) (v := ?_) (a' := ?_) (bs_ 41 0xfffff) rfl rfl (by kernel_rfl) (fun _ _ _ h => h) (Or.inl ⟨by rfl, ?_⟩) ?_ ?_; rotate_left; (intro w'; go_simp; with_reducible rfl); rotate_left; (simp only [nm_]; rfl)
          refine take_ (i := 20) (N := some 54) (v := ?_) (a' := ?_) (bs_ 41 0x1fffff) rfl rfl (by kernel_rfl) (fun _ _ _ h => h) (Or.inl ⟨by rfl, ?_⟩) hHeld ?_ ?_; rotate_left; (rintro w' ⟨s0, s1, s2, s3, s4⟩; go_simp; with_reducible rfl); rotate_left; (simp only [nm_]; rfl)
          refine pure_ (i := 21) (N := some 55) (v := ?_) (a' := ?_) (bs_ 41 0x3fffff) rfl rfl (by kernel_rfl) (fun _ _ _ h => h) (Or.inl ⟨by rfl, ?_⟩) ?_ ?_; rotate_left; (intro w'; go_simp; with_reducible rfl); rotate_left; (simp only [nm_]; rfl)
          refine pure_ (i := 22) (N := some 56) (v := ?_) (a' := ?_) (bs_ 41 0x7fffff) rfl rfl (by kernel_rfl) (fun _ _ _ h => h) (Or.inl ⟨by rfl, ?_⟩) ?_ ?_; rotate_left; (intro w'; go_simp; with_reducible rfl); rotate_left; (simp only [nm_]; rfl)
          refine pure_ (i := 23) (N := some 57) (v := ?_) (a' := ?_) (bs_ 41 0xffffff) rfl rfl (by kernel_rfl) (fun _ _ _ h => h) (Or.inl ⟨by rfl, ?_⟩) ?_ ?_; rotate_left; (intro w'; go_simp; with_reducible rfl); rotate_left; (simp only [nm_]; rfl)
          refine pure_ (i := 24) (N := some 58) (v := ?_) (a' := ?_) (bs_ 41 0x1ffffff) rfl rfl (by kernel_rfl) (fun _ _ _ h => h) (Or.inl ⟨by rfl, ?_⟩) ?_ ?_; rotate_left; (intro w'; go_simp; with_reducible rfl); rotate_left; (simp only [nm_]; rfl)
          refine pure_ (i := 25) (N := some 59) (v := ?_) (a' := ?_) (bs_ 41 0x3ffffff) rfl rfl (by kernel_rfl) (fun _ _ _ h => h) (Or.inl ⟨by rfl, ?_⟩) ?_ ?_; rotate_left; (intro w'; go_simp; with_reducible rfl); rotate_left; (simp only [nm_]; rfl)
          refine pure_ (i := 26) (N := some 60) (v := ?_) (a' := ?_) (bs_ 41 0x7ffffff) rfl rfl (by kernel_rfl) (fun _ _ _ h => h) (Or.inl ⟨by rfl, ?_⟩) ?_ ?_; rotate_left; (intro w'; go_simp; with_reducible rfl); rotate_left; (simp only [nm_]; rfl)
          refine pure_ (i := 27) (N := some 61) (v := ?_) (a' := ?_) (bs_ 41 0xfffffff) rfl rfl (by kernel_rfl) (fun _ _ _ h => h) (Or.inl ⟨by rfl, ?_⟩) ?_ ?_; rotate_left; (intro w'; go_simp; with_reducible rfl); rotate_left; (simp only [nm_]; rfl)
          refine pure_ (i := 28) (N := some 62) (v := undef) (a' := ?_) (bs_ 41 0x1fffffff) rfl rfl (by kernel_rfl) (fun _ _ _ h => h) (Or.inr ⟨by rfl, rfl⟩) ?_ ?_
          rotate_left
          ·simp only [nm_]
           rfl
          refine pure_ (i := 29) (N := some 63) (v := undef) (a' := ?_) (bs_ 41 0x3fffffff) rfl rfl (by kernel_rfl) (fun _ _ _ h => h) (Or.inr ⟨by rfl, rfl⟩) ?_ ?_
          rotate_left
          ·simp only [nm_]
           rfl
          refine pure_ (i := 30) (N := some 64) (v := undef) (a' := ?_) (bs_ 41 0x7fffffff) rfl rfl (by kernel_rfl) (fun _ _ _ h => h) (Or.inr ⟨by rfl, rfl⟩) ?_ ?_
          rotate_left
          ·simp only [nm_]
           rfl
          refine pure_ (i := 31) (N := some 65) (v := undef) (a' := ?_) (bs_ 41 0xffffffff) rfl rfl (by kernel_rfl) (fun _ _ _ h => h) (Or.inr ⟨by rfl, rfl⟩) ?_ ?_
          rotate_left
          ·simp only [nm_]
           rfl
          refine pure_ (i := 32) (N := some 66) (v := undef) (a' := ?_) (bs_ 41 0x1ffffffff) rfl rfl (by kernel_rfl) (fun _ _ _ h => h) (Or.inr ⟨by rfl, rfl⟩) ?_ ?_
          rotate_left
          ·simp only [nm_]
           rfl
          refine pure_ (i := 33) (N := some 67) (v := undef) (a' := ?_) (bs_ 41 0x3ffffffff) rfl rfl (by kernel_rfl) (fun _ _ _ h => h) (Or.inr ⟨by rfl, rfl⟩) ?_ ?_
          rotate_left
          ·simp only [nm_]
           rfl
          refine pure_ (i := 34) (N := some 68) (v := undef) (a' := ?_) (bs_ 41 0x7ffffffff) rfl rfl (by kernel_rfl) (fun _ _ _ h => h) (Or.inr ⟨by rfl, rfl⟩) ?_ ?_
          rotate_left
          ·simp only [nm_]
           rfl
          refine pure_ (i := 35) (N := some 69) (v := undef) (a' := ?_) (bs_ 41 0xfffffffff) rfl rfl (by kernel_rfl) (fun _ _ _ h => h) (Or.inr ⟨by rfl, rfl⟩) ?_ ?_
          rotate_left
          ·simp only [nm_]
           rfl
          refine pure_ (i := 36) (N := some 70) (v := undef) (a' := ?_) (bs_ 41 0x1fffffffff) rfl rfl (by kernel_rfl) (fun _ _ _ h => h) (Or.inr ⟨by rfl, rfl⟩) ?_ ?_
          rotate_left
          ·simp only [nm_]
           rfl
          refine pure_ (i := 37) (N := some 71) (v := undef) (a' := ?_) (bs_ 41 0x3fffffffff) rfl rfl (by kernel_rfl) (fun _ _ _ h => h) (Or.inr ⟨by rfl, rfl⟩) ?_ ?_
          rotate_left
          ·simp only [nm_]
           rfl
          refine pure_ (i := 38) (N := some 72) (v := undef) (a' := ?_) (bs_ 41 0x7fffffffff) rfl rfl (by kernel_rfl) (fun _ _ _ h => h) (Or.inr ⟨by rfl, rfl⟩) ?_ ?_
          rotate_left
          ·simp only [nm_]
           rfl
          refine pure_ (i := 39) (N := some 73) (v := ?_) (a' := ?_) (bs_ 41 0xffffffffff) rfl rfl (by kernel_rfl) (fun _ _ _ h => h) (Or.inl ⟨by rfl, ?_⟩) ?_ ?_; rotate_left; (intro w'; go_simp; with_reducible rfl); rotate_left; (simp only [nm_]; rfl)
          refine pure_ (i := 40) (N := some 74) (v := ?_) (a' := ?_) (bs_ 41 0x1ffffffffff) rfl rfl (by kernel_rfl) (fun _ _ _ h => h) (Or.inl ⟨by rfl, ?_⟩) ?_ ?_; rotate_left; (intro w'; go_simp; with_reducible rfl); rotate_left; (simp only [nm_]; rfl)
          refine done_ (by kernel_rfl) ?_
          have kBx := kBd
          have kbx := kbd
          have hMx := hMd
          obtain ⟨sx0, sx1, sx2, sx3, sx4⟩ := hHeld
          go_wp2_with (refine update_dir hMx rfl (.tmp 75) (.tmp 77) (.tmp 79) rfl rfl rfl rfl HPS.out HMAX.out ?_; intro W5 hm5 hg5; refine Stop.out ?_)
          constructor
          have hcx := HCX.out
          go_wp2_with (fail)
          go_roundg (l0.length - (i + 1))
          case measure => omega
          case rel => exact ⟨i + 1, a, rfl, by rw [HWI.out], Cs_succ a HC.out (HX.out ▸ hcx), hm5.congr (fun s => dir_step a HC.out (HX.out ▸ hcx) (by rw [← HX.out, HPE.out]) (by rw [← HX.out, HDE.out]) s), (hg5.block _ (blk_lt kbx) (by intro e; injection e with e; omega)).trans kbx, kBx.grown hg5 (by have := kBx.size; omega) (by intro k hk; injection hk with hk; omega)⟩
         ·obtain ⟨m, hm⟩ : ∃ m, i = m + 1 := ⟨i - 1, by omega⟩
          have c3 : decide ((0 : Int) < (i : Int)) = true := decide_eq_true (by omega)
          have hmr : m < l0.length := by omega
          obtain ⟨ad', A8, c8, had, e0, _, _, _, _⟩ := atT (Kd.C_below HR.out kBd) m hmr
          obtain rfl : ad = ad' := by injection had
          have hqs : l0[m].f0.size < 4294967280 := HS.out _ (List.getElem_mem hmr)
          obtain ⟨q, hq⟩ : ∃ q, q = l0[m].f0 := ⟨_, rfl⟩
          rw [← hq] at e0 hqs
          have sd5 : W2.drew.cell? (ad.add (m * 3)) = some (.string q) := e0
          obtain ⟨cc, hcc⟩ : ∃ cc, cc = cL (sp q.data.toList) (sp p.data.toList) := ⟨_, rfl⟩
          have kC : ∀ W, Calls Tryd.prog 51 #[.string q, .string p] W fun e w' => e = .returned (.int .i64 cc) ∧ Below W.heap.size W w' := fun W => path_Cmp.calls q p cc W (by unfold path_Cmp.f; rw [if_pos (by omega), if_pos (by have := HXS.out; omega), hcc])
          have HLT : Aside0 (cc < 0 ↔ ltP q p) := ⟨by rw [hcc]; exact Iff.rfl⟩
          have HQ := Aside0.mk hq
          have HM := Aside0.mk hm
          obtain ⟨kk, hkk⟩ : ∃ kk : Int, kk = (i : Int) := ⟨_, rfl⟩
          have HKK := Aside0.mk hkk
          have p2 : wrap64 (kk - 1) = (m : Int) := by unfold wrap64; omega
          have p3 : decide ((m : Int) < (l0.length : Int)) = true := decide_eq_true (by omega)
          have p4 : decide (0 ≤ (m : Int)) = true := decide_eq_true (by omega)
          rw [← hkk] at c3 ⊢
          have HWI2 : Aside0 (wrap64 (kk + 1) = ((i + 1 : Nat) : Int)) := ⟨by rw [hkk]; exact HWI.out⟩
          clear HWI hq hm hcc hqs e0 had hkk hi0 a1 a2
          have HWI := HWI2
          clear HWI2
          refine start_ (n := 41) (S := fun w' => (Instr.lookup 82 (.map (some mb)) (.string up) false).run Tryd.prog w' = .ok (.bool true) w' ∧ w'.cell? ⟨eb, 1, none⟩ = some (.bool false) ∧ w'.cell? ⟨eb, 2, none⟩ = some (.slice A9 n2 c9) ∧ w'.cell? ⟨eb, 0, none⟩ = some (.string p) ∧ w'.cell? ⟨w.heap.size, 0, none⟩ = some (.slice (some ad) l0.length c0) ∧ w'.cell? (ad.add (m * 3)) = some (.string q)) (ds := []) (bs_ 41 0x0) (by kernel_rfl) rfl rfl ⟨sd0, sd1, sd2, sd3, sd4, sd5⟩ (fun hHeld => ?_)
          generalize W2.drew = wd at sd0 sd1 sd2 sd3 sd4 sd5 hMd kbd kBd hHeld ⊢
          refine pure_ (i := 0) (N := some 34) (v := ?_) (a' := ?_) (bs_ 41 0x1) rfl rfl (by kernel_rfl) (fun _ _ _ h => h) (Or.inl ⟨by rfl, ?_⟩) ?_ ?_; rotate_left; (intro w'; go_simp; with_reducible rfl); rotate_left; (simp only [nm_]; rfl)
          refine pure_ (i := 1) (N := some 35) (v := ?_) (a' := ?_) (bs_ 41 0x3) rfl rfl (by kernel_rfl) (fun _ _ _ h => h) (Or.inl ⟨by rfl, ?_⟩) ?_ ?_; rotate_left; (intro w'; go_simp; with_reducible rfl); rotate_left; (simp only [nm_]; rfl)
          refine pure_ (i := 2) (N := some 36) (v := ?_) (a' := ?_) (bs_ 41 0x7) rfl rfl (by kernel_rfl) (fun _ _ _ h => h) (Or.inl ⟨by rfl, ?_⟩) ?_ ?_; rotate_left; (intro w'; go_simp; with_reducible rfl); rotate_left; (simp only [nm_]; rfl)
          refine pure_ (i := 3) (N := some 37) (v := ?_) (a' := ?_) (bs_ 41 0xf) rfl rfl (by kernel_rfl) (fun _ _ _ h => h) (Or.inl ⟨by rfl, ?_⟩) ?_ ?_; rotate_left; (intro w'; go_simp; with_reducible rfl); rotate_left; (simp only [nm_]; rfl)
          refine pure_ (i := 4) (N := some 38) (v := ?_) (a' := ?_) (bs_ 41 0x1f) rfl rfl (by kernel_rfl) (fun _ _ _ h => h) (Or.inl ⟨by rfl, ?_⟩) ?_ ?_; rotate_left; (intro w'; go_simp; with_reducible rfl); rotate_left; (simp only [nm_]; rfl)
          refine take_ (i := 5) (N := some 39) (v := ?_) (a' := ?_) (bs_ 41 0x3f) rfl rfl (by kernel_rfl) (fun _ _ _ h => h) (Or.inl ⟨by rfl, ?_⟩) hHeld ?_ ?_; rotate_left; (rintro w' ⟨s0, s1, s2, s3, s4, s5⟩; go_simp; with_reducible rfl); rotate_left; (simp only [nm_]; rfl)
          refine pure_ (i := 6) (N := some 40) (v := ?_) (a' := ?_) (bs_ 41 0x7f) rfl rfl (by kernel_rfl) (fun _ _ _ h => h) (Or.inl ⟨by rfl, ?_⟩) ?_ ?_; rotate_left; (intro w'; go_simp; with_reducible rfl); rotate_left; (simp only [nm_]; rfl)
          refine pure_ (i := 7) (N := some 41) (v := ?_) (a' := ?_) (bs_ 41 0xff) rfl rfl (by kernel_rfl) (fun _ _ _ h => h) (Or.inl ⟨by rfl, ?_⟩) ?_ ?_; rotate_left; (intro w'; go_simp; with_reducible rfl); rotate_left; (simp only [nm_]; rfl)
          refine pure_ (i := 8) (N := some 42) (v := ?_) (a' := ?_) (bs_ 41 0x1ff) rfl rfl (by kernel_rfl) (fun _ _ _ h => h) (Or.inl ⟨by rfl, ?_⟩) ?_ ?_; rotate_left; (intro w'; go_simp; with_reducible rfl); rotate_left; (simp only [nm_]; rfl)
          refine pure_ (i := 9) (N := some 43) (v := ?_) (a' := ?_) (bs_ 41 0x3ff) rfl rfl (by kernel_rfl) (fun _ _ _ h => h) (Or.inl ⟨by rfl, ?_⟩) ?_ ?_; rotate_left; (intro w'; go_simp; with_reducible rfl); rotate_left; (simp only [nm_]; rfl)
          refine take_ (i := 10) (N := some 44) (v := ?_) (a' := ?_) (bs_ 41 0x7ff) rfl rfl (by kernel_rfl) (fun _ _ _ h => h) (Or.inl ⟨by rfl, ?_⟩) hHeld ?_ ?_; rotate_left; (rintro w' ⟨s0, s1, s2, s3, s4, s5⟩; go_simp; with_reducible rfl); rotate_left; (simp only [nm_]; rfl)
          refine pure_ (i := 11) (N := some 45) (v := ?_) (a' := ?_) (bs_ 41 0xfff) rfl rfl (by kernel_rfl) (fun _ _ _ h => h) (Or.inl ⟨by rfl, ?_⟩) ?_ ?_; rotate_left; (intro w'; go_simp; with_reducible rfl); rotate_left; (simp only [nm_]; rfl)
          refine pure_ (i := 12) (N := some 46) (v := undef) (a' := ?_) (bs_ 41 0x1fff) rfl rfl (by kernel_rfl) (fun _ _ _ h => h) (Or.inr ⟨by rfl, rfl⟩) ?_ ?_
          rotate_left
          ·simp only [nm_]
           rfl
          refine pure_ (i := 13) (N := some 47) (v := undef) (a' := ?_) (bs_ 41 0x3fff) rfl rfl (by kernel_rfl) (fun _ _ _ h => h) (Or.inr ⟨by rfl, rfl⟩) ?_ ?_
          rotate_left
          ·simp only [nm_]
           rfl
          refine pure_ (i := 14) (N := some 48) (v := undef) (a' := ?_) (bs_ 41 0x7fff) rfl rfl (by kernel_rfl) (fun _ _ _ h => h) (Or.inr ⟨by rfl, rfl⟩) ?_ ?_
          rotate_left
          ·simp only [nm_]
           rfl
          refine pure_ (i := 15) (N := some 49) (v := undef) (a' := ?_) (bs_ 41 0xffff) rfl rfl (by kernel_rfl) (fun _ _ _ h => h) (Or.inr ⟨by rfl, rfl⟩) ?_ ?_
          rotate_left
          ·simp only [nm_]
           rfl
          refine pure_ (i := 16) (N := some 50) (v := ?_) (a' := ?_) (bs_ 41 0x1ffff) rfl rfl (by kernel_rfl) (fun _ _ _ h => h) (Or.inl ⟨by rfl, ?_⟩) ?_ ?_; rotate_left; (intro w'; go_simp; with_reducible rfl); rotate_left; (simp only [nm_]; rfl)
          refine pure_ (i := 17) (N := some 51) (v := ?_) (a' := ?_) (bs_ 41 0x3ffff) rfl rfl (by kernel_rfl) (fun _ _ _ h => h) (Or.inl ⟨by rfl, ?_⟩) ?_ ?_; rotate_left; (intro w'; go_simp; with_reducible rfl); rotate_left; (simp only [nm_]; rfl)
          refine pure_ (i := 18) (N := some 52) (v := ?_) (a' := ?_) (bs_ 41 0x7ffff) rfl rfl (by kernel_rfl) (fun _ _ _ h => h) (Or.inl ⟨by rfl, ?_⟩) ?_ ?_; rotate_left; (intro w'; go_simp; with_reducible rfl); rotate_left; (simp only [nm_]; rfl)
          refine pure_ (i := 19) (N := some 53) (v := ?_) (a' := ?_) (bs_ 41 0xfffff) rfl rfl (by kernel_rfl) (fun _ _ _ h => h) (Or.inl ⟨by rfl, ?_⟩) ?_ ?_; rotate_left; (intro w'; go_simp; with_reducible rfl); rotate_left; (simp only [nm_]; rfl)
          refine take_ (i := 20) (N := some 54) (v := ?_) (a' := ?_) (bs_ 41 0x1fffff) rfl rfl (by kernel_rfl) (fun _ _ _ h => h) (Or.inl ⟨by rfl, ?_⟩) hHeld ?_ ?_; rotate_left; (rintro w' ⟨s0, s1, s2, s3, s4, s5⟩; go_simp; with_reducible rfl); rotate_left; (simp only [nm_]; rfl)
          refine pure_ (i := 21) (N := some 55) (v := ?_) (a' := ?_) (bs_ 41 0x3fffff) rfl rfl (by kernel_rfl) (fun _ _ _ h => h) (Or.inl ⟨by rfl, ?_⟩) ?_ ?_; rotate_left; (intro w'; go_simp; with_reducible rfl); rotate_left; (simp only [nm_]; rfl)
          refine pure_ (i := 22) (N := some 56) (v := ?_) (a' := ?_) (bs_ 41 0x7fffff) rfl rfl (by kernel_rfl) (fun _ _ _ h => h) (Or.inl ⟨by rfl, ?_⟩) ?_ ?_; rotate_left; (intro w'; go_simp; with_reducible rfl); rotate_left; (simp only [nm_]; rfl)
          refine pure_ (i := 23) (N := some 57) (v := ?_) (a' := ?_) (bs_ 41 0xffffff) rfl rfl (by kernel_rfl) (fun _ _ _ h => h) (Or.inl ⟨by rfl, ?_⟩) ?_ ?_; rotate_left; (intro w'; go_simp; with_reducible rfl); rotate_left; (simp only [nm_]; rfl)
          refine pure_ (i := 24) (N := some 58) (v := ?_) (a' := ?_) (bs_ 41 0x1ffffff) rfl rfl (by kernel_rfl) (fun _ _ _ h => h) (Or.inl ⟨by rfl, ?_⟩) ?_ ?_; rotate_left; (intro w'; go_simp; with_reducible rfl); rotate_left; (simp only [nm_]; rfl)
          refine pure_ (i := 25) (N := some 59) (v := ?_) (a' := ?_) (bs_ 41 0x3ffffff) rfl rfl (by kernel_rfl) (fun _ _ _ h => h) (Or.inl ⟨by rfl, ?_⟩) ?_ ?_; rotate_left; (intro w'; go_simp; with_reducible rfl); rotate_left; (simp only [nm_]; rfl)
          refine pure_ (i := 26) (N := some 60) (v := ?_) (a' := ?_) (bs_ 41 0x7ffffff) rfl rfl (by kernel_rfl) (fun _ _ _ h => h) (Or.inl ⟨by rfl, ?_⟩) ?_ ?_; rotate_left; (intro w'; go_simp; with_reducible rfl); rotate_left; (simp only [nm_]; rfl)
          refine pure_ (i := 27) (N := some 61) (v := ?_) (a' := ?_) (bs_ 41 0xfffffff) rfl rfl (by kernel_rfl) (fun _ _ _ h => h) (Or.inl ⟨by rfl, ?_⟩) ?_ ?_; rotate_left; (intro w'; go_simp; with_reducible rfl); rotate_left; (simp only [nm_]; rfl)
          refine pure_ (i := 28) (N := some 62) (v := ?_) (a' := ?_) (bs_ 41 0x1fffffff) rfl rfl (by kernel_rfl) (fun _ _ _ h => h) (Or.inl ⟨by rfl, ?_⟩) ?_ ?_; rotate_left; (intro w'; go_simp; with_reducible rfl); rotate_left; (simp only [nm_]; rfl)
          refine pure_ (i := 30) (N := some 64) (v := ?_) (a' := ?_) (bs_ 41 0x5fffffff) rfl rfl (by kernel_rfl) (fun _ _ _ h => h) (Or.inl ⟨by rfl, ?_⟩) ?_ ?_; rotate_left; (intro w'; go_simp; with_reducible rfl); rotate_left; (simp only [nm_]; rfl)
          refine pure_ (i := 31) (N := some 65) (v := ?_) (a' := ?_) (bs_ 41 0xdfffffff) rfl rfl (by kernel_rfl) (fun _ _ _ h => h) (Or.inl ⟨by rfl, ?_⟩) ?_ ?_; rotate_left; (intro w'; go_simp; with_reducible rfl); rotate_left; (simp only [nm_]; rfl)
          refine pure_ (i := 35) (N := some 69) (v := ?_) (a' := ?_) (bs_ 41 0x8dfffffff) rfl rfl (by kernel_rfl) (fun _ _ _ h => h) (Or.inl ⟨by rfl, ?_⟩) ?_ ?_; rotate_left; (intro w'; go_simp; with_reducible rfl); rotate_left; (simp only [nm_]; rfl)
          refine take_ (i := 29) (N := some 63) (v := ?_) (a' := ?_) (bs_ 41 0x8ffffffff) rfl rfl (by kernel_rfl) (fun _ _ _ h => h) (Or.inl ⟨by rfl, ?_⟩) hHeld ?_ ?_; rotate_left; (rintro w' ⟨s0, s1, s2, s3, s4, s5⟩; go_simp; with_reducible rfl); rotate_left; (simp only [nm_]; rfl)
          refine pure_ (i := 32) (N := some 66) (v := ?_) (a' := ?_) (bs_ 41 0x9ffffffff) rfl rfl (by kernel_rfl) (fun _ _ _ h => h) (Or.inl ⟨by rfl, ?_⟩) ?_ ?_; rotate_left; (intro w'; go_simp; with_reducible rfl); rotate_left; (simp only [nm_]; rfl)
          refine pure_ (i := 33) (N := some 67) (v := ?_) (a' := ?_) (bs_ 41 0xbffffffff) rfl rfl (by kernel_rfl) (fun _ _ _ h => h) (Or.inl ⟨by rfl, ?_⟩) ?_ ?_; rotate_left; (intro w'; go_simp; with_reducible rfl); rotate_left; (simp only [nm_]; rfl)
          refine take_ (i := 34) (N := some 68) (v := ?_) (a' := ?_) (bs_ 41 0xfffffffff) rfl rfl (by kernel_rfl) (fun _ _ _ h => h) (Or.inl ⟨by rfl, ?_⟩) hHeld ?_ ?_; rotate_left; (rintro w' ⟨s0, s1, s2, s3, s4, s5⟩; go_simp; with_reducible rfl); rotate_left; (simp only [nm_]; rfl)
          refine take_ (i := 36) (N := some 70) (v := ?_) (a' := ?_) (bs_ 41 0x1fffffffff) rfl rfl (by kernel_rfl) (fun _ _ _ h => h) (Or.inl ⟨by rfl, ?_⟩) hHeld ?_ ?_; rotate_left; (rintro w' ⟨s0, s1, s2, s3, s4, s5⟩; go_simp; with_reducible rfl); rotate_left; (simp only [nm_]; rfl)
          refine one_ (i := 37) (N := some 71) (bs_ 41 0x3fffffffff) rfl rfl (by kernel_rfl) (by decide) (fun K hK => ?_)
          refine goes_ Tryd.func51 (by kernel_rfl) rfl #[.string q, .string p] (by rfl) rfl rfl (by simp only [List.map_toArray, List.map_cons, List.map_nil]; rfl) ?_
          with_reducible refine (kC wd).mono ?_
          rintro e w3 ⟨rfl, hb3⟩
          refine ⟨_, rfl, ?_⟩
          refine hK.out _ _ ⟨(by rw [← HG.out]; exact (hMd.below hb3).look HUP.out), (Below.cell hb3 (cell_lt2 sd1)).trans sd1, (Below.cell hb3 (cell_lt2 sd2)).trans sd2, (Below.cell hb3 (cell_lt2 sd3)).trans sd3, (Below.cell hb3 (cell_lt2 sd4)).trans sd4, (Below.cell hb3 (cell_lt2 sd5)).trans sd5⟩ (fun hHeld => ?_)
          clear hK K
          refine norm_ (a' := ?_) ?_ ?_
          rotate_left
          ·show Act.put _ (some 71) _ = _
           simp only [nm_]
           rfl
          refine pure_ (i := 38) (N := some 72) (v := ?_) (a' := ?_) (bs_ 41 0x7fffffffff) rfl rfl (by kernel_rfl) (fun _ _ _ h => h) (Or.inl ⟨by rfl, ?_⟩) ?_ ?_; rotate_left; (intro w'; go_simp; with_reducible rfl); rotate_left; (simp only [nm_]; rfl)
          refine pure_ (i := 39) (N := some 73) (v := ?_) (a' := ?_) (bs_ 41 0xffffffffff) rfl rfl (by kernel_rfl) (fun _ _ _ h => h) (Or.inl ⟨by rfl, ?_⟩) ?_ ?_; rotate_left; (intro w'; go_simp; with_reducible rfl); rotate_left; (simp only [nm_]; rfl)
          refine pure_ (i := 40) (N := some 74) (v := ?_) (a' := ?_) (bs_ 41 0x1ffffffffff) rfl rfl (by kernel_rfl) (fun _ _ _ h => h) (Or.inl ⟨by rfl, ?_⟩) ?_ ?_; rotate_left; (intro w'; go_simp; with_reducible rfl); rotate_left; (simp only [nm_]; rfl)
          refine done_ (by kernel_rfl) ?_
          have kBx := kBd.trans (hb3.mono kBd.size)
          have kbx := (hb3.block _ (blk_lt kbd)).trans kbd
          have hMx := hMd.below hb3
          by_cases hc0 : 0 ≤ cc
          ·have p5 : decide (0 ≤ cc) = true := decide_eq_true hc0
           have HBAD : Aside0 (decide (GT30 l0) = false) := ⟨HBAD0.out fun c => by have h := c.lt m HM.out hmr; rw [← HQ.out, HPE.out] at h; have := HLT.out.2 h; omega⟩
           go_wp2_with (fail)
           go_ret
           exact ⟨by rw [HRES.out, HBAD.out]; rfl, kBx⟩
          ·have p5 : decide (0 ≤ cc) = false := decide_eq_false hc0
           have HCX : Aside0 (Cx l0 i X) := ⟨⟨by rw [HPE.out]; exact HGP.out, by rw [HPE.out, ← HUPE.out]; exact of_decide_eq_true HG.out, HDB.out, HSZ.out, fun q' hq' hl' => by
            obtain rfl : q' = m := by have := HM.out; omega
            rw [← HQ.out, HPE.out]
            exact HLT.out.1 (by omega)⟩⟩
           obtain ⟨sx0, sx1, sx2, sx3, sx4, sx5⟩ := hHeld
           go_wp2_with (refine update_dir hMx rfl (.tmp 75) (.tmp 77) (.tmp 79) rfl rfl rfl rfl HPS.out HMAX.out ?_; intro W5 hm5 hg5; refine Stop.out ?_)
           constructor
           have hcx := HCX.out
           go_wp2_with (fail)
           go_roundg (l0.length - (i + 1))
           case measure => omega
           case rel => exact ⟨i + 1, a, rfl, by rw [HWI.out], Cs_succ a HC.out (HX.out ▸ hcx), hm5.congr (fun s => dir_step a HC.out (HX.out ▸ hcx) (by rw [← HX.out, HPE.out]) (by rw [← HX.out, HDE.out]) s), (hg5.block _ (blk_lt kbx) (by intro e; injection e with e; omega)).trans kbx, kBx.grown hg5 (by have := kBx.size; omega) (by intro k hk; injection hk with hk; omega)⟩
      ·have hg2 : decide (dirAt l0 i up) = false := by simpa using hg1
       have HBAD : Aside0 (decide (GT30 l0) = false) := ⟨HBAD0.out fun c => by have h := c.up; rw [HPE.out, ← HUPE.out] at h; rw [decide_eq_true h] at hg2; cases hg2⟩
       have HG := Aside0.mk hg2
       have sd0 : (Instr.lookup 82 (.map (some mb)) (.string up) false).run Tryd.prog W2.drew = .ok (.bool false) W2.drew := by have h := hMd.look (s := up) HUP.out; simp only [hg2] at h; exact h
       clear hg1 hg2
       refine start_ (n := 41) (S := fun w' => (Instr.lookup 82 (.map (some mb)) (.string up) false).run Tryd.prog w' = .ok (.bool false) w' ∧ w'.cell? ⟨eb, 1, none⟩ = some (.bool dd) ∧ w'.cell? ⟨eb, 2, none⟩ = some (.slice A9 n2 c9) ∧ w'.cell? ⟨eb, 0, none⟩ = some (.string p) ∧ w'.cell? ⟨w.heap.size, 0, none⟩ = some (.slice (some ad) l0.length c0)) (ds := []) (bs_ 41 0x0) (by kernel_rfl) rfl rfl ⟨sd0, sd1, sd2, sd3, sd4⟩ (fun hHeld => ?_)
       generalize W2.drew = wd at sd0 sd1 sd2 sd3 sd4 hMd kbd kBd hHeld ⊢
       refine pure_ (i := 0) (N := some 34) (v := ?_) (a' := ?_) (bs_ 41 0x1) rfl rfl (by kernel_rfl) (fun _ _ _ h => h) (Or.inl ⟨by rfl, ?_⟩) ?_ ?_; rotate_left; (intro w'; go_simp; with_reducible rfl); rotate_left; (simp only [nm_]; rfl)
       refine pure_ (i := 1) (N := some 35) (v := ?_) (a' := ?_) (bs_ 41 0x3) rfl rfl (by kernel_rfl) (fun _ _ _ h => h) (Or.inl ⟨by rfl, ?_⟩) ?_ ?_; rotate_left; (intro w'; go_simp; with_reducible rfl); rotate_left; (simp only [nm_]; rfl)
       refine pure_ (i := 2) (N := some 36) (v := ?_) (a' := ?_) (bs_ 41 0x7) rfl rfl (by kernel_rfl) (fun _ _ _ h => h) (Or.inl ⟨by rfl, ?_⟩) ?_ ?_; rotate_left; (intro w'; go_simp; with_reducible rfl); rotate_left; (simp only [nm_]; rfl)
       refine pure_ (i := 3) (N := some 37) (v := ?_) (a' := ?_) (bs_ 41 0xf) rfl rfl (by kernel_rfl) (fun _ _ _ h => h) (Or.inl ⟨by rfl, ?_⟩) ?_ ?_; rotate_left; (intro w'; go_simp; with_reducible rfl); rotate_left; (simp only [nm_]; rfl)
       refine pure_ (i := 4) (N := some 38) (v := ?_) (a' := ?_) (bs_ 41 0x1f) rfl rfl (by kernel_rfl) (fun _ _ _ h => h) (Or.inl ⟨by rfl, ?_⟩) ?_ ?_; rotate_left; (intro w'; go_simp; with_reducible rfl); rotate_left; (simp only [nm_]; rfl)
       refine take_ (i := 5) (N := some 39) (v := ?_) (a' := ?_) (bs_ 41 0x3f) rfl rfl (by kernel_rfl) (fun _ _ _ h => h) (Or.inl ⟨by rfl, ?_⟩) hHeld ?_ ?_; rotate_left; (rintro w' ⟨s0, s1, s2, s3, s4⟩; go_simp; with_reducible rfl); rotate_left; (simp only [nm_]; rfl)
       refine pure_ (i := 6) (N := some 40) (v := ?_) (a' := ?_) (bs_ 41 0x7f) rfl rfl (by kernel_rfl) (fun _ _ _ h => h) (Or.inl ⟨by rfl, ?_⟩) ?_ ?_; rotate_left; (intro w'; go_simp; with_reducible rfl); rotate_left; (simp only [nm_]; rfl)
       refine pure_ (i := 7) (N := some 41) (v := ?_) (a' := ?_) (bs_ 41 0xff) rfl rfl (by kernel_rfl) (fun _ _ _ h => h) (Or.inl ⟨by rfl, ?_⟩) ?_ ?_; rotate_left; (intro w'; go_simp; with_reducible rfl); rotate_left; (simp only [nm_]; rfl)
       refine pure_ (i := 8) (N := some 42) (v := ?_) (a' := ?_) (bs_ 41 0x1ff) rfl rfl (by kernel_rfl) (fun _ _ _ h => h) (Or.inl ⟨by rfl, ?_⟩) ?_ ?_; rotate_left; (intro w'; go_simp; with_reducible rfl); rotate_left; (simp only [nm_]; rfl)
       refine pure_ (i := 9) (N := some 43) (v := undef) (a' := ?_) (bs_ 41 0x3ff) rfl rfl (by kernel_rfl) (fun _ _ _ h => h) (Or.inr ⟨by rfl, rfl⟩) ?_ ?_
       rotate_left
       ·simp only [nm_]
        rfl
       refine pure_ (i := 10) (N := some 44) (v := undef) (a' := ?_) (bs_ 41 0x7ff) rfl rfl (by kernel_rfl) (fun _ _ _ h => h) (Or.inr ⟨by rfl, rfl⟩) ?_ ?_
       rotate_left
       ·simp only [nm_]
        rfl
       refine pure_ (i := 11) (N := some 45) (v := undef) (a' := ?_) (bs_ 41 0xfff) rfl rfl (by kernel_rfl) (fun _ _ _ h => h) (Or.inr ⟨by rfl, rfl⟩) ?_ ?_
       rotate_left
       ·simp only [nm_]
        rfl
       refine pure_ (i := 12) (N := some 46) (v := undef) (a' := ?_) (bs_ 41 0x1fff) rfl rfl (by kernel_rfl) (fun _ _ _ h => h) (Or.inr ⟨by rfl, rfl⟩) ?_ ?_
       rotate_left
       ·simp only [nm_]
        rfl
       refine pure_ (i := 13) (N := some 47) (v := undef) (a' := ?_) (bs_ 41 0x3fff) rfl rfl (by kernel_rfl) (fun _ _ _ h => h) (Or.inr ⟨by rfl, rfl⟩) ?_ ?_
       rotate_left
       ·simp only [nm_]
        rfl
       refine pure_ (i := 14) (N := some 48) (v := undef) (a' := ?_) (bs_ 41 0x7fff) rfl rfl (by kernel_rfl) (fun _ _ _ h => h) (Or.inr ⟨by rfl, rfl⟩) ?_ ?_
       rotate_left
       ·simp only [nm_]
        rfl
       refine pure_ (i := 15) (N := some 49) (v := undef) (a' := ?_) (bs_ 41 0xffff) rfl rfl (by kernel_rfl) (fun _ _ _ h => h) (Or.inr ⟨by rfl, rfl⟩) ?_ ?_
       rotate_left
       ·simp only [nm_]
        rfl
       refine pure_ (i := 16) (N := some 50) (v := undef) (a' := ?_) (bs_ 41 0x1ffff) rfl rfl (by kernel_rfl) (fun _ _ _ h => h) (Or.inr ⟨by rfl, rfl⟩) ?_ ?_
       rotate_left
       ·simp only [nm_]
        rfl
       refine pure_ (i := 17) (N := some 51) (v := ?_) (a' := ?_) (bs_ 41 0x3ffff) rfl rfl (by kernel_rfl) (fun _ _ _ h => h) (Or.inl ⟨by rfl, ?_⟩) ?_ ?_; rotate_left; (intro w'; go_simp; with_reducible rfl); rotate_left; (simp only [nm_]; rfl)
       refine pure_ (i := 18) (N := some 52) (v := ?_) (a' := ?_) (bs_ 41 0x7ffff) rfl rfl (by kernel_rfl) (fun _ _ _ h => h) (Or.inl ⟨by rfl, ?_⟩) ?_ ?_; rotate_left; (intro w'; go_simp; with_reducible rfl); rotate_left; (simp only [nm_]; rfl)
       refine pure_ (i := 19) (N := some 53) (v := undef) (a' := ?_) (bs_ 41 0xfffff) rfl rfl (by kernel_rfl) (fun _ _ _ h => h) (Or.inr ⟨by rfl, rfl⟩) ?_ ?_
       rotate_left
       ·simp only [nm_]
        rfl
       refine pure_ (i := 20) (N := some 54) (v := undef) (a' := ?_) (bs_ 41 0x1fffff) rfl rfl (by kernel_rfl) (fun _ _ _ h => h) (Or.inr ⟨by rfl, rfl⟩) ?_ ?_
       rotate_left
       ·simp only [nm_]
        rfl
       refine pure_ (i := 21) (N := some 55) (v := undef) (a' := ?_) (bs_ 41 0x3fffff) rfl rfl (by kernel_rfl) (fun _ _ _ h => h) (Or.inr ⟨by rfl, rfl⟩) ?_ ?_
       rotate_left
       ·simp only [nm_]
        rfl
       refine pure_ (i := 22) (N := some 56) (v := undef) (a' := ?_) (bs_ 41 0x7fffff) rfl rfl (by kernel_rfl) (fun _ _ _ h => h) (Or.inr ⟨by rfl, rfl⟩) ?_ ?_
       rotate_left
       ·simp only [nm_]
        rfl
       refine pure_ (i := 23) (N := some 57) (v := ?_) (a' := ?_) (bs_ 41 0xffffff) rfl rfl (by kernel_rfl) (fun _ _ _ h => h) (Or.inl ⟨by rfl, ?_⟩) ?_ ?_; rotate_left; (intro w'; go_simp; with_reducible rfl); rotate_left; (simp only [nm_]; rfl)
       refine pure_ (i := 24) (N := some 58) (v := ?_) (a' := ?_) (bs_ 41 0x1ffffff) rfl rfl (by kernel_rfl) (fun _ _ _ h => h) (Or.inl ⟨by rfl, ?_⟩) ?_ ?_; rotate_left; (intro w'; go_simp; with_reducible rfl); rotate_left; (simp only [nm_]; rfl)
       refine pure_ (i := 25) (N := some 59) (v := undef) (a' := ?_) (bs_ 41 0x3ffffff) rfl rfl (by kernel_rfl) (fun _ _ _ h => h) (Or.inr ⟨by rfl, rfl⟩) ?_ ?_
       rotate_left
       ·simp only [nm_]
        rfl
       refine pure_ (i := 26) (N := some 60) (v := undef) (a' := ?_) (bs_ 41 0x7ffffff) rfl rfl (by kernel_rfl) (fun _ _ _ h => h) (Or.inr ⟨by rfl, rfl⟩) ?_ ?_
       rotate_left
       ·simp only [nm_]
        rfl
       refine pure_ (i := 27) (N := some 61) (v := undef) (a' := ?_) (bs_ 41 0xfffffff) rfl rfl (by kernel_rfl) (fun _ _ _ h => h) (Or.inr ⟨by rfl, rfl⟩) ?_ ?_
       rotate_left
       ·simp only [nm_]
        rfl
       refine pure_ (i := 28) (N := some 62) (v := undef) (a' := ?_) (bs_ 41 0x1fffffff) rfl rfl (by kernel_rfl) (fun _ _ _ h => h) (Or.inr ⟨by rfl, rfl⟩) ?_ ?_
       rotate_left
       ·simp only [nm_]
        rfl
       refine pure_ (i := 29) (N := some 63) (v := undef) (a' := ?_) (bs_ 41 0x3fffffff) rfl rfl (by kernel_rfl) (fun _ _ _ h => h) (Or.inr ⟨by rfl, rfl⟩) ?_ ?_
       rotate_left
       ·simp only [nm_]
        rfl
       refine pure_ (i := 30) (N := some 64) (v := undef) (a' := ?_) (bs_ 41 0x7fffffff) rfl rfl (by kernel_rfl) (fun _ _ _ h => h) (Or.inr ⟨by rfl, rfl⟩) ?_ ?_
       rotate_left
       ·simp only [nm_]
        rfl
       refine pure_ (i := 31) (N := some 65) (v := undef) (a' := ?_) (bs_ 41 0xffffffff) rfl rfl (by kernel_rfl) (fun _ _ _ h => h) (Or.inr ⟨by rfl, rfl⟩) ?_ ?_
       rotate_left
       ·simp only [nm_]
        rfl
       refine pure_ (i := 32) (N := some 66) (v := undef) (a' := ?_) (bs_ 41 0x1ffffffff) rfl rfl (by kernel_rfl) (fun _ _ _ h => h) (Or.inr ⟨by rfl, rfl⟩) ?_ ?_
       rotate_left
       ·simp only [nm_]
        rfl
       refine pure_ (i := 33) (N := some 67) (v := undef) (a' := ?_) (bs_ 41 0x3ffffffff) rfl rfl (by kernel_rfl) (fun _ _ _ h => h) (Or.inr ⟨by rfl, rfl⟩) ?_ ?_
       rotate_left
       ·simp only [nm_]
        rfl
       refine pure_ (i := 34) (N := some 68) (v := undef) (a' := ?_) (bs_ 41 0x7ffffffff) rfl rfl (by kernel_rfl) (fun _ _ _ h => h) (Or.inr ⟨by rfl, rfl⟩) ?_ ?_
       rotate_left
       ·simp only [nm_]
        rfl
       refine pure_ (i := 35) (N := some 69) (v := undef) (a' := ?_) (bs_ 41 0xfffffffff) rfl rfl (by kernel_rfl) (fun _ _ _ h => h) (Or.inr ⟨by rfl, rfl⟩) ?_ ?_
       rotate_left
       ·simp only [nm_]
        rfl
       refine pure_ (i := 36) (N := some 70) (v := undef) (a' := ?_) (bs_ 41 0x1fffffffff) rfl rfl (by kernel_rfl) (fun _ _ _ h => h) (Or.inr ⟨by rfl, rfl⟩) ?_ ?_
       rotate_left
       ·simp only [nm_]
        rfl
       refine pure_ (i := 37) (N := some 71) (v := undef) (a' := ?_) (bs_ 41 0x3fffffffff) rfl rfl (by kernel_rfl) (fun _ _ _ h => h) (Or.inr ⟨by rfl, rfl⟩) ?_ ?_
       rotate_left
       ·simp only [nm_]
        rfl
       refine pure_ (i := 38) (N := some 72) (v := undef) (a' := ?_) (bs_ 41 0x7fffffffff) rfl rfl (by kernel_rfl) (fun _ _ _ h => h) (Or.inr ⟨by rfl, rfl⟩) ?_ ?_
       rotate_left
       ·simp only [nm_]
        rfl
       refine pure_ (i := 39) (N := some 73) (v := undef) (a' := ?_) (bs_ 41 0xffffffffff) rfl rfl (by kernel_rfl) (fun _ _ _ h => h) (Or.inr ⟨by rfl, rfl⟩) ?_ ?_
       rotate_left
       ·simp only [nm_]
        rfl
       refine pure_ (i := 40) (N := some 74) (v := ?_) (a' := ?_) (bs_ 41 0x1ffffffffff) rfl rfl (by kernel_rfl) (fun _ _ _ h => h) (Or.inl ⟨by rfl, ?_⟩) ?_ ?_; rotate_left; (intro w'; go_simp; with_reducible rfl); rotate_left; (simp only [nm_]; rfl)
       refine done_ (by kernel_rfl) ?_
       have kBx := kBd
       go_wp2_with (fail)
       go_ret
       exact ⟨by rw [HRES.out, HBAD.out]; rfl, kBx⟩
     ·have HBAD : Aside0 (decide (GT30 l0) = false) := ⟨HBAD0.out fun c => g (by rw [← HPE.out]; exact c.gd)⟩
      obtain ⟨up, hupe⟩ : ∃ up : ByteArray, up = ⟨#[]⟩ := ⟨_, rfl⟩
      obtain ⟨gg, hgg⟩ : ∃ gg, gg = decide (dirAt l0 i up) := ⟨_, rfl⟩
      have sd0 : (Instr.lookup 82 (.map (some mb)) (.string up) false).run Tryd.prog W2.drew = .ok (.bool gg) W2.drew := by rw [hgg]; exact hMd.look (by rw [hupe]; decide)
      clear hupe hgg g HUPC2
      refine start_ (n := 41) (S := fun w' => (Instr.lookup 82 (.map (some mb)) (.string up) false).run Tryd.prog w' = .ok (.bool gg) w' ∧ w'.cell? ⟨eb, 1, none⟩ = some (.bool dd) ∧ w'.cell? ⟨eb, 2, none⟩ = some (.slice A9 n2 c9) ∧ w'.cell? ⟨eb, 0, none⟩ = some (.string p) ∧ w'.cell? ⟨w.heap.size, 0, none⟩ = some (.slice (some ad) l0.length c0)) (ds := []) (bs_ 41 0x0) (by kernel_rfl) rfl rfl ⟨sd0, sd1, sd2, sd3, sd4⟩ (fun hHeld => ?_)
      generalize W2.drew = wd at sd0 sd1 sd2 sd3 sd4 hMd kbd kBd hHeld ⊢
      refine pure_ (i := 0) (N := some 34) (v := ?_) (a' := ?_) (bs_ 41 0x1) rfl rfl (by kernel_rfl) (fun _ _ _ h => h) (Or.inl ⟨by rfl, ?_⟩) ?_ ?_; rotate_left; (intro w'; go_simp; with_reducible rfl); rotate_left; (simp only [nm_]; rfl)
      refine pure_ (i := 1) (N := some 35) (v := ?_) (a' := ?_) (bs_ 41 0x3) rfl rfl (by kernel_rfl) (fun _ _ _ h => h) (Or.inl ⟨by rfl, ?_⟩) ?_ ?_; rotate_left; (intro w'; go_simp; with_reducible rfl); rotate_left; (simp only [nm_]; rfl)
      refine pure_ (i := 2) (N := some 36) (v := ?_) (a' := ?_) (bs_ 41 0x7) rfl rfl (by kernel_rfl) (fun _ _ _ h => h) (Or.inl ⟨by rfl, ?_⟩) ?_ ?_; rotate_left; (intro w'; go_simp; with_reducible rfl); rotate_left; (simp only [nm_]; rfl)
      refine pure_ (i := 3) (N := some 37) (v := undef) (a' := ?_) (bs_ 41 0xf) rfl rfl (by kernel_rfl) (fun _ _ _ h => h) (Or.inr ⟨by rfl, rfl⟩) ?_ ?_
      rotate_left
      ·simp only [nm_]
       rfl
      refine pure_ (i := 4) (N := some 38) (v := undef) (a' := ?_) (bs_ 41 0x1f) rfl rfl (by kernel_rfl) (fun _ _ _ h => h) (Or.inr ⟨by rfl, rfl⟩) ?_ ?_
      rotate_left
      ·simp only [nm_]
       rfl
      refine pure_ (i := 5) (N := some 39) (v := undef) (a' := ?_) (bs_ 41 0x3f) rfl rfl (by kernel_rfl) (fun _ _ _ h => h) (Or.inr ⟨by rfl, rfl⟩) ?_ ?_
      rotate_left
      ·simp only [nm_]
       rfl
      refine pure_ (i := 6) (N := some 40) (v := undef) (a' := ?_) (bs_ 41 0x7f) rfl rfl (by kernel_rfl) (fun _ _ _ h => h) (Or.inr ⟨by rfl, rfl⟩) ?_ ?_
      rotate_left
      ·simp only [nm_]
       rfl
      refine pure_ (i := 7) (N := some 41) (v := ?_) (a' := ?_) (bs_ 41 0xff) rfl rfl (by kernel_rfl) (fun _ _ _ h => h) (Or.inl ⟨by rfl, ?_⟩) ?_ ?_; rotate_left; (intro w'; go_simp; with_reducible rfl); rotate_left; (simp only [nm_]; rfl)
      refine pure_ (i := 8) (N := some 42) (v := ?_) (a' := ?_) (bs_ 41 0x1ff) rfl rfl (by kernel_rfl) (fun _ _ _ h => h) (Or.inl ⟨by rfl, ?_⟩) ?_ ?_; rotate_left; (intro w'; go_simp; with_reducible rfl); rotate_left; (simp only [nm_]; rfl)
      refine pure_ (i := 9) (N := some 43) (v := undef) (a' := ?_) (bs_ 41 0x3ff) rfl rfl (by kernel_rfl) (fun _ _ _ h => h) (Or.inr ⟨by rfl, rfl⟩) ?_ ?_
      rotate_left
      ·simp only [nm_]
       rfl
      refine pure_ (i := 10) (N := some 44) (v := undef) (a' := ?_) (bs_ 41 0x7ff) rfl rfl (by kernel_rfl) (fun _ _ _ h => h) (Or.inr ⟨by rfl, rfl⟩) ?_ ?_
      rotate_left
      ·simp only [nm_]
       rfl
      refine pure_ (i := 11) (N := some 45) (v := undef) (a' := ?_) (bs_ 41 0xfff) rfl rfl (by kernel_rfl) (fun _ _ _ h => h) (Or.inr ⟨by rfl, rfl⟩) ?_ ?_
      rotate_left
      ·simp only [nm_]
       rfl
      refine pure_ (i := 12) (N := some 46) (v := undef) (a' := ?_) (bs_ 41 0x1fff) rfl rfl (by kernel_rfl) (fun _ _ _ h => h) (Or.inr ⟨by rfl, rfl⟩) ?_ ?_
      rotate_left
      ·simp only [nm_]
       rfl
      refine pure_ (i := 13) (N := some 47) (v := undef) (a' := ?_) (bs_ 41 0x3fff) rfl rfl (by kernel_rfl) (fun _ _ _ h => h) (Or.inr ⟨by rfl, rfl⟩) ?_ ?_
      rotate_left
      ·simp only [nm_]
       rfl
      refine pure_ (i := 14) (N := some 48) (v := undef) (a' := ?_) (bs_ 41 0x7fff) rfl rfl (by kernel_rfl) (fun _ _ _ h => h) (Or.inr ⟨by rfl, rfl⟩) ?_ ?_
      rotate_left
      ·simp only [nm_]
       rfl
      refine pure_ (i := 15) (N := some 49) (v := undef) (a' := ?_) (bs_ 41 0xffff) rfl rfl (by kernel_rfl) (fun _ _ _ h => h) (Or.inr ⟨by rfl, rfl⟩) ?_ ?_
      rotate_left
      ·simp only [nm_]
       rfl
      refine pure_ (i := 16) (N := some 50) (v := undef) (a' := ?_) (bs_ 41 0x1ffff) rfl rfl (by kernel_rfl) (fun _ _ _ h => h) (Or.inr ⟨by rfl, rfl⟩) ?_ ?_
      rotate_left
      ·simp only [nm_]
       rfl
      refine pure_ (i := 17) (N := some 51) (v := ?_) (a' := ?_) (bs_ 41 0x3ffff) rfl rfl (by kernel_rfl) (fun _ _ _ h => h) (Or.inl ⟨by rfl, ?_⟩) ?_ ?_; rotate_left; (intro w'; go_simp; with_reducible rfl); rotate_left; (simp only [nm_]; rfl)
      refine pure_ (i := 18) (N := some 52) (v := ?_) (a' := ?_) (bs_ 41 0x7ffff) rfl rfl (by kernel_rfl) (fun _ _ _ h => h) (Or.inl ⟨by rfl, ?_⟩) ?_ ?_; rotate_left; (intro w'; go_simp; with_reducible rfl); rotate_left; (simp only [nm_]; rfl)
      refine pure_ (i := 19) (N := some 53) (v := undef) (a' := ?_) (bs_ 41 0xfffff) rfl rfl (by kernel_rfl) (fun _ _ _ h => h) (Or.inr ⟨by rfl, rfl⟩) ?_ ?_
      rotate_left
      ·simp only [nm_]
       rfl
      refine pure_ (i := 20) (N := some 54) (v := undef) (a' := ?_) (bs_ 41 0x1fffff) rfl rfl (by kernel_rfl) (fun _ _ _ h => h) (Or.inr ⟨by rfl, rfl⟩) ?_ ?_
      rotate_left
      ·simp only [nm_]
       rfl
      refine pure_ (i := 21) (N := some 55) (v := undef) (a' := ?_) (bs_ 41 0x3fffff) rfl rfl (by kernel_rfl) (fun _ _ _ h => h) (Or.inr ⟨by rfl, rfl⟩) ?_ ?_
      rotate_left
      ·simp only [nm_]
       rfl
      refine pure_ (i := 22) (N := some 56) (v := undef) (a' := ?_) (bs_ 41 0x7fffff) rfl rfl (by kernel_rfl) (fun _ _ _ h => h) (Or.inr ⟨by rfl, rfl⟩) ?_ ?_
      rotate_left
      ·simp only [nm_]
       rfl
      refine pure_ (i := 23) (N := some 57) (v := ?_) (a' := ?_) (bs_ 41 0xffffff) rfl rfl (by kernel_rfl) (fun _ _ _ h => h) (Or.inl ⟨by rfl, ?_⟩) ?_ ?_; rotate_left; (intro w'; go_simp; with_reducible rfl); rotate_left; (simp only [nm_]; rfl)
      refine pure_ (i := 24) (N := some 58) (v := ?_) (a' := ?_) (bs_ 41 0x1ffffff) rfl rfl (by kernel_rfl) (fun _ _ _ h => h) (Or.inl ⟨by rfl, ?_⟩) ?_ ?_; rotate_left; (intro w'; go_simp; with_reducible rfl); rotate_left; (simp only [nm_]; rfl)
      refine pure_ (i := 25) (N := some 59) (v := undef) (a' := ?_) (bs_ 41 0x3ffffff) rfl rfl (by kernel_rfl) (fun _ _ _ h => h) (Or.inr ⟨by rfl, rfl⟩) ?_ ?_
      rotate_left
      ·simp only [nm_]
       rfl
      refine pure_ (i := 26) (N := some 60) (v := undef) (a' := ?_) (bs_ 41 0x7ffffff) rfl rfl (by kernel_rfl) (fun _ _ _ h => h) (Or.inr ⟨by rfl, rfl⟩) ?_ ?_
      rotate_left
      ·simp only [nm_]
       rfl
      refine pure_ (i := 27) (N := some 61) (v := undef) (a' := ?_) (bs_ 41 0xfffffff) rfl rfl (by kernel_rfl) (fun _ _ _ h => h) (Or.inr ⟨by rfl, rfl⟩) ?_ ?_
      rotate_left
      ·simp only [nm_]
       rfl
      refine pure_ (i := 28) (N := some 62) (v := undef) (a' := ?_) (bs_ 41 0x1fffffff) rfl rfl (by kernel_rfl) (fun _ _ _ h => h) (Or.inr ⟨by rfl, rfl⟩) ?_ ?_
      rotate_left
      ·simp only [nm_]
       rfl
      refine pure_ (i := 29) (N := some 63) (v := undef) (a' := ?_) (bs_ 41 0x3fffffff) rfl rfl (by kernel_rfl) (fun _ _ _ h => h) (Or.inr ⟨by rfl, rfl⟩) ?_ ?_
      rotate_left
      ·simp only [nm_]
       rfl
      refine pure_ (i := 30) (N := some 64) (v := undef) (a' := ?_) (bs_ 41 0x7fffffff) rfl rfl (by kernel_rfl) (fun _ _ _ h => h) (Or.inr ⟨by rfl, rfl⟩) ?_ ?_
      rotate_left
      ·simp only [nm_]
       rfl
      refine pure_ (i := 31) (N := some 65) (v := undef) (a' := ?_) (bs_ 41 0xffffffff) rfl rfl (by kernel_rfl) (fun _ _ _ h => h) (Or.inr ⟨by rfl, rfl⟩) ?_ ?_
      rotate_left
      ·simp only [nm_]
       rfl
      refine pure_ (i := 32) (N := some 66) (v := undef) (a' := ?_) (bs_ 41 0x1ffffffff) rfl rfl (by kernel_rfl) (fun _ _ _ h => h) (Or.inr ⟨by rfl, rfl⟩) ?_ ?_
      rotate_left
      ·simp only [nm_]
       rfl
      refine pure_ (i := 33) (N := some 67) (v := undef) (a' := ?_) (bs_ 41 0x3ffffffff) rfl rfl (by kernel_rfl) (fun _ _ _ h => h) (Or.inr ⟨by rfl, rfl⟩) ?_ ?_
      rotate_left
      ·simp only [nm_]
       rfl
      refine pure_ (i := 34) (N := some 68) (v := undef) (a' := ?_) (bs_ 41 0x7ffffffff) rfl rfl (by kernel_rfl) (fun _ _ _ h => h) (Or.inr ⟨by rfl, rfl⟩) ?_ ?_
      rotate_left
      ·simp only [nm_]
       rfl
      refine pure_ (i := 35) (N := some 69) (v := undef) (a' := ?_) (bs_ 41 0xfffffffff) rfl rfl (by kernel_rfl) (fun _ _ _ h => h) (Or.inr ⟨by rfl, rfl⟩) ?_ ?_
      rotate_left
      ·simp only [nm_]
       rfl
      refine pure_ (i := 36) (N := some 70) (v := undef) (a' := ?_) (bs_ 41 0x1fffffffff) rfl rfl (by kernel_rfl) (fun _ _ _ h => h) (Or.inr ⟨by rfl, rfl⟩) ?_ ?_
      rotate_left
      ·simp only [nm_]
       rfl
      refine pure_ (i := 37) (N := some 71) (v := undef) (a' := ?_) (bs_ 41 0x3fffffffff) rfl rfl (by kernel_rfl) (fun _ _ _ h => h) (Or.inr ⟨by rfl, rfl⟩) ?_ ?_
      rotate_left
      ·simp only [nm_]
       rfl
      refine pure_ (i := 38) (N := some 72) (v := undef) (a' := ?_) (bs_ 41 0x7fffffffff) rfl rfl (by kernel_rfl) (fun _ _ _ h => h) (Or.inr ⟨by rfl, rfl⟩) ?_ ?_
      rotate_left
      ·simp only [nm_]
       rfl
      refine pure_ (i := 39) (N := some 73) (v := undef) (a' := ?_) (bs_ 41 0xffffffffff) rfl rfl (by kernel_rfl) (fun _ _ _ h => h) (Or.inr ⟨by rfl, rfl⟩) ?_ ?_
      rotate_left
      ·simp only [nm_]
       rfl
      refine pure_ (i := 40) (N := some 74) (v := ?_) (a' := ?_) (bs_ 41 0x1ffffffffff) rfl rfl (by kernel_rfl) (fun _ _ _ h => h) (Or.inl ⟨by rfl, ?_⟩) ?_ ?_; rotate_left; (intro w'; go_simp; with_reducible rfl); rotate_left; (simp only [nm_]; rfl)
      refine done_ (by kernel_rfl) ?_
      have kBx := kBd
      go_wp2_with (fail)
      go_ret
      exact ⟨by rw [HRES.out, HBAD.out]; rfl, kBx⟩
    ·have a1 : decide ((i : Int) < (l0.length : Int)) = false := decide_eq_false (by omega)
     obtain rfl : i = l0.length := by omega
     have ht : res = true := HRES.out.trans (decide_eq_true (Cs_all (by omega) (by rw [show nB S30.f2 l0 = nb from HNB.out.symm]; omega) hC))
     go_wp2_with (fail)
     go_ret
     exact ⟨by rw [ht]; rfl, kB⟩
def tree_Good.f (l0_0 : List S30) : Option Bool := if okP l0_0 = true ∧ nB30 l0_0 ≤ 1000000000000 then some (decide (GT30 l0_0)) else none
theorem tree_Good.calls (A0_0 : Option Addr) (c0_0 : Nat) (l0_0 : List S30) (r : Bool) (w : World) (hr0_0 : Kd.C k30 w A0_0 l0_0.length l0_0) (hc0_0 : l0_0.length ≤ c0_0) (h : tree_Good.f l0_0 = some r) :
  Calls Tryd.prog 14 #[.agg #[.slice A0_0 l0_0.length c0_0]] w fun e w' => e = .returned (.bool r) ∧ Below w.heap.size w w' := by
 unfold tree_Good.f at h
 split at h
 ·rename_i hh
  obtain rfl := Option.some.inj h
  have ho := okP_iff.1 hh.1
  exact Good_calls A0_0 c0_0 l0_0 w hr0_0 hc0_0 ho.1 ho.2 hh.2
 ·cases h
end Go.Proofs.YtidlldfghkaeeaaDoor.P
