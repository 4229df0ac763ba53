/- Put together by pack2.py: TreeOk, PfTreeBytes -/
import Derived.Test.YtidlldfghkaeeaaGreatDoorZyPfTallymanref7RemoveEtc
import Derived.Test.YtidlldfghkaeeaaGreatDoorZyTreeOkPEtc
import Derived.Test.YtidlldfghkaeeaaGreatDoorZyTreeWith
import Derived.Test.YtidlldfghkaeeaaGreatDoorZyRefNamesEtc
import Derived.Test.YtidlldfghkaeeaaGreatDoorZyW0
set_option linter.unusedVariables false
set_option linter.unusedSimpArgs false
set_option maxHeartbeats 8000000
set_option maxRecDepth 100000
section
namespace Go.Proofs.YtidlldfghkaeeaaGreatDoor.P
open Go.RowKit Go.Proofs.YtidlldfghkaeeaaGreatDoorW.PrintWords Go.Proofs.YtidlldfghkaeeaaGreatDoorW.PrintLast Go.Proofs.YtidlldfghkaeeaaGreatDoorW.PrintMore
theorem upB_size {p : ByteArray} (g : Gd p.data.toList) : (upB p).size ≤ 68 := by
 rw [D_size, upB_data]
 rcases up_cases g with ⟨h, _, _⟩ | ⟨x, _, _, _, _, _, h⟩
 ·rw [h]; simp
 ·exact gd_len h
theorem dir_step {l : List S42} {i : Nat} (hi : i < l.length) (h : Cs l i) (c : Cx l i l[i]) {p : ByteArray} {d : Bool} (hp : l[i].f0 = p) (hd : l[i].f1 = d) (s : ByteArray) : (if s = p then d else decide (dirAt l i s)) = decide (dirAt l (i + 1) s) := by
 have k := dirAt_succ hi h c s
 rw [hp, hd] at k
 by_cases e : s = p
 ·rw [if_pos e] at k ⊢
  cases d with
  | true => exact (decide_eq_true (k.2 rfl)).symm
  | false => exact (decide_eq_false fun h => Bool.false_ne_true (k.1 h)).symm
 ·rw [if_neg e] at k ⊢
  rw [decide_eq_decide]
  exact k.symm
theorem Good_calls (A0 : Option Addr) (c0 : Nat) (l0 : List S42) (w : World) (hr0 : Kd.C k42 w A0 l0.length l0) (hc0 : l0.length ≤ c0) (hs : ∀ x ∈ l0, x.f0.size < 4294967280) (hl : l0.length ≤ 100000) (hnb : nB30 l0 ≤ 1000000000000) :
  Calls Tryz.prog 18 #[.agg #[.slice A0 l0.length c0]] w fun e w' => e = .returned (.bool (decide (GT30 l0))) ∧ Below w.heap.size w w' := by
 have hu26 := Tryz.underlying26
 have hu30 := Tryz.underlying42
 have HR := Aside0.mk hr0
 have HS := Aside0.mk hs
 have HL := Aside0.mk hl
 have HN := Aside0.mk hnb
 clear hr0 hs hl hnb
 obtain ⟨res, hres⟩ : ∃ res, res = decide (GT30 l0) := ⟨_, rfl⟩
 rw [← hres]
 have HRES := Aside0.mk hres
 clear hres
 go_enter Tryz.func18, Tryz.ntmps18
 have kb := blk_new w (.cells #[.slice A0 l0.length c0] 26)
 have kB := below_alloc (Below.refl w.heap.size w) (.cells #[.slice A0 l0.length c0] 26)
 have kc := blk_cell kb 0
 by_cases q1 : l0.length > 40
 ·have p1 : decide ((40 : Int) < (l0.length : Int)) = true := decide_eq_true (by omega)
  have hf : res = false := HRES.out.trans (decide_eq_false fun h => by have := h.1; omega)
  go_wp2_with (fail)
  go_ret
  exact ⟨by rw [hf]; rfl, kB⟩
 ·have p1 : decide ((40 : Int) < (l0.length : Int)) = false := decide_eq_false (by omega)
  have hct : tree_count.f 100001 l0 = some (nB30 l0 : Int) := count_eq HL.out (by have := HL.out; omega) (by have := HN.out; omega)
  go_wp2_with (fail)
  refine (tree_count.calls 100001 A0 c0 l0 _ _ (Kd.C_below HR.out kB) hc0 hct).mono ?_
  rintro e W1 ⟨rfl, hb1⟩
  have kb1 := (hb1.block _ (blk_lt kb)).trans kb
  have kB1 := kB.trans (hb1.mono (by rw [World.size_alloc]; omega))
  have kc1 := blk_cell kb1 0
  clear kb kB kc hb1 hct
  dsimp only
  obtain ⟨nb, hnbq⟩ : ∃ nb : Nat, nb = nB30 l0 := ⟨_, rfl⟩
  rw [← hnbq]
  have HNB := Aside0.mk hnbq
  clear hnbq
  by_cases q2 : nb > 16384
  ·have p2 : decide ((16384 : Int) < (nb : Int)) = true := decide_eq_true (by omega)
   have hf : res = false := HRES.out.trans (decide_eq_false fun h => by have h2 : nB30 l0 ≤ 16384 := h.2.1; have := HNB.out; omega)
   go_wp2_with (fail)
   go_ret
   exact ⟨by rw [hf]; rfl, kB1⟩
  ·have p2 : decide ((16384 : Int) < (nb : Int)) = false := decide_eq_false (by omega)
   have hm0 := MapIs.made W1
   have hmB := below_alloc kB1 (.map #[] 0)
   have hmk := blk_alloc kb1 (.map #[] 0)
   have hs1 : W1.heap.size ≥ w.heap.size + 1 := by have := blk_lt kb1; omega
   have hmlt := hm0.lt
   have hmk0 : (Instr.makeMap 102 none).run Tryz.prog W1 = .ok (.map (some W1.heap.size)) (W1.alloc (.map #[] 0)) := rfl
   go_wp2_with (refine insert_dir hm0 rfl (.tmp 18) (.const (.string ⟨#[]⟩)) (.const (.bool true)) rfl rfl rfl rfl (by decide) (by decide) ?_; intro W2 hm2 hg2; refine Stop.out ?_)
   clear hmk0
   have kb2 := (hg2.block _ (by omega) (by intro e; injection e with e; omega)).trans hmk
   have kB2 := hmB.grown hg2 (by rw [World.size_alloc]; omega) (by intro k hk; injection hk with hk; omega)
   have kc2 := blk_cell kb2 0
   have hm3 : MapIs W2 W1.heap.size 1 (fun s => decide (dirAt l0 0 s)) := hm2.congr fun s => by
    show (if s = ⟨#[]⟩ then true else false) = _
    by_cases h : s = ⟨#[]⟩
    ·rw [if_pos h]; exact (decide_eq_true ((dirAt_zero _ _).2 h)).symm
    ·rw [if_neg h]; exact (decide_eq_false fun h2 => h ((dirAt_zero _ _).1 h2)).symm
   obtain ⟨mb, hmb⟩ : ∃ mb, mb = W1.heap.size := ⟨_, rfl⟩
   rw [← hmb] at hm3 ⊢
   have hmw : w.heap.size + 1 ≤ mb := by omega
   clear hm0 hmB hmk hm2 hg2 kb1 kB1 kc1 hmlt hmb hs1
   constructor
   go_wp2_with (fail)
   go_loopg [23] l0.length (fun gg s23 wr => ∃ i : Nat, i ≤ l0.length ∧ gg = l0.length - i ∧ s23 = .int .i64 i ∧ Cs l0 i ∧ MapIs wr mb (i + 1) (fun s => decide (dirAt l0 i s)) ∧ wr.heap[w.heap.size]? = some (.cells #[.slice A0 l0.length c0] 26 (0, 0)) ∧ Below w.heap.size w wr)
   case atStart => exact ⟨0, Nat.zero_le _, rfl, rfl, Cs_zero _, hm3, kb2, kB2⟩
   case round =>
    clear hm3 kb2 kB2 kc2
    obtain ⟨i, hi, rfl, rfl, hC, hM, kb, kB⟩ := hrel
    by_cases a : i < l0.length
    ·have a1 : decide ((i : Int) < (l0.length : Int)) = true := decide_eq_true (by omega)
     have a2 : decide (0 ≤ (i : Int)) = true := decide_eq_true (by omega)
     obtain ⟨ad, A9, c9, rfl, k0, k1, k2, _, _⟩ := atT (Kd.C_below HR.out kB) i a
     obtain ⟨X, hX⟩ : ∃ X, X = l0[i] := ⟨_, rfl⟩
     rw [← hX] at k0 k1 k2
     have HX := Aside0.mk hX
     have hB := below_size kB
     have hxs : X.f0.size < 4294967280 := HS.out X (by rw [hX]; exact List.getElem_mem a)
     have hbad : ¬ Cx l0 i X → decide (GT30 l0) = false := fun h => decide_eq_false (Cs_bad a (by rw [← hX]; exact h))
     clear hX
     obtain ⟨p, hp⟩ : ∃ p, p = X.f0 := ⟨_, rfl⟩
     obtain ⟨n2, hn2⟩ : ∃ n2, n2 = X.f2.length := ⟨_, rfl⟩
     obtain ⟨dd, hdd⟩ : ∃ dd, dd = X.f1 := ⟨_, rfl⟩
     rw [← hp] at k0 hxs
     rw [← hdd] at k1
     rw [← hn2] at k2
     have HPE := Aside0.mk hp.symm
     have HNE := Aside0.mk hn2
     have HDE := Aside0.mk hdd.symm
     have HBAD0 := Aside0.mk hbad
     have HXS := Aside0.mk hxs
     have HPS : Aside0 (p.size ≤ maxLen) := ⟨Nat.le_trans (Nat.le_of_lt hxs) (by decide)⟩
     have HMAX : Aside0 (i + 1 < maxLen) := ⟨Nat.lt_of_le_of_lt (show i + 1 ≤ 41 by omega) (by decide)⟩
     have HWI : Aside0 (wrap64 ((i : Int) + 1) = ((i + 1 : Nat) : Int)) := ⟨wr1 (by omega)⟩
     have HC := Aside0.mk hC
     have hmlt := hM.lt
     clear hp hn2 hdd hbad hxs hC
     have kbE := blk_new wr (.cells #[.string p, .bool dd, .slice A9 n2 c9] 42)
     have kb1 := blk_alloc kb (.cells #[.string p, .bool dd, .slice A9 n2 c9] 42)
     have kB1 := below_alloc kB (.cells #[.string p, .bool dd, .slice A9 n2 c9] 42)
     have hM1 : MapIs (wr.alloc (.cells #[.string p, .bool dd, .slice A9 n2 c9] 42)) mb (i + 1) (fun s => decide (dirAt l0 i s)) := hM.below (below_alloc (Below.refl _ _) _)
     clear hM kb kB
     go_wp2_with (fail)
     obtain ⟨r1, r2, hr, hup⟩ : ∃ r1 r2, path_Up.f p = some (r1, r2) ∧ ((Gd p.data.toList ∧ r1 = upB p ∧ r2 = true) ∨ (¬ Gd p.data.toList ∧ r2 = false)) := by
      have h := Up_eq (s := p) (by have := HXS.out; omega)
      by_cases g : Gd p.data.toList
      ·rw [if_pos g] at h; exact ⟨_, _, h, .inl ⟨g, rfl, rfl⟩⟩
      ·rw [if_neg g] at h; exact ⟨_, _, h, .inr ⟨g, rfl⟩⟩
     have HUPC := Aside0.mk hup
     clear hup
     refine (path_Up.calls p r1 r2 _ hr).mono ?_
     clear hr
     rintro e W2 ⟨rfl, hb2⟩
     have hup := HUPC.out
     have kbE2 := (hb2.block _ (blk_lt kbE)).trans kbE
     have kb2 := (hb2.block _ (blk_lt kb1)).trans kb1
     have kB2 := kB1.trans (hb2.mono kB1.size)
     have hM2 := hM1.below hb2
     clear kbE kb1 kB1 hM1 hb2 k0 k1 k2
     dsimp only
     obtain ⟨eb, heb⟩ : ∃ eb, eb = wr.heap.size := ⟨_, rfl⟩
     rw [← heb] at kbE2 ⊢
     have hew : w.heap.size < eb := by rw [heb]; omega
     clear heb hB
     have HUPC2 := HUPC
     clear HUPC
     have sd1 : W2.drew.cell? ⟨eb, 1, none⟩ = some (.bool dd) := blk_cell kbE2 1
     have sd2 : W2.drew.cell? ⟨eb, 2, none⟩ = some (.slice A9 n2 c9) := blk_cell kbE2 2
     have sd3 : W2.drew.cell? ⟨eb, 0, none⟩ = some (.string p) := blk_cell kbE2 0
     have sd4 : W2.drew.cell? ⟨w.heap.size, 0, none⟩ = some (.slice (some ad) l0.length c0) := blk_cell kb2 0
     have hMd : MapIs W2.drew mb (i + 1) (fun s => decide (dirAt l0 i s)) := hM2.keep rfl
     have kbd : W2.drew.heap[w.heap.size]? = some (.cells #[.slice (some ad) l0.length c0] 26 (0, 0)) := kb2
     have kBd : Below w.heap.size w W2.drew := below_drew kB2
     have kcE0 := blk_cell kbE2 0
     clear kbE2 kb2 kB2 hM2 hup
     have HPSZ := HXS
     go_wp2_with (fail)
     rcases HUPC2.out with ⟨g, rfl, rfl⟩ | ⟨g, rfl⟩
     ·have HGP := Aside0.mk g
      have HUP : Aside0 ((upB p).size ≤ maxLen) := ⟨Nat.le_trans (upB_size g) (by decide)⟩
      obtain ⟨up, hupe⟩ : ∃ up, up = upB p := ⟨_, rfl⟩
      rw [← hupe] at HUP ⊢
      have HUPE := Aside0.mk hupe
      clear hupe HUPC2 g
      by_cases hg1 : decide (dirAt l0 i up) = true
      ·have HG := Aside0.mk hg1
       have sd0 : (Instr.lookup 102 (.map (some mb)) (.string up) false).run Tryz.prog W2.drew = .ok (.bool true) W2.drew := by rw [← hg1]; exact hMd.look HUP.out
       clear hg1
       cases dd with
       | true =>
        by_cases hn0 : 0 < n2
        ·have c1 : decide ((0 : Int) < (n2 : Int)) = true := decide_eq_true (by omega)
         have HBAD : Aside0 (decide (GT30 l0) = false) := ⟨HBAD0.out fun c => by have h := c.db HDE.out; rw [HNE.out, h] at hn0; exact absurd hn0 (Nat.lt_irrefl 0)⟩
         refine start_ (n := 41) (S := fun w' => (Instr.lookup 102 (.map (some mb)) (.string up) false).run Tryz.prog w' = .ok (.bool true) w' ∧ w'.cell? ⟨eb, 1, none⟩ = some (.bool true) ∧ w'.cell? ⟨eb, 2, none⟩ = some (.slice A9 n2 c9) ∧ w'.cell? ⟨eb, 0, none⟩ = some (.string p) ∧ w'.cell? ⟨w.heap.size, 0, none⟩ = some (.slice (some ad) l0.length c0)) (ds := []) (bs_ 41 0x0) (by kernel_rfl) rfl rfl ⟨sd0, sd1, sd2, sd3, sd4⟩ (fun hHeld => ?_)
         generalize W2.drew = wd at sd0 sd1 sd2 sd3 sd4 hMd kbd kBd hHeld ⊢
         refine pl_ [(0, some 34, 0x1), (1, some 35, 0x3), (2, some 36, 0x7), (3, some 37, 0xf), (4, some 38, 0x1f), (5, some 39, 0x3f), (6, some 40, 0x7f), (7, some 41, 0xff), (8, some 42, 0x1ff), (9, some 43, 0x3ff), (10, some 44, 0x7ff), (11, some 45, 0xfff), (12, some 46, 0x1fff), (13, some 47, 0x3fff), (14, some 48, 0x7fff), (15, some 49, 0xffff), (16, some 50, 0x1ffff), (17, some 51, 0x3ffff), (18, some 52, 0x7ffff), (19, some 53, 0xfffff), (20, some 54, 0x1fffff), (21, some 55, 0x3fffff), (22, some 56, 0x7fffff), (23, some 57, 0xffffff), (24, some 58, 0x1ffffff), (25, some 59, 0x3ffffff), (26, some 60, 0x7ffffff), (27, some 61, 0xfffffff), (28, some 62, 0x1fffffff), (29, some 63, 0x3fffffff), (30, some 64, 0x7fffffff), (31, some 65, 0xffffffff), (32, some 66, 0x1ffffffff), (33, some 67, 0x3ffffffff), (34, some 68, 0x7ffffffff), (35, some 69, 0xfffffffff), (36, some 70, 0x1fffffffff), (37, some 71, 0x3fffffffff), (38, some 72, 0x7fffffffff), (39, some 73, 0xffffffffff), (40, some 74, 0x1ffffffffff)] ?_; iterate 41 (first | (refine pr_ (v := undef) (a' := ?_) rfl rfl (by kernel_rfl) (fun _ _ _ h => h) (Or.inr ⟨by rfl, rfl⟩) ?_ ?_; rotate_left; (simp only [nm_]; rfl)) | (refine pr_ (v := ?_) (a' := ?_) rfl rfl (by kernel_rfl) (fun _ _ _ h => h) (Or.inl ⟨by rfl, ?_⟩) ?_ ?_; rotate_left; (intro w'; go_simp; with_reducible rfl); rotate_left; (simp only [nm_]; rfl)) | (refine tr_ (v := ?_) (a' := ?_) rfl rfl (by kernel_rfl) (fun _ _ _ h => h) (Or.inl ⟨by rfl, ?_⟩) hHeld ?_ ?_; rotate_left; (rintro w' ⟨s0, s1, s2, s3, s4⟩; go_simp; with_reducible rfl); rotate_left; (simp only [nm_]; rfl)))
         refine ql_ ?_
         refine done_ (by kernel_rfl) ?_
         have kBx := kBd
         go_wp2_with (fail)
         go_ret
         exact ⟨by rw [HRES.out, HBAD.out]; rfl, kBx⟩
        ·have c1 : decide ((0 : Int) < (n2 : Int)) = false := decide_eq_false (by omega)
         have c2 : decide ((2048 : Int) < (n2 : Int)) = false := decide_eq_false (by omega)
         have HDB : Aside0 (X.f1 = true → X.f2 = []) := ⟨fun _ => List.eq_nil_of_length_eq_zero (by rw [← HNE.out]; omega)⟩
         have HSZ : Aside0 (X.f2.length ≤ 2048) := ⟨by rw [← HNE.out]; omega⟩
         by_cases hi0 : i = 0
         ·have c3 : decide ((0 : Int) < (i : Int)) = false := decide_eq_false (by omega)
          have HI0 := Aside0.mk hi0
          obtain ⟨kk, hkk⟩ : ∃ kk : Int, kk = (i : Int) := ⟨_, rfl⟩
          rw [← hkk] at c3 ⊢
          have HWI2 : Aside0 (wrap64 (kk + 1) = ((i + 1 : Nat) : Int)) := ⟨by rw [hkk]; exact HWI.out⟩
          clear HWI hkk hi0 a1 a2
          have HWI := HWI2
          clear HWI2
          have HCX : Aside0 (Cx l0 i X) := ⟨⟨by rw [HPE.out]; exact HGP.out, by rw [HPE.out, ← HUPE.out]; exact of_decide_eq_true HG.out, HDB.out, HSZ.out, fun q hq _ => by have := HI0.out; omega⟩⟩
          refine start_ (n := 41) (S := fun w' => (Instr.lookup 102 (.map (some mb)) (.string up) false).run Tryz.prog w' = .ok (.bool true) w' ∧ w'.cell? ⟨eb, 1, none⟩ = some (.bool true) ∧ w'.cell? ⟨eb, 2, none⟩ = some (.slice A9 n2 c9) ∧ w'.cell? ⟨eb, 0, none⟩ = some (.string p) ∧ w'.cell? ⟨w.heap.size, 0, none⟩ = some (.slice (some ad) l0.length c0)) (ds := []) (bs_ 41 0x0) (by kernel_rfl) rfl rfl ⟨sd0, sd1, sd2, sd3, sd4⟩ (fun hHeld => ?_)
          generalize W2.drew = wd at sd0 sd1 sd2 sd3 sd4 hMd kbd kBd hHeld ⊢
          refine pl_ [(0, some 34, 0x1), (1, some 35, 0x3), (2, some 36, 0x7), (3, some 37, 0xf), (4, some 38, 0x1f), (5, some 39, 0x3f), (6, some 40, 0x7f), (7, some 41, 0xff), (8, some 42, 0x1ff), (9, some 43, 0x3ff), (10, some 44, 0x7ff), (11, some 45, 0xfff), (12, some 46, 0x1fff), (13, some 47, 0x3fff), (14, some 48, 0x7fff), (15, some 49, 0xffff), (16, some 50, 0x1ffff), (17, some 51, 0x3ffff), (18, some 52, 0x7ffff), (19, some 53, 0xfffff), (20, some 54, 0x1fffff), (21, some 55, 0x3fffff), (22, some 56, 0x7fffff), (23, some 57, 0xffffff), (24, some 58, 0x1ffffff), (25, some 59, 0x3ffffff), (26, some 60, 0x7ffffff), (27, some 61, 0xfffffff), (28, some 62, 0x1fffffff), (29, some 63, 0x3fffffff), (30, some 64, 0x7fffffff), (31, some 65, 0xffffffff), (32, some 66, 0x1ffffffff), (33, some 67, 0x3ffffffff), (34, some 68, 0x7ffffffff), (35, some 69, 0xfffffffff), (36, some 70, 0x1fffffffff), (37, some 71, 0x3fffffffff), (38, some 72, 0x7fffffffff), (39, some 73, 0xffffffffff), (40, some 74, 0x1ffffffffff)] ?_; iterate 41 (first | (refine pr_ (v := undef) (a' := ?_) rfl rfl (by kernel_rfl) (fun _ _ _ h => h) (Or.inr ⟨by rfl, rfl⟩) ?_ ?_; rotate_left; (simp only [nm_]; rfl)) | (refine pr_ (v := ?_) (a' := ?_) rfl rfl (by kernel_rfl) (fun _ _ _ h => h) (Or.inl ⟨by rfl, ?_⟩) ?_ ?_; rotate_left; (intro w'; go_simp; with_reducible rfl); rotate_left; (simp only [nm_]; rfl)) | (refine tr_ (v := ?_) (a' := ?_) rfl rfl (by kernel_rfl) (fun _ _ _ h => h) (Or.inl ⟨by rfl, ?_⟩) hHeld ?_ ?_; rotate_left; (rintro w' ⟨s0, s1, s2, s3, s4⟩; go_simp; with_reducible rfl); rotate_left; (simp only [nm_]; rfl)))
          refine ql_ ?_
          refine done_ (by kernel_rfl) ?_
          have kBx := kBd
          have kbx := kbd
          have hMx := hMd
          obtain ⟨sx0, sx1, sx2, sx3, sx4⟩ := hHeld
          go_wp2_with (refine update_dir hMx rfl (.tmp 75) (.tmp 77) (.tmp 79) rfl rfl rfl rfl HPS.out HMAX.out ?_; intro W5 hm5 hg5; refine Stop.out ?_)
          constructor
          have hcx := HCX.out
          go_wp2_with (fail)
          go_roundg (l0.length - (i + 1))
          case measure => omega
          case rel => exact ⟨i + 1, a, rfl, by rw [HWI.out], Cs_succ a HC.out (HX.out ▸ hcx), hm5.congr (fun s => dir_step a HC.out (HX.out ▸ hcx) (by rw [← HX.out, HPE.out]) (by rw [← HX.out, HDE.out]) s), (hg5.block _ (blk_lt kbx) (by intro e; injection e with e; omega)).trans kbx, kBx.grown hg5 (by have := kBx.size; omega) (by intro k hk; injection hk with hk; omega)⟩
         ·obtain ⟨m, hm⟩ : ∃ m, i = m + 1 := ⟨i - 1, by omega⟩
          have c3 : decide ((0 : Int) < (i : Int)) = true := decide_eq_true (by omega)
          have hmr : m < l0.length := by omega
          obtain ⟨ad', A8, c8, had, e0, _, _, _, _⟩ := atT (Kd.C_below HR.out kBd) m hmr
          obtain rfl : ad = ad' := by injection had
          have hqs : l0[m].f0.size < 4294967280 := HS.out _ (List.getElem_mem hmr)
          obtain ⟨q, hq⟩ : ∃ q, q = l0[m].f0 := ⟨_, rfl⟩
          rw [← hq] at e0 hqs
          have sd5 : W2.drew.cell? (ad.add (m * 3)) = some (.string q) := e0
          obtain ⟨cc, hcc⟩ : ∃ cc, cc = cL (sp q.data.toList) (sp p.data.toList) := ⟨_, rfl⟩
          have kC : ∀ W, Calls Tryz.prog 61 #[.string q, .string p] W fun e w' => e = .returned (.int .i64 cc) ∧ Below W.heap.size W w' := fun W => path_Cmp.calls q p cc W (by unfold path_Cmp.f; rw [if_pos (by omega), if_pos (by have := HXS.out; omega), hcc])
          have HLT : Aside0 (cc < 0 ↔ ltP q p) := ⟨by rw [hcc]; exact Iff.rfl⟩
          have HQ := Aside0.mk hq
          have HM := Aside0.mk hm
          obtain ⟨kk, hkk⟩ : ∃ kk : Int, kk = (i : Int) := ⟨_, rfl⟩
          have HKK := Aside0.mk hkk
          have p2 : wrap64 (kk - 1) = (m : Int) := by unfold wrap64; omega
          have p3 : decide ((m : Int) < (l0.length : Int)) = true := decide_eq_true (by omega)
          have p4 : decide (0 ≤ (m : Int)) = true := decide_eq_true (by omega)
          rw [← hkk] at c3 ⊢
          have HWI2 : Aside0 (wrap64 (kk + 1) = ((i + 1 : Nat) : Int)) := ⟨by rw [hkk]; exact HWI.out⟩
          clear HWI hq hm hcc hqs e0 had hkk hi0 a1 a2
          have HWI := HWI2
          clear HWI2
          refine start_ (n := 41) (S := fun w' => (Instr.lookup 102 (.map (some mb)) (.string up) false).run Tryz.prog w' = .ok (.bool true) w' ∧ w'.cell? ⟨eb, 1, none⟩ = some (.bool true) ∧ w'.cell? ⟨eb, 2, none⟩ = some (.slice A9 n2 c9) ∧ w'.cell? ⟨eb, 0, none⟩ = some (.string p) ∧ w'.cell? ⟨w.heap.size, 0, none⟩ = some (.slice (some ad) l0.length c0) ∧ w'.cell? (ad.add (m * 3)) = some (.string q)) (ds := []) (bs_ 41 0x0) (by kernel_rfl) rfl rfl ⟨sd0, sd1, sd2, sd3, sd4, sd5⟩ (fun hHeld => ?_)
          generalize W2.drew = wd at sd0 sd1 sd2 sd3 sd4 sd5 hMd kbd kBd hHeld ⊢
          refine pl_ [(0, some 34, 0x1), (1, some 35, 0x3), (2, some 36, 0x7), (3, some 37, 0xf), (4, some 38, 0x1f), (5, some 39, 0x3f), (6, some 40, 0x7f), (7, some 41, 0xff), (8, some 42, 0x1ff), (9, some 43, 0x3ff), (10, some 44, 0x7ff), (11, some 45, 0xfff), (12, some 46, 0x1fff), (13, some 47, 0x3fff), (14, some 48, 0x7fff), (15, some 49, 0xffff), (16, some 50, 0x1ffff), (17, some 51, 0x3ffff), (18, some 52, 0x7ffff), (19, some 53, 0xfffff), (20, some 54, 0x1fffff), (21, some 55, 0x3fffff), (22, some 56, 0x7fffff), (23, some 57, 0xffffff), (24, some 58, 0x1ffffff), (25, some 59, 0x3ffffff), (26, some 60, 0x7ffffff), (27, some 61, 0xfffffff), (28, some 62, 0x1fffffff), (30, some 64, 0x5fffffff), (31, some 65, 0xdfffffff), (35, some 69, 0x8dfffffff), (29, some 63, 0x8ffffffff), (32, some 66, 0x9ffffffff), (33, some 67, 0xbffffffff), (34, some 68, 0xfffffffff), (36, some 70, 0x1fffffffff)] ?_; iterate 37 (first | (refine pr_ (v := ?_) (a' := ?_) rfl rfl (by kernel_rfl) (fun _ _ _ h => h) (Or.inl ⟨by rfl, ?_⟩) ?_ ?_; rotate_left; (intro w'; go_simp; with_reducible rfl); rotate_left; (simp only [nm_]; rfl)) | (refine tr_ (v := ?_) (a' := ?_) rfl rfl (by kernel_rfl) (fun _ _ _ h => h) (Or.inl ⟨by rfl, ?_⟩) hHeld ?_ ?_; rotate_left; (rintro w' ⟨s0, s1, s2, s3, s4, s5⟩; go_simp; with_reducible rfl); rotate_left; (simp only [nm_]; rfl)))
          refine ql_ ?_
          refine one_ (i := 37) (N := some 71) (bs_ 41 0x3fffffffff) rfl rfl (by kernel_rfl) (by decide) (fun K hK => ?_)
          refine goes_ Tryz.func61 (by kernel_rfl) rfl #[.string q, .string p] (by rfl) rfl rfl (by simp only [List.map_toArray, List.map_cons, List.map_nil]; rfl) ?_
          with_reducible refine (kC wd).mono ?_
          rintro e w3 ⟨rfl, hb3⟩
          refine ⟨_, rfl, ?_⟩
          refine hK.out _ _ ⟨(by rw [← HG.out]; exact (hMd.below hb3).look HUP.out), (Below.cell hb3 (cell_lt2 sd1)).trans sd1, (Below.cell hb3 (cell_lt2 sd2)).trans sd2, (Below.cell hb3 (cell_lt2 sd3)).trans sd3, (Below.cell hb3 (cell_lt2 sd4)).trans sd4, (Below.cell hb3 (cell_lt2 sd5)).trans sd5⟩ (fun hHeld => ?_)
          clear hK K
          refine norm_ (a' := ?_) ?_ ?_
          rotate_left
          ·show Act.put _ (some 71) _ = _
           simp only [nm_]
           rfl
          refine pl_ [(38, some 72, 0x7fffffffff), (39, some 73, 0xffffffffff), (40, some 74, 0x1ffffffffff)] ?_; iterate 3 (refine pr_ (v := ?_) (a' := ?_) rfl rfl (by kernel_rfl) (fun _ _ _ h => h) (Or.inl ⟨by rfl, ?_⟩) ?_ ?_; rotate_left; (intro w'; go_simp; with_reducible rfl); rotate_left; (simp only [nm_]; rfl))
          refine ql_ ?_
          refine done_ (by kernel_rfl) ?_
          have kBx := kBd.trans (hb3.mono kBd.size)
          have kbx := (hb3.block _ (blk_lt kbd)).trans kbd
          have hMx := hMd.below hb3
          by_cases hc0 : 0 ≤ cc
          ·have p5 : decide (0 ≤ cc) = true := decide_eq_true hc0
           have HBAD : Aside0 (decide (GT30 l0) = false) := ⟨HBAD0.out fun c => by have h := c.lt m HM.out hmr; rw [← HQ.out, HPE.out] at h; have := HLT.out.2 h; omega⟩
           go_wp2_with (fail)
           go_ret
           exact ⟨by rw [HRES.out, HBAD.out]; rfl, kBx⟩
          ·have p5 : decide (0 ≤ cc) = false := decide_eq_false hc0
           have HCX : Aside0 (Cx l0 i X) := ⟨⟨by rw [HPE.out]; exact HGP.out, by rw [HPE.out, ← HUPE.out]; exact of_decide_eq_true HG.out, HDB.out, HSZ.out, fun q' hq' hl' => by
            obtain rfl : q' = m := by have := HM.out; omega
            rw [← HQ.out, HPE.out]
            exact HLT.out.1 (by omega)⟩⟩
           obtain ⟨sx0, sx1, sx2, sx3, sx4, sx5⟩ := hHeld
           go_wp2_with (refine update_dir hMx rfl (.tmp 75) (.tmp 77) (.tmp 79) rfl rfl rfl rfl HPS.out HMAX.out ?_; intro W5 hm5 hg5; refine Stop.out ?_)
           constructor
           have hcx := HCX.out
           go_wp2_with (fail)
           go_roundg (l0.length - (i + 1))
           case measure => omega
           case rel => exact ⟨i + 1, a, rfl, by rw [HWI.out], Cs_succ a HC.out (HX.out ▸ hcx), hm5.congr (fun s => dir_step a HC.out (HX.out ▸ hcx) (by rw [← HX.out, HPE.out]) (by rw [← HX.out, HDE.out]) s), (hg5.block _ (blk_lt kbx) (by intro e; injection e with e; omega)).trans kbx, kBx.grown hg5 (by have := kBx.size; omega) (by intro k hk; injection hk with hk; omega)⟩
       | false =>
        have HDB : Aside0 (X.f1 = true → X.f2 = []) := ⟨fun h => by rw [HDE.out] at h; cases h⟩
        by_cases hn1 : 2048 < n2
        ·have c2 : decide ((2048 : Int) < (n2 : Int)) = true := decide_eq_true (by omega)
         have HBAD : Aside0 (decide (GT30 l0) = false) := ⟨HBAD0.out fun c => by have h := c.sz; rw [← HNE.out] at h; omega⟩
         refine start_ (n := 41) (S := fun w' => (Instr.lookup 102 (.map (some mb)) (.string up) false).run Tryz.prog w' = .ok (.bool true) w' ∧ w'.cell? ⟨eb, 1, none⟩ = some (.bool false) ∧ w'.cell? ⟨eb, 2, none⟩ = some (.slice A9 n2 c9) ∧ w'.cell? ⟨eb, 0, none⟩ = some (.string p) ∧ w'.cell? ⟨w.heap.size, 0, none⟩ = some (.slice (some ad) l0.length c0)) (ds := []) (bs_ 41 0x0) (by kernel_rfl) rfl rfl ⟨sd0, sd1, sd2, sd3, sd4⟩ (fun hHeld => ?_)
         generalize W2.drew = wd at sd0 sd1 sd2 sd3 sd4 hMd kbd kBd hHeld ⊢
         refine pl_ [(0, some 34, 0x1), (1, some 35, 0x3), (2, some 36, 0x7), (3, some 37, 0xf), (4, some 38, 0x1f), (5, some 39, 0x3f), (6, some 40, 0x7f), (7, some 41, 0xff), (8, some 42, 0x1ff), (9, some 43, 0x3ff), (10, some 44, 0x7ff), (11, some 45, 0xfff), (12, some 46, 0x1fff), (13, some 47, 0x3fff), (14, some 48, 0x7fff), (15, some 49, 0xffff), (16, some 50, 0x1ffff), (17, some 51, 0x3ffff), (18, some 52, 0x7ffff), (19, some 53, 0xfffff), (20, some 54, 0x1fffff), (21, some 55, 0x3fffff), (22, some 56, 0x7fffff), (23, some 57, 0xffffff), (24, some 58, 0x1ffffff), (25, some 59, 0x3ffffff), (26, some 60, 0x7ffffff), (27, some 61, 0xfffffff), (28, some 62, 0x1fffffff), (29, some 63, 0x3fffffff), (30, some 64, 0x7fffffff), (31, some 65, 0xffffffff), (32, some 66, 0x1ffffffff), (33, some 67, 0x3ffffffff), (34, some 68, 0x7ffffffff), (35, some 69, 0xfffffffff), (36, some 70, 0x1fffffffff), (37, some 71, 0x3fffffffff), (38, some 72, 0x7fffffffff), (39, some 73, 0xffffffffff), (40, some 74, 0x1ffffffffff)] ?_; iterate 41 (first | (refine pr_ (v := undef) (a' := ?_) rfl rfl (by kernel_rfl) (fun _ _ _ h => h) (Or.inr ⟨by rfl, rfl⟩) ?_ ?_; rotate_left; (simp only [nm_]; rfl)) | (refine pr_ (v := ?_) (a' := ?_) rfl rfl (by kernel_rfl) (fun _ _ _ h => h) (Or.inl ⟨by rfl, ?_⟩) ?_ ?_; rotate_left; (intro w'; go_simp; with_reducible rfl); rotate_left; (simp only [nm_]; rfl)) | (refine tr_ (v := ?_) (a' := ?_) rfl rfl (by kernel_rfl) (fun _ _ _ h => h) (Or.inl ⟨by rfl, ?_⟩) hHeld ?_ ?_; rotate_left; (rintro w' ⟨s0, s1, s2, s3, s4⟩; go_simp; with_reducible rfl); rotate_left; (simp only [nm_]; rfl)))
         refine ql_ ?_
         refine done_ (by kernel_rfl) ?_
         have kBx := kBd
         go_wp2_with (fail)
         go_ret
         exact ⟨by rw [HRES.out, HBAD.out]; rfl, kBx⟩
        ·have c2 : decide ((2048 : Int) < (n2 : Int)) = false := decide_eq_false (by omega)
         have HSZ : Aside0 (X.f2.length ≤ 2048) := ⟨by rw [← HNE.out]; omega⟩
         by_cases hi0 : i = 0
         ·have c3 : decide ((0 : Int) < (i : Int)) = false := decide_eq_false (by omega)
          have HI0 := Aside0.mk hi0
          obtain ⟨kk, hkk⟩ : ∃ kk : Int, kk = (i : Int) := ⟨_, rfl⟩
          rw [← hkk] at c3 ⊢
          have HWI2 : Aside0 (wrap64 (kk + 1) = ((i + 1 : Nat) : Int)) := ⟨by rw [hkk]; exact HWI.out⟩
          clear HWI hkk hi0 a1 a2
          have HWI := HWI2
          clear HWI2
          have HCX : Aside0 (Cx l0 i X) := ⟨⟨by rw [HPE.out]; exact HGP.out, by rw [HPE.out, ← HUPE.out]; exact of_decide_eq_true HG.out, HDB.out, HSZ.out, fun q hq _ => by have := HI0.out; omega⟩⟩
          refine start_ (n := 41) (S := fun w' => (Instr.lookup 102 (.map (some mb)) (.string up) false).run Tryz.prog w' = .ok (.bool true) w' ∧ w'.cell? ⟨eb, 1, none⟩ = some (.bool false) ∧ w'.cell? ⟨eb, 2, none⟩ = some (.slice A9 n2 c9) ∧ w'.cell? ⟨eb, 0, none⟩ = some (.string p) ∧ w'.cell? ⟨w.heap.size, 0, none⟩ = some (.slice (some ad) l0.length c0)) (ds := []) (bs_ 41 0x0) (by kernel_rfl) rfl rfl ⟨sd0, sd1, sd2, sd3, sd4⟩ (fun hHeld => ?_)
          generalize W2.drew = wd at sd0 sd1 sd2 sd3 sd4 hMd kbd kBd hHeld ⊢
          refine pl_ [(0, some 34, 0x1), (1, some 35, 0x3), (2, some 36, 0x7), (3, some 37, 0xf), (4, some 38, 0x1f), (5, some 39, 0x3f), (6, some 40, 0x7f), (7, some 41, 0xff), (8, some 42, 0x1ff), (9, some 43, 0x3ff), (10, some 44, 0x7ff), (11, some 45, 0xfff), (12, some 46, 0x1fff), (13, some 47, 0x3fff), (14, some 48, 0x7fff), (15, some 49, 0xffff), (16, some 50, 0x1ffff), (17, some 51, 0x3ffff), (18, some 52, 0x7ffff), (19, some 53, 0xfffff), (20, some 54, 0x1fffff), (21, some 55, 0x3fffff), (22, some 56, 0x7fffff), (23, some 57, 0xffffff), (24, some 58, 0x1ffffff), (25, some 59, 0x3ffffff), (26, some 60, 0x7ffffff), (27, some 61, 0xfffffff), (28, some 62, 0x1fffffff), (29, some 63, 0x3fffffff), (30, some 64, 0x7fffffff), (31, some 65, 0xffffffff), (32, some 66, 0x1ffffffff), (33, some 67, 0x3ffffffff), (34, some 68, 0x7ffffffff), (35, some 69, 0xfffffffff), (36, some 70, 0x1fffffffff), (37, some 71, 0x3fffffffff), (38, some 72, 0x7fffffffff), (39, some 73, 0xffffffffff), (40, some 74, 0x1ffffffffff)] ?_; iterate 41 (first | (refine pr_ (v := undef) (a' := ?_) rfl rfl (by kernel_rfl) (fun _ _ _ h => h) (Or.inr ⟨by rfl, rfl⟩) ?_ ?_; rotate_left; (simp only [nm_]; rfl)) | (refine pr_ (v := ?_) (a' := ?_) rfl rfl (by kernel_rfl) (fun _ _ _ h => h) (Or.inl ⟨by rfl, ?_⟩) ?_ ?_; rotate_left; (intro w'; go_simp; with_reducible rfl); rotate_left; (simp only [nm_]; rfl)) | (refine tr_ (v := ?_) (a' := ?_) rfl rfl (by kernel_rfl) (fun _ _ _ h => h) (Or.inl ⟨by rfl, ?_⟩) hHeld ?_ ?_; rotate_left; (rintro w' ⟨s0, s1, s2, s3, s4⟩; go_simp; with_reducible rfl); rotate_left; (simp only [nm_]; rfl)))
          refine ql_ ?_
          refine done_ (by kernel_rfl) ?_
          have kBx := kBd
          have kbx := kbd
          have hMx := hMd
          obtain ⟨sx0, sx1, sx2, sx3, sx4⟩ := hHeld
          go_wp2_with (refine update_dir hMx rfl (.tmp 75) (.tmp 77) (.tmp 79) rfl rfl rfl rfl HPS.out HMAX.out ?_; intro W5 hm5 hg5; refine Stop.out ?_)
          constructor
          have hcx := HCX.out
          go_wp2_with (fail)
          go_roundg (l0.length - (i + 1))
          case measure => omega
          case rel => exact ⟨i + 1, a, rfl, by rw [HWI.out], Cs_succ a HC.out (HX.out ▸ hcx), hm5.congr (fun s => dir_step a HC.out (HX.out ▸ hcx) (by rw [← HX.out, HPE.out]) (by rw [← HX.out, HDE.out]) s), (hg5.block _ (blk_lt kbx) (by intro e; injection e with e; omega)).trans kbx, kBx.grown hg5 (by have := kBx.size; omega) (by intro k hk; injection hk with hk; omega)⟩
         ·obtain ⟨m, hm⟩ : ∃ m, i = m + 1 := ⟨i - 1, by omega⟩
          have c3 : decide ((0 : Int) < (i : Int)) = true := decide_eq_true (by omega)
          have hmr : m < l0.length := by omega
          obtain ⟨ad', A8, c8, had, e0, _, _, _, _⟩ := atT (Kd.C_below HR.out kBd) m hmr
          obtain rfl : ad = ad' := by injection had
          have hqs : l0[m].f0.size < 4294967280 := HS.out _ (List.getElem_mem hmr)
          obtain ⟨q, hq⟩ : ∃ q, q = l0[m].f0 := ⟨_, rfl⟩
          rw [← hq] at e0 hqs
          have sd5 : W2.drew.cell? (ad.add (m * 3)) = some (.string q) := e0
          obtain ⟨cc, hcc⟩ : ∃ cc, cc = cL (sp q.data.toList) (sp p.data.toList) := ⟨_, rfl⟩
          have kC : ∀ W, Calls Tryz.prog 61 #[.string q, .string p] W fun e w' => e = .returned (.int .i64 cc) ∧ Below W.heap.size W w' := fun W => path_Cmp.calls q p cc W (by unfold path_Cmp.f; rw [if_pos (by omega), if_pos (by have := HXS.out; omega), hcc])
          have HLT : Aside0 (cc < 0 ↔ ltP q p) := ⟨by rw [hcc]; exact Iff.rfl⟩
          have HQ := Aside0.mk hq
          have HM := Aside0.mk hm
          obtain ⟨kk, hkk⟩ : ∃ kk : Int, kk = (i : Int) := ⟨_, rfl⟩
          have HKK := Aside0.mk hkk
          have p2 : wrap64 (kk - 1) = (m : Int) := by unfold wrap64; omega
          have p3 : decide ((m : Int) < (l0.length : Int)) = true := decide_eq_true (by omega)
          have p4 : decide (0 ≤ (m : Int)) = true := decide_eq_true (by omega)
          rw [← hkk] at c3 ⊢
          have HWI2 : Aside0 (wrap64 (kk + 1) = ((i + 1 : Nat) : Int)) := ⟨by rw [hkk]; exact HWI.out⟩
          clear HWI hq hm hcc hqs e0 had hkk hi0 a1 a2
          have HWI := HWI2
          clear HWI2
          refine start_ (n := 41) (S := fun w' => (Instr.lookup 102 (.map (some mb)) (.string up) false).run Tryz.prog w' = .ok (.bool true) w' ∧ w'.cell? ⟨eb, 1, none⟩ = some (.bool false) ∧ w'.cell? ⟨eb, 2, none⟩ = some (.slice A9 n2 c9) ∧ w'.cell? ⟨eb, 0, none⟩ = some (.string p) ∧ w'.cell? ⟨w.heap.size, 0, none⟩ = some (.slice (some ad) l0.length c0) ∧ w'.cell? (ad.add (m * 3)) = some (.string q)) (ds := []) (bs_ 41 0x0) (by kernel_rfl) rfl rfl ⟨sd0, sd1, sd2, sd3, sd4, sd5⟩ (fun hHeld => ?_)
          generalize W2.drew = wd at sd0 sd1 sd2 sd3 sd4 sd5 hMd kbd kBd hHeld ⊢
          refine pl_ [(0, some 34, 0x1), (1, some 35, 0x3), (2, some 36, 0x7), (3, some 37, 0xf), (4, some 38, 0x1f), (5, some 39, 0x3f), (6, some 40, 0x7f), (7, some 41, 0xff), (8, some 42, 0x1ff), (9, some 43, 0x3ff), (10, some 44, 0x7ff), (11, some 45, 0xfff), (12, some 46, 0x1fff), (13, some 47, 0x3fff), (14, some 48, 0x7fff), (15, some 49, 0xffff), (16, some 50, 0x1ffff), (17, some 51, 0x3ffff), (18, some 52, 0x7ffff), (19, some 53, 0xfffff), (20, some 54, 0x1fffff), (21, some 55, 0x3fffff), (22, some 56, 0x7fffff), (23, some 57, 0xffffff), (24, some 58, 0x1ffffff), (25, some 59, 0x3ffffff), (26, some 60, 0x7ffffff), (27, some 61, 0xfffffff), (28, some 62, 0x1fffffff), (30, some 64, 0x5fffffff), (31, some 65, 0xdfffffff), (35, some 69, 0x8dfffffff), (29, some 63, 0x8ffffffff), (32, some 66, 0x9ffffffff), (33, some 67, 0xbffffffff), (34, some 68, 0xfffffffff), (36, some 70, 0x1fffffffff)] ?_; iterate 37 (first | (refine pr_ (v := undef) (a' := ?_) rfl rfl (by kernel_rfl) (fun _ _ _ h => h) (Or.inr ⟨by rfl, rfl⟩) ?_ ?_; rotate_left; (simp only [nm_]; rfl)) | (refine pr_ (v := ?_) (a' := ?_) rfl rfl (by kernel_rfl) (fun _ _ _ h => h) (Or.inl ⟨by rfl, ?_⟩) ?_ ?_; rotate_left; (intro w'; go_simp; with_reducible rfl); rotate_left; (simp only [nm_]; rfl)) | (refine tr_ (v := ?_) (a' := ?_) rfl rfl (by kernel_rfl) (fun _ _ _ h => h) (Or.inl ⟨by rfl, ?_⟩) hHeld ?_ ?_; rotate_left; (rintro w' ⟨s0, s1, s2, s3, s4, s5⟩; go_simp; with_reducible rfl); rotate_left; (simp only [nm_]; rfl)))
          refine ql_ ?_
          refine one_ (i := 37) (N := some 71) (bs_ 41 0x3fffffffff) rfl rfl (by kernel_rfl) (by decide) (fun K hK => ?_)
          refine goes_ Tryz.func61 (by kernel_rfl) rfl #[.string q, .string p] (by rfl) rfl rfl (by simp only [List.map_toArray, List.map_cons, List.map_nil]; rfl) ?_
          with_reducible refine (kC wd).mono ?_
          rintro e w3 ⟨rfl, hb3⟩
          refine ⟨_, rfl, ?_⟩
          refine hK.out _ _ ⟨(by rw [← HG.out]; exact (hMd.below hb3).look HUP.out), (Below.cell hb3 (cell_lt2 sd1)).trans sd1, (Below.cell hb3 (cell_lt2 sd2)).trans sd2, (Below.cell hb3 (cell_lt2 sd3)).trans sd3, (Below.cell hb3 (cell_lt2 sd4)).trans sd4, (Below.cell hb3 (cell_lt2 sd5)).trans sd5⟩ (fun hHeld => ?_)
          clear hK K
          refine norm_ (a' := ?_) ?_ ?_
          rotate_left
          ·show Act.put _ (some 71) _ = _
           simp only [nm_]
           rfl
          refine pl_ [(38, some 72, 0x7fffffffff), (39, some 73, 0xffffffffff), (40, some 74, 0x1ffffffffff)] ?_; iterate 3 (refine pr_ (v := ?_) (a' := ?_) rfl rfl (by kernel_rfl) (fun _ _ _ h => h) (Or.inl ⟨by rfl, ?_⟩) ?_ ?_; rotate_left; (intro w'; go_simp; with_reducible rfl); rotate_left; (simp only [nm_]; rfl))
          refine ql_ ?_
          refine done_ (by kernel_rfl) ?_
          have kBx := kBd.trans (hb3.mono kBd.size)
          have kbx := (hb3.block _ (blk_lt kbd)).trans kbd
          have hMx := hMd.below hb3
          by_cases hc0 : 0 ≤ cc
          ·have p5 : decide (0 ≤ cc) = true := decide_eq_true hc0
           have HBAD : Aside0 (decide (GT30 l0) = false) := ⟨HBAD0.out fun c => by have h := c.lt m HM.out hmr; rw [← HQ.out, HPE.out] at h; have := HLT.out.2 h; omega⟩
           go_wp2_with (fail)
           go_ret
           exact ⟨by rw [HRES.out, HBAD.out]; rfl, kBx⟩
          ·have p5 : decide (0 ≤ cc) = false := decide_eq_false hc0
           have HCX : Aside0 (Cx l0 i X) := ⟨⟨by rw [HPE.out]; exact HGP.out, by rw [HPE.out, ← HUPE.out]; exact of_decide_eq_true HG.out, HDB.out, HSZ.out, fun q' hq' hl' => by
            obtain rfl : q' = m := by have := HM.out; omega
            rw [← HQ.out, HPE.out]
            exact HLT.out.1 (by omega)⟩⟩
           obtain ⟨sx0, sx1, sx2, sx3, sx4, sx5⟩ := hHeld
           go_wp2_with (refine update_dir hMx rfl (.tmp 75) (.tmp 77) (.tmp 79) rfl rfl rfl rfl HPS.out HMAX.out ?_; intro W5 hm5 hg5; refine Stop.out ?_)
           constructor
           have hcx := HCX.out
           go_wp2_with (fail)
           go_roundg (l0.length - (i + 1))
           case measure => omega
           case rel => exact ⟨i + 1, a, rfl, by rw [HWI.out], Cs_succ a HC.out (HX.out ▸ hcx), hm5.congr (fun s => dir_step a HC.out (HX.out ▸ hcx) (by rw [← HX.out, HPE.out]) (by rw [← HX.out, HDE.out]) s), (hg5.block _ (blk_lt kbx) (by intro e; injection e with e; omega)).trans kbx, kBx.grown hg5 (by have := kBx.size; omega) (by intro k hk; injection hk with hk; omega)⟩
      ·have hg2 : decide (dirAt l0 i up) = false := by simpa using hg1
       have HBAD : Aside0 (decide (GT30 l0) = false) := ⟨HBAD0.out fun c => by have h := c.up; rw [HPE.out, ← HUPE.out] at h; rw [decide_eq_true h] at hg2; cases hg2⟩
       have HG := Aside0.mk hg2
       have sd0 : (Instr.lookup 102 (.map (some mb)) (.string up) false).run Tryz.prog W2.drew = .ok (.bool false) W2.drew := by have h := hMd.look (s := up) HUP.out; simp only [hg2] at h; exact h
       clear hg1 hg2
       refine start_ (n := 41) (S := fun w' => (Instr.lookup 102 (.map (some mb)) (.string up) false).run Tryz.prog w' = .ok (.bool false) w' ∧ w'.cell? ⟨eb, 1, none⟩ = some (.bool dd) ∧ w'.cell? ⟨eb, 2, none⟩ = some (.slice A9 n2 c9) ∧ w'.cell? ⟨eb, 0, none⟩ = some (.string p) ∧ w'.cell? ⟨w.heap.size, 0, none⟩ = some (.slice (some ad) l0.length c0)) (ds := []) (bs_ 41 0x0) (by kernel_rfl) rfl rfl ⟨sd0, sd1, sd2, sd3, sd4⟩ (fun hHeld => ?_)
       generalize W2.drew = wd at sd0 sd1 sd2 sd3 sd4 hMd kbd kBd hHeld ⊢
       refine pl_ [(0, some 34, 0x1), (1, some 35, 0x3), (2, some 36, 0x7), (3, some 37, 0xf), (4, some 38, 0x1f), (5, some 39, 0x3f), (6, some 40, 0x7f), (7, some 41, 0xff), (8, some 42, 0x1ff), (9, some 43, 0x3ff), (10, some 44, 0x7ff), (11, some 45, 0xfff), (12, some 46, 0x1fff), (13, some 47, 0x3fff), (14, some 48, 0x7fff), (15, some 49, 0xffff), (16, some 50, 0x1ffff), (17, some 51, 0x3ffff), (18, some 52, 0x7ffff), (19, some 53, 0xfffff), (20, some 54, 0x1fffff), (21, some 55, 0x3fffff), (22, some 56, 0x7fffff), (23, some 57, 0xffffff), (24, some 58, 0x1ffffff), (25, some 59, 0x3ffffff), (26, some 60, 0x7ffffff), (27, some 61, 0xfffffff), (28, some 62, 0x1fffffff), (29, some 63, 0x3fffffff), (30, some 64, 0x7fffffff), (31, some 65, 0xffffffff), (32, some 66, 0x1ffffffff), (33, some 67, 0x3ffffffff), (34, some 68, 0x7ffffffff), (35, some 69, 0xfffffffff), (36, some 70, 0x1fffffffff), (37, some 71, 0x3fffffffff), (38, some 72, 0x7fffffffff), (39, some 73, 0xffffffffff), (40, some 74, 0x1ffffffffff)] ?_; iterate 41 (first | (refine pr_ (v := undef) (a' := ?_) rfl rfl (by kernel_rfl) (fun _ _ _ h => h) (Or.inr ⟨by rfl, rfl⟩) ?_ ?_; rotate_left; (simp only [nm_]; rfl)) | (refine pr_ (v := ?_) (a' := ?_) rfl rfl (by kernel_rfl) (fun _ _ _ h => h) (Or.inl ⟨by rfl, ?_⟩) ?_ ?_; rotate_left; (intro w'; go_simp; with_reducible rfl); rotate_left; (simp only [nm_]; rfl)) | (refine tr_ (v := ?_) (a' := ?_) rfl rfl (by kernel_rfl) (fun _ _ _ h => h) (Or.inl ⟨by rfl, ?_⟩) hHeld ?_ ?_; rotate_left; (rintro w' ⟨s0, s1, s2, s3, s4⟩; go_simp; with_reducible rfl); rotate_left; (simp only [nm_]; rfl)))
       refine ql_ ?_
       refine done_ (by kernel_rfl) ?_
       have kBx := kBd
       go_wp2_with (fail)
       go_ret
       exact ⟨by rw [HRES.out, HBAD.out]; rfl, kBx⟩
     ·have HBAD : Aside0 (decide (GT30 l0) = false) := ⟨HBAD0.out fun c => g (by rw [← HPE.out]; exact c.gd)⟩
      obtain ⟨up, hupe⟩ : ∃ up : ByteArray, up = ⟨#[]⟩ := ⟨_, rfl⟩
      obtain ⟨gg, hgg⟩ : ∃ gg, gg = decide (dirAt l0 i up) := ⟨_, rfl⟩
      have sd0 : (Instr.lookup 102 (.map (some mb)) (.string up) false).run Tryz.prog W2.drew = .ok (.bool gg) W2.drew := by rw [hgg]; exact hMd.look (by rw [hupe]; decide)
      clear hupe hgg g HUPC2
      refine start_ (n := 41) (S := fun w' => (Instr.lookup 102 (.map (some mb)) (.string up) false).run Tryz.prog w' = .ok (.bool gg) w' ∧ w'.cell? ⟨eb, 1, none⟩ = some (.bool dd) ∧ w'.cell? ⟨eb, 2, none⟩ = some (.slice A9 n2 c9) ∧ w'.cell? ⟨eb, 0, none⟩ = some (.string p) ∧ w'.cell? ⟨w.heap.size, 0, none⟩ = some (.slice (some ad) l0.length c0)) (ds := []) (bs_ 41 0x0) (by kernel_rfl) rfl rfl ⟨sd0, sd1, sd2, sd3, sd4⟩ (fun hHeld => ?_)
      generalize W2.drew = wd at sd0 sd1 sd2 sd3 sd4 hMd kbd kBd hHeld ⊢
      refine pl_ [(0, some 34, 0x1), (1, some 35, 0x3), (2, some 36, 0x7), (3, some 37, 0xf), (4, some 38, 0x1f), (5, some 39, 0x3f), (6, some 40, 0x7f), (7, some 41, 0xff), (8, some 42, 0x1ff), (9, some 43, 0x3ff), (10, some 44, 0x7ff), (11, some 45, 0xfff), (12, some 46, 0x1fff), (13, some 47, 0x3fff), (14, some 48, 0x7fff), (15, some 49, 0xffff), (16, some 50, 0x1ffff), (17, some 51, 0x3ffff), (18, some 52, 0x7ffff), (19, some 53, 0xfffff), (20, some 54, 0x1fffff), (21, some 55, 0x3fffff), (22, some 56, 0x7fffff), (23, some 57, 0xffffff), (24, some 58, 0x1ffffff), (25, some 59, 0x3ffffff), (26, some 60, 0x7ffffff), (27, some 61, 0xfffffff), (28, some 62, 0x1fffffff), (29, some 63, 0x3fffffff), (30, some 64, 0x7fffffff), (31, some 65, 0xffffffff), (32, some 66, 0x1ffffffff), (33, some 67, 0x3ffffffff), (34, some 68, 0x7ffffffff), (35, some 69, 0xfffffffff), (36, some 70, 0x1fffffffff), (37, some 71, 0x3fffffffff), (38, some 72, 0x7fffffffff), (39, some 73, 0xffffffffff), (40, some 74, 0x1ffffffffff)] ?_; iterate 41 (first | (refine pr_ (v := undef) (a' := ?_) rfl rfl (by kernel_rfl) (fun _ _ _ h => h) (Or.inr ⟨by rfl, rfl⟩) ?_ ?_; rotate_left; (simp only [nm_]; rfl)) | (refine pr_ (v := ?_) (a' := ?_) rfl rfl (by kernel_rfl) (fun _ _ _ h => h) (Or.inl ⟨by rfl, ?_⟩) ?_ ?_; rotate_left; (intro w'; go_simp; with_reducible rfl); rotate_left; (simp only [nm_]; rfl)))
      refine ql_ ?_
      refine done_ (by kernel_rfl) ?_
      have kBx := kBd
      go_wp2_with (fail)
      go_ret
      exact ⟨by rw [HRES.out, HBAD.out]; rfl, kBx⟩
    ·have a1 : decide ((i : Int) < (l0.length : Int)) = false := decide_eq_false (by omega)
     obtain rfl : i = l0.length := by omega
     have ht : res = true := HRES.out.trans (decide_eq_true (Cs_all (by omega) (by rw [show nB S42.f2 l0 = nb from HNB.out.symm]; omega) hC))
     go_wp2_with (fail)
     go_ret
     exact ⟨by rw [ht]; rfl, kB⟩
def tree_Good.f (l0_0 : List S42) : Option Bool := if okP l0_0 = true ∧ nB30 l0_0 ≤ 1000000000000 then some (decide (GT30 l0_0)) else none
theorem tree_Good.calls (A0_0 : Option Addr) (c0_0 : Nat) (l0_0 : List S42) (r : Bool) (w : World) (hr0_0 : Kd.C k42 w A0_0 l0_0.length l0_0) (hc0_0 : l0_0.length ≤ c0_0) (h : tree_Good.f l0_0 = some r) :
  Calls Tryz.prog 18 #[.agg #[.slice A0_0 l0_0.length c0_0]] w fun e w' => e = .returned (.bool r) ∧ Below w.heap.size w w' := by
 unfold tree_Good.f at h
 split at h
 ·rename_i hh
  obtain rfl := Option.some.inj h
  have ho := okP_iff.1 hh.1
  exact Good_calls A0_0 c0_0 l0_0 w hr0_0 hc0_0 ho.1 ho.2 hh.2
 ·cases h
end Go.Proofs.YtidlldfghkaeeaaGreatDoor.P
end
section
namespace Go.Proofs.YtidlldfghkaeeaaGreatDoor.P
open Go.RowKit Go.Proofs.YtidlldfghkaeeaaGreatDoorW.PrintWords Go.Proofs.YtidlldfghkaeeaaGreatDoorW.PrintLast Go.Proofs.YtidlldfghkaeeaaGreatDoorW.PrintMore
attribute [local go_sem] max2_int min2_int max_two min_two max_three min_three max_four min_four
def tree_Bytes.f (k : Nat) (l0_0 : List (S42)) : Option (Int) := (tree_Good.f l0_0).bind fun t294 => (if t294 = true then ((tree_count.f k l0_0).bind fun t295 => (some t295)) else (some 0))
theorem tree_Bytes.calls (k : Nat) (A0_0 : Option Addr) (c0_0 : Nat) (l0_0 : List (S42)) (r : Int) (w : World) (hr0_0 : Kd.C k42 w A0_0 l0_0.length l0_0) (hc0_0 : l0_0.length ≤ c0_0) (h : tree_Bytes.f k l0_0 = some r) :
  Calls Tryz.prog 22 #[.agg #[.slice A0_0 l0_0.length c0_0]] w fun e w' => e = .returned (.int .i64 r) ∧ Below w.heap.size w w' := by
 have hu26 := Tryz.underlying26
 have HR0_0 := Aside0.mk hr0_0
 have HC0_0 := Aside0.mk hc0_0
 clear hr0_0 hc0_0
 have HB := xa_ (Below.refl w.heap.size w)
 have H : ((tree_Good.f l0_0).bind fun t294 => (if t294 = true then ((tree_count.f k l0_0).bind fun t295 => (some t295)) else (some 0))) = some r := h
 clear h
 replace H := Option.bind_eq_some_iff.mp H
 obtain ⟨t294, A20, H⟩ := H
 replace H : (if t294 = true then ((tree_count.f k l0_0).bind fun t295 => (some t295)) else (some 0)) = some r := H
 have A2 := Aside0.mk A20
 clear A20
 by_cases c3 : t294 = true
 ·subst c3
  have H1 : ((tree_count.f k l0_0).bind fun t295 => (some t295)) = some r := by rw [if_pos rfl] at H; exact H
  clear H
  have H := H1
  clear H1
  replace H := Option.bind_eq_some_iff.mp H
  obtain ⟨t295, A40, H⟩ := H
  replace H : (some t295) = some r := H
  have A4 := Aside0.mk A40
  clear A40
  obtain rfl := Option.some.inj H
  go_enter Tryz.func22, Tryz.ntmps22
  go_wp2_with (first | ((with_reducible refine gate_dst (N := 1) rfl ?_); refine box_event ?hg (N := 1) ?hd (cs := #[.slice A0_0 l0_0.length c0_0]) (t := 26) ?hr ?_; (case hd => rfl); (case hg => rfl); (case hr => first | (go_simp; done) | (go_simp; rfl)); intro gb293 hg w5 hbox hb; have BK293 := xa_ (hbox); have GW293 := xa_ ((by rw [hg]; exact (below_size (xw_ HB.out)) : w.heap.size ≤ gb293)); have GE293 := xa_ ((by rw [hg]; exact (below_size (xw_ HB.out)) : w.heap.size ≤ gb293)); replace HB := xa_ (below_step (xw_ HB.out) hb); clear hb hbox hg; have hcz6_0 : w5.cell? ⟨gb293, 0, none⟩ = some (.slice A0_0 l0_0.length c0_0) := (blk_cell BK293.out 0).trans rfl; have hfz6_0 := blk_frozen BK293.out 0) | ((with_reducible refine gate_callee (f := 18) rfl ?_); refine goesL_ (some 4) rfl rfl Tryz.func18 (by kernel_rfl) rfl #[.agg #[.slice A0_0 l0_0.length c0_0]] rfl (by (try simp only [ca_]); first | done | rfl) ?_; (with_reducible refine (tree_Good.calls _ _ l0_0 true _ ?side1 ?side2 A2.out).mono ?_); (case side1 => exact xC_ (Kd.C_below HR0_0.out HB.out)); (case side2 => exact HC0_0.out); rintro e w7 ⟨rfl, hb⟩; refine ⟨_, rfl, ?_⟩; replace BK293 := xa_ (blk_below (xb_ BK293.out) hb); replace HB := xa_ (below_step (xw_ HB.out) hb); (try clear hb); (try clear hb2); (try clear hk); (try clear hi); have hcz8_0 : w7.cell? ⟨gb293, 0, none⟩ = some (.slice A0_0 l0_0.length c0_0) := (blk_cell BK293.out 0).trans rfl; have hfz8_0 := blk_frozen BK293.out 0) | ((with_reducible refine gate_callee (f := 59) rfl ?_); refine goesL_ (some 8) rfl rfl Tryz.func59 (by kernel_rfl) rfl #[.slice A0_0 l0_0.length c0_0] rfl (by (try simp only [ca_]); first | done | rfl) ?_; (with_reducible refine (tree_count.calls k _ _ l0_0 t295 _ ?side1 ?side2 A4.out).mono ?_); (case side1 => exact xC_ (Kd.C_below HR0_0.out HB.out)); (case side2 => exact HC0_0.out); rintro e w9 ⟨rfl, hb⟩; refine ⟨_, rfl, ?_⟩; replace BK293 := xa_ (blk_below (xb_ BK293.out) hb); replace HB := xa_ (below_step (xw_ HB.out) hb); (try clear hb); (try clear hb2); (try clear hk); (try clear hi)))
  go_ret
  exact ⟨by first | rfl | (simp [*, errW_none, errW_some] <;> rfl), by repeat (first | (with_reducible first | exact HB.out | apply below_alloc | apply pw_below_drewN | apply below_drew1 | refine below_set ?_ GE293.out) | exact HB.out)⟩
 ·replace c3 := Bool.eq_false_iff.mpr c3
  subst c3
  have H1 : (some 0) = some r := by rw [if_neg (show ¬ (false = true) by decide)] at H; exact H
  clear H
  have H := H1
  clear H1
  obtain rfl := Option.some.inj H
  go_enter Tryz.func22, Tryz.ntmps22
  go_wp2_with (first | ((with_reducible refine gate_dst (N := 1) rfl ?_); refine box_event ?hg (N := 1) ?hd (cs := #[.slice A0_0 l0_0.length c0_0]) (t := 26) ?hr ?_; (case hd => rfl); (case hg => rfl); (case hr => first | (go_simp; done) | (go_simp; rfl)); intro gb293 hg w10 hbox hb; have BK293 := xa_ (hbox); have GW293 := xa_ ((by rw [hg]; exact (below_size (xw_ HB.out)) : w.heap.size ≤ gb293)); have GE293 := xa_ ((by rw [hg]; exact (below_size (xw_ HB.out)) : w.heap.size ≤ gb293)); replace HB := xa_ (below_step (xw_ HB.out) hb); clear hb hbox hg; have hcz11_0 : w10.cell? ⟨gb293, 0, none⟩ = some (.slice A0_0 l0_0.length c0_0) := (blk_cell BK293.out 0).trans rfl; have hfz11_0 := blk_frozen BK293.out 0) | ((with_reducible refine gate_callee (f := 18) rfl ?_); refine goesL_ (some 4) rfl rfl Tryz.func18 (by kernel_rfl) rfl #[.agg #[.slice A0_0 l0_0.length c0_0]] rfl (by (try simp only [ca_]); first | done | rfl) ?_; (with_reducible refine (tree_Good.calls _ _ l0_0 false _ ?side1 ?side2 A2.out).mono ?_); (case side1 => exact xC_ (Kd.C_below HR0_0.out HB.out)); (case side2 => exact HC0_0.out); rintro e w12 ⟨rfl, hb⟩; refine ⟨_, rfl, ?_⟩; replace BK293 := xa_ (blk_below (xb_ BK293.out) hb); replace HB := xa_ (below_step (xw_ HB.out) hb); (try clear hb); (try clear hb2); (try clear hk); (try clear hi)))
  go_ret
  exact ⟨by first | rfl | (simp [*, errW_none, errW_some] <;> rfl), by repeat (first | (with_reducible first | exact HB.out | apply below_alloc | apply pw_below_drewN | apply below_drew1 | refine below_set ?_ GE293.out) | exact HB.out)⟩
end Go.Proofs.YtidlldfghkaeeaaGreatDoor.P
end
