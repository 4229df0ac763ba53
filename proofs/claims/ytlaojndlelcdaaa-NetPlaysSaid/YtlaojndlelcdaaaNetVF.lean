/- NetPlays: some ways through a round. -/
import Derived.Test.YtlaojndlelcdaaaNetD
namespace Go.Proofs.Ytlaojndlelcdaaa.Nets
set_option linter.unusedSimpArgs false
set_option linter.unusedVariables false
open Go.RowKit Go.Proofs.Ytlaojndlelcdaaa.P Go.Proofs.YtlaojndlelcdaaaW.PrintWords Go.Proofs.YtlaojndlelcdaaaW.PrintLast Go.Proofs.YtlaojndlelcdaaaW.PrintMore
variable {w wc : World} {g gw gx cb : Nat} {Ab : Option Addr} {xo xt xi xa xy : Int} {xb : List Int} {gb : Bool} {qs rs : Ps} {c d : Int} {v0 v1 : Value} {K : Act → World → Prop} {K1 K2 K3 : Act → World → Prop}
    {u0 u1 u6 u17 u18 u19 u20 u21 u22 u23 u24 u25 u26 u27 u28 u29 u30 u31 u32 u33 u34 u35 u36 u37 u38 u39 u40 u41 u42 u43 u44 u45 u46 u47 u48 u49 u50 u51 u52 u53 u54 u265 u266 u267 u268 u269 u270 u271 u272 u273 u274 u275 u276 u277 u278 u279 u280 u281 u282 u283 u284 u285 u286 u287 u288 u289 u290 u291 u292 u293 u294 u295 u296 u297 u298 u299 u300 u301 u302 u303 u304 u305 u306 u307 u308 u309 u310 u311 u312 u313 : Value}
    {u2 u10 u11 u12 u13 u14 u15 u16 u55 u56 u57 u58 u59 u60 u61 u62 u63 u64 u65 u66 u67 u68 u69 u70 u71 u72 u73 u74 u75 u76 u77 u78 u79 u80 u81 u82 u83 u84 u85 u86 u87 u88 u89 u90 u91 u92 u93 u94 u95 u96 u97 u98 u99 u100 u101 u102 u103 u104 u105 u106 u107 u108 u109 u110 u111 u112 u113 u114 u115 u116 u117 u118 u119 u120 u121 u122 u123 u124 u125 u126 u127 u128 u129 u130 u131 u132 u133 u134 u135 u136 u137 u138 u139 u140 u141 u142 u143 u144 u145 u146 u147 u148 u149 u150 u151 u152 u153 u154 u155 u156 u157 u158 u159 u160 u161 u162 u163 u164 u165 u166 u167 u168 u169 u170 u171 u172 u173 u174 u175 u176 u177 u178 u179 u180 u181 u182 u183 u184 u185 u186 u187 u188 u189 u190 u191 u192 u193 u194 u195 u196 u197 u198 u199 u200 u201 u202 u203 u204 u205 u206 u207 u208 u209 u210 u211 u212 u213 u214 u215 u216 u217 u218 u219 u220 u221 u222 u223 u224 u225 u226 u227 u228 u229 u230 u231 u232 u233 u234 u235 u236 u237 u238 u239 u240 u241 u242 u243 u244 u245 u246 u247 u248 u249 u250 u251 u252 u253 u254 u255 u256 u257 u258 u259 u260 u261 u262 u263 u264 : Value}
set_option maxHeartbeats 16000000 in
set_option maxRecDepth 100000 in
theorem op2_1 (hlb : xb.length ≤ cb) (hCb : (Kd.int .u8).C w Ab xb.length xb) (hxs : Sm xb) (hyw : 0 ≤ xy ∧ xy < 256)
    (HI : Aside0 (Iv w wc g gw (gw + 1) qs rs c d v0 v1)) (HN : Aside0 (wc.heap[gx]? = some (.cells #[.int .i64 xo, .int .i64 xt, .int .i64 xi, .int .i64 xa, .int .u8 xy, .slice Ab xb.length cb] 52 (0, 0))))
    (HG : Aside0 (gb = decide (xt = 0 ∨ xt = 1)))
    (hK : Meet w g gw gx xt gb K u0 u1 u6 u17 u18 u19 u20 u21 u22 u23 u24 u25 u26 u27 u28 u29 u30 u31 u32 u33 u34 u35 u36 u37 u38 u39 u40 u41 u42 u43 u44 u45 u46 u47 u48 u49 u50 u51 u52 u53 (.bool false) u265 u266 u267 u268 u269 u270 u271 u272 u273 u274 u275 u276 u277 u278 u279 u280 u281 u282 u283 u284 u285 u286 u287 u288 u289 u290 u291 u292 u293 u294 u295 u296 u297 u298 u299 u300 u301 u302 u303 u304 u305 u306 u307 u308 u309 u310 u311 u312 u313) (ht : xt = 1) (oc : xo = 2) (i0 : ¬ xi < 0) (i1 : ¬ (rs.length : Int) ≤ xi) :
    Code.wp Try.prog condCode (Exit.then K (Exit.inBlock 1 (Exit.then K1 (Exit.then K2 (Exit.inBlock 0 (Exit.then K3 (bodyPost Try.prog Try.f12 fun e w' => e = .returned (.bool true) ∧ Below w.heap.size w w'))))))) ⟨#[u0, u1, u2, .pointer (some ⟨g, 0, none⟩), .pointer (some ⟨gw, 0, none⟩), .pointer (some ⟨gw + 1, 0, none⟩), u6, .pointer (some ⟨gx, 0, none⟩), .int .i64 xt, .bool gb, u10, u11, u12, u13, u14, u15, u16, u17, u18, u19, u20, u21, u22, u23, u24, u25, u26, u27, u28, u29, u30, u31, u32, u33, u34, u35, u36, u37, u38, u39, u40, u41, u42, u43, u44, u45, u46, u47, u48, u49, u50, u51, u52, u53, .bool false, u55, u56, u57, u58, u59, u60, u61, u62, u63, u64, u65, u66, u67, u68, u69, u70, u71, u72, u73, u74, u75, u76, u77, u78, u79, u80, u81, u82, u83, u84, u85, u86, u87, u88, u89, u90, u91, u92, u93, u94, u95, u96, u97, u98, u99, u100, u101, u102, u103, u104, u105, u106, u107, u108, u109, u110, u111, u112, u113, u114, u115, u116, u117, u118, u119, u120, u121, u122, u123, u124, u125, u126, u127, u128, u129, u130, u131, u132, u133, u134, u135, u136, u137, u138, u139, u140, u141, u142, u143, u144, u145, u146, u147, u148, u149, u150, u151, u152, u153, u154, u155, u156, u157, u158, u159, u160, u161, u162, u163, u164, u165, u166, u167, u168, u169, u170, u171, u172, u173, u174, u175, u176, u177, u178, u179, u180, u181, u182, u183, u184, u185, u186, u187, u188, u189, u190, u191, u192, u193, u194, u195, u196, u197, u198, u199, u200, u201, u202, u203, u204, u205, u206, u207, u208, u209, u210, u211, u212, u213, u214, u215, u216, u217, u218, u219, u220, u221, u222, u223, u224, u225, u226, u227, u228, u229, u230, u231, u232, u233, u234, u235, u236, u237, u238, u239, u240, u241, u242, u243, u244, u245, u246, u247, u248, u249, u250, u251, u252, u253, u254, u255, u256, u257, u258, u259, u260, u261, u262, u263, u264, u265, u266, u267, u268, u269, u270, u271, u272, u273, u274, u275, u276, u277, u278, u279, u280, u281, u282, u283, u284, u285, u286, u287, u288, u289, u290, u291, u292, u293, u294, u295, u296, u297, u298, u299, u300, u301, u302, u303, u304, u305, u306, u307, u308, u309, u310, u311, u312, u313], []⟩ wc := by
  have b01 : Go.bits .and .i64 0 1 = 0 := by decide
  have b11 : Go.bits .and .i64 1 1 = 1 := by decide
  have HK := Aside0.mk hK
  clear hK
  subst ht
  obtain rfl : gb = true := by rw [HG.out]; rfl
  clear HG
  subst oc
  have hxb := hxs.1
  obtain ⟨hat, hbel, hla, n0, n1, s0, s1, hg0, hlw⟩ := HI.out
  have hnx := HN.out
  clear HI HN
  obtain ⟨T0, d0, rfl⟩ := hla.t0.slice
  obtain ⟨T1, d1, rfl⟩ := hla.t1.slice
  have hCbw := Kd.C_below hCb hbel
  have hl0 := Aside0.mk n0
  have hl1 := Aside0.mk n1
  clear n0 n1
  unfold condCode doCode
  obtain ⟨n, rfl⟩ : ∃ n : Nat, xi = n := ⟨xi.toNat, by omega⟩
  obtain ⟨⟨u, x⟩, hp⟩ : ∃ p, rs[n]? = some p := ⟨_, List.getElem?_eq_getElem (by omega)⟩
  have hxls : Sm x := s1 _ (List.mem_of_getElem? hp)
  have hxl := hxls.1
  obtain ⟨bT, rfl, hcT⟩ := hla.t1.get hp
  have hTr0 := Kd.R_reads' hla.t1
  rw [List.length_map] at hTr0
  have hnd : rs.length ≤ d1 := hTr0.2.1
  clear hTr0
  dsimp only at hcT
  have hnl : n < rs.length := by omega
  have hnlZ : (n : Int) < (rs.length : Int) := by omega
  have hn0Z : (0 : Int) ≤ (n : Int) := by omega
  have i0b : decide ((0 : Int) ≤ (n : Int)) = true := decide_eq_true hn0Z
  have i1b : decide ((n : Int) < (rs.length : Int)) = true := decide_eq_true hnlZ
  have HP := Aside0.mk hp
  clear hp
  have hnil : ∀ W : World, Sem.run Try.prog (convert 24 9 (.slice none 0 0)) W = Result.ok (.string { data := #[] }) W := fun W => by
    have h := Kd.C_string (P := Try.prog) (w := W) (A := none) (c := 0) (xs := []) Try.underlying24 Try.underlying5 Try.underlying9 (Kd.C_nil _ _)
    exact h
  have w0 := blk_cell hla.hw 0
  have w1 := blk_cell hla.hw 1
  have x0 := blk_cell hnx 0
  have x1 := blk_cell hnx 1
  have x2 := blk_cell hnx 2
  have x3 := blk_cell hnx 3
  have x4 := blk_cell hnx 4
  have x5 := blk_cell hnx 5
  simp only [List.getElem?_toArray, List.getElem?_cons_zero, List.getElem?_cons_succ] at w0 w1 x0 x1 x2 x3 x4 x5
  go_wp2_with (fail)
  have hT := Do1_2 g g qs rs c d n u x xa xy Ab xb.length cb wc hat HP.out
  refine hT.mono ?_
  rintro e w2 ⟨rfl, hA2, hb2, hOw, hf2⟩
  have hL2 := hla.fr hf2.six
  have hnx2 := (hf2.six gx _ _ hnx (by decide) (by decide) (by decide)).trans hnx
  have hbel2 := hbel.trans (hb2.mono hg0)
  obtain ⟨Au, cu, hu, hcu, hCu⟩ := hOw.slice
  dsimp only at hu hcu hCu
  subst hu
  obtain ⟨bT2, hbT2, hcT2⟩ := hL2.t1.get HP.out
  obtain rfl : bT = bT2 := by injection hbT2 with h; injection h
  clear hbT2 hcT hT hf2 hb2 hCbw hnx hla hat hbel w0 w1 x0 x1 x2 x3 x4 x5
  dsimp only at hcT2 ⊢
  have w0 := blk_cell hL2.hw 0
  have w1 := blk_cell hL2.hw 1
  have x0 := blk_cell hnx2 0
  have x1 := blk_cell hnx2 1
  have x2 := blk_cell hnx2 2
  have x3 := blk_cell hnx2 3
  have x4 := blk_cell hnx2 4
  have x5 := blk_cell hnx2 5
  simp only [List.getElem?_toArray, List.getElem?_cons_zero, List.getElem?_cons_succ] at w0 w1 x0 x1 x2 x3 x4 x5
  have hbq := fun n => hbel2.trans ((pw_below_drewN (Below.refl w2.heap.size w2) n).mono hbel2.size)
  have haq := fun n => hA2.below (pw_below_drewN (Below.refl w2.heap.size w2) n)
  have hlq := fun n => hL2.below (pw_below_drewN (Below.refl w2.heap.size w2) n)
  have hxq := fun n => blk_below hnx2 (pw_below_drewN (Below.refl w2.heap.size w2) n)
  have hoq := fun n => hOw.below (pw_below_drewN (Below.refl w2.heap.size w2) n)
  clear hA2 hL2 hnx2 hbel2 hOw
  go_wp2_with (fail)
  go_quiet (fail)
  clear b01 b11
  go_wp2_with (fail)
  clear w0 w1 x0 x1 x2 x3 x4 x5 hcT2
  generalize hq : World.drewN w2 _ = w3
  have hbel2 := via hq (P := fun W => Below w.heap.size w W) hbq
  have hA2 := via hq (P := fun W => At W g g _ _ _ _) haq
  have hL2 := via hq (P := fun W => La W g gw (gw + 1) _ _ _ _ _ _) hlq
  have hnx2 := via hq (P := fun W => W.heap[gx]? = _) hxq
  have hOw := via hq (P := fun W => Ow W g _) hoq
  clear hq hbq haq hlq hxq hoq
  have hDd := below_drew (Below.refl w3.heap.size w3)
  have hA3 := hA2.below hDd
  have hL3 := hL2.below hDd
  have hnx3 := blk_drew hnx2
  have hbel3 := hbel2.trans (hDd.mono hbel2.size)
  have hTC := (Kd.R_reads' hL3.t1).2.2
  rw [List.length_map] at hTC
  have fw : ∀ w', Below w3.drew.heap.size w3.drew w' → w'.cell? ⟨gw, 1, none⟩ = some (.slice (some ⟨bT, 0, none⟩) rs.length d1) := fun w' hb => blk_cell (hL3.below hb).hw 1
  have fx : ∀ w', Below w3.drew.heap.size w3.drew w' → w'.cell? ⟨gx, 2, none⟩ = some (.int .i64 n) := fun w' hb => blk_cell (blk_below hnx3 hb) 2
  have hOw3 := hOw.below hDd
  have hk0 : (0 : Int) ≤ (n : Int) + 1 := by omega
  have hk1 : (n : Int) + 1 ≤ (rs.length : Int) := by omega
  have hk1c : n + 1 ≤ d1 := by omega
  have hnc : n ≤ d1 := by omega
  have hTk := Kd.C_take (m := n) (xs := (rs.map fun p : Value × List Int => strOfNums p.2)) (by rw [List.length_map]; exact hTC) (by rw [List.length_map]; omega)
  rw [List.length_take, List.length_map, Nat.min_eq_left (Nat.le_of_lt hnl)] at hTk
  have hTd := Kd.C_drop (m := n + 1) (c := d1) (xs := (rs.map fun p : Value × List Int => strOfNums p.2)) (by rw [List.length_map]; exact hTC) (by rw [List.length_map]; omega) (by rw [List.length_map]; omega)
  rw [List.length_drop, List.length_map] at hTd
  have hb_1 : ([] : List ByteArray).length + n ≤ 1000 := by have := hl1.out; simp; omega
  have hb_2 : ((rs.map fun p : Value × List Int => strOfNums p.2).take n).length + (rs.length - (n + 1)) ≤ 1000 := by have := hl1.out; simp; omega
  have hwk : IntKind.i64.wrap ((n : Int) + 1) = (n : Int) + 1 := by rw [IntKind.wrap_i64]; have := hl1.out; omega
  have hwk' : wrap64 ((n : Int) + 1) = (n : Int) + 1 := by unfold wrap64; have := hl1.out; omega
  obtain ⟨A', hA'⟩ : ∃ A' : Option Addr, (if d1 = n + 1 then (some ⟨bT, 0, none⟩ : Option Addr) else some ⟨bT, n + 1, none⟩) = A' := ⟨_, rfl⟩
  have hA2' : (if d1 = n + 1 then (some ⟨bT, 0, none⟩ : Option Addr) else (some ⟨bT, 0, none⟩ : Option Addr).map (·.add ((n + 1) * Kd.string.sz))) = A' := by
    rw [← hA', show Kd.string.sz = 1 from rfl, Nat.mul_one]
    split
    · rfl
    · rw [Option.map_some, Addr.add_lit, Nat.zero_add]
  rw [hA2'] at hTd
  clear hA2' hA2 hL2 hnx2 hbel2 hOw hDd
  refine start_ (n := 19) (S := fun w' => w'.cell? ⟨gw, 1, none⟩ = some (.slice (some ⟨bT, 0, none⟩) rs.length d1) ∧ w'.cell? ⟨gx, 2, none⟩ = some (.int .i64 n)) (ds := [18]) #[false, false, false, false, false, false, false, false, false, false, false, false, false, false, false, false, false, false, false] (by kernel_rfl) rfl rfl ⟨(fw _ (Below.refl _ _)), (fx _ (Below.refl _ _))⟩ (fun hHeld => ?_)
  generalize w3.drew = wd at *
  refine pure_ (i := 0) (N := some 163) (v := ?_) (a' := ?_) #[true, false, false, false, false, false, false, false, false, false, false, false, false, false, false, false, false, false, false] rfl rfl (by kernel_rfl) (fun _ _ _ h => h) (Or.inl ⟨by rfl, ?_⟩) ?_ ?_
  rotate_left
  · intro w'
    go_simp
    with_reducible rfl
  rotate_left
  · simp only [Act.put, List.setIfInBounds_toArray, List.set_cons_zero, List.set_cons_succ, i64_w, i32_w]
    rfl
  refine pure_ (i := 2) (N := some 165) (v := ?_) (a' := ?_) #[true, false, true, false, false, false, false, false, false, false, false, false, false, false, false, false, false, false, false] rfl rfl (by kernel_rfl) (fun _ _ _ h => h) (Or.inl ⟨by rfl, ?_⟩) ?_ ?_
  rotate_left
  · intro w'
    go_simp
    with_reducible rfl
  rotate_left
  · simp only [Act.put, List.setIfInBounds_toArray, List.set_cons_zero, List.set_cons_succ, i64_w, i32_w]
    rfl
  refine pure_ (i := 3) (N := some 166) (v := ?_) (a' := ?_) #[true, false, true, true, false, false, false, false, false, false, false, false, false, false, false, false, false, false, false] rfl rfl (by kernel_rfl) (fun _ _ _ h => h) (Or.inl ⟨by rfl, ?_⟩) ?_ ?_
  rotate_left
  · intro w'
    go_simp
    with_reducible rfl
  rotate_left
  · simp only [Act.put, List.setIfInBounds_toArray, List.set_cons_zero, List.set_cons_succ, i64_w, i32_w]
    rfl
  refine pure_ (i := 5) (N := some 168) (v := ?_) (a' := ?_) #[true, false, true, true, false, true, false, false, false, false, false, false, false, false, false, false, false, false, false] rfl rfl (by kernel_rfl) (fun _ _ _ h => h) (Or.inl ⟨by rfl, ?_⟩) ?_ ?_
  rotate_left
  · intro w'
    go_simp
    with_reducible rfl
  rotate_left
  · simp only [Act.put, List.setIfInBounds_toArray, List.set_cons_zero, List.set_cons_succ, i64_w, i32_w]
    rfl
  refine pure_ (i := 9) (N := some 172) (v := ?_) (a' := ?_) #[true, false, true, true, false, true, false, false, false, true, false, false, false, false, false, false, false, false, false] rfl rfl (by kernel_rfl) (fun _ _ _ h => h) (Or.inl ⟨by rfl, ?_⟩) ?_ ?_
  rotate_left
  · intro w'
    go_simp
    with_reducible rfl
  rotate_left
  · simp only [Act.put, List.setIfInBounds_toArray, List.set_cons_zero, List.set_cons_succ, i64_w, i32_w]
    rfl
  refine pure_ (i := 10) (N := some 173) (v := ?_) (a' := ?_) #[true, false, true, true, false, true, false, false, false, true, true, false, false, false, false, false, false, false, false] rfl rfl (by kernel_rfl) (fun _ _ _ h => h) (Or.inl ⟨by rfl, ?_⟩) ?_ ?_
  rotate_left
  · intro w'
    go_simp
    with_reducible rfl
  rotate_left
  · simp only [Act.put, List.setIfInBounds_toArray, List.set_cons_zero, List.set_cons_succ, i64_w, i32_w]
    rfl
  refine pure_ (i := 12) (N := some 175) (v := ?_) (a' := ?_) #[true, false, true, true, false, true, false, false, false, true, true, false, true, false, false, false, false, false, false] rfl rfl (by kernel_rfl) (fun _ _ _ h => h) (Or.inl ⟨by rfl, ?_⟩) ?_ ?_
  rotate_left
  · intro w'
    go_simp
    with_reducible rfl
  rotate_left
  · simp only [Act.put, List.setIfInBounds_toArray, List.set_cons_zero, List.set_cons_succ, i64_w, i32_w]
    rfl
  refine take_ (i := 4) (N := some 167) (v := ?_) (a' := ?_) #[true, false, true, true, true, true, false, false, false, true, true, false, true, false, false, false, false, false, false] rfl rfl (by kernel_rfl) (fun _ _ _ h => h) (Or.inl ⟨by rfl, ?_⟩) hHeld ?_ ?_
  rotate_left
  · rintro w' ⟨s0, s1⟩
    go_simp
    with_reducible rfl
  rotate_left
  · simp only [Act.put, List.setIfInBounds_toArray, List.set_cons_zero, List.set_cons_succ, i64_w, i32_w]
    rfl
  refine take_ (i := 6) (N := some 169) (v := ?_) (a' := ?_) #[true, false, true, true, true, true, true, false, false, true, true, false, true, false, false, false, false, false, false] rfl rfl (by kernel_rfl) (fun _ _ _ h => h) (Or.inl ⟨by rfl, ?_⟩) hHeld ?_ ?_
  rotate_left
  · rintro w' ⟨s0, s1⟩
    go_simp
    with_reducible rfl
  rotate_left
  · simp only [Act.put, List.setIfInBounds_toArray, List.set_cons_zero, List.set_cons_succ, i64_w, i32_w]
    rfl
  refine pure_ (i := 7) (N := some 170) (v := ?_) (a' := ?_) #[true, false, true, true, true, true, true, true, false, true, true, false, true, false, false, false, false, false, false] rfl rfl (by kernel_rfl) (fun _ _ _ h => h) (Or.inl ⟨by rfl, ?_⟩) ?_ ?_
  rotate_left
  · intro w'
    go_simp
    with_reducible rfl
  rotate_left
  · simp only [Act.put, List.setIfInBounds_toArray, List.set_cons_zero, List.set_cons_succ, i64_w, i32_w]
    rfl
  refine take_ (i := 11) (N := some 174) (v := ?_) (a' := ?_) #[true, false, true, true, true, true, true, true, false, true, true, true, true, false, false, false, false, false, false] rfl rfl (by kernel_rfl) (fun _ _ _ h => h) (Or.inl ⟨by rfl, ?_⟩) hHeld ?_ ?_
  rotate_left
  · rintro w' ⟨s0, s1⟩
    go_simp
    with_reducible rfl
  rotate_left
  · simp only [Act.put, List.setIfInBounds_toArray, List.set_cons_zero, List.set_cons_succ, i64_w, i32_w]
    rfl
  refine take_ (i := 13) (N := some 176) (v := ?_) (a' := ?_) #[true, false, true, true, true, true, true, true, false, true, true, true, true, true, false, false, false, false, false] rfl rfl (by kernel_rfl) (fun _ _ _ h => h) (Or.inl ⟨by rfl, ?_⟩) hHeld ?_ ?_
  rotate_left
  · rintro w' ⟨s0, s1⟩
    go_simp
    with_reducible rfl
  rotate_left
  · simp only [Act.put, List.setIfInBounds_toArray, List.set_cons_zero, List.set_cons_succ, i64_w, i32_w]
    rfl
  refine pure_ (i := 14) (N := some 177) (v := ?_) (a' := ?_) #[true, false, true, true, true, true, true, true, false, true, true, true, true, true, true, false, false, false, false] rfl rfl (by kernel_rfl) (fun _ _ _ h => h) (Or.inl ⟨by rfl, ?_⟩) ?_ ?_
  rotate_left
  · intro w'
    go_simp
    with_reducible rfl
  rotate_left
  · simp only [Act.put, List.setIfInBounds_toArray, List.set_cons_zero, List.set_cons_succ, i64_w, i32_w]
    rfl
  refine pure_ (i := 15) (N := some 178) (v := ?_) (a' := ?_) #[true, false, true, true, true, true, true, true, false, true, true, true, true, true, true, true, false, false, false] rfl rfl (by kernel_rfl) (fun _ _ _ h => h) (Or.inl ⟨by rfl, ?_⟩) ?_ ?_
  rotate_left
  · intro w'
    go_simp
    with_reducible rfl
  rotate_left
  · simp only [Act.put, List.setIfInBounds_toArray, List.set_cons_zero, List.set_cons_succ, i64_w, i32_w]
    rfl
  refine one_ (i := 1) (N := some 164) #[true, true, true, true, true, true, true, true, false, true, true, true, true, true, true, true, false, false, false] rfl rfl (by kernel_rfl) (by decide) (fun K hK => ?_)
  refine value_ (w1 := ?_) (v := ?_) (by rfl) rfl ?_ ?_
  rotate_left 2
  · go_simp
    constructor
    · rfl
    · rfl
  have hw1 := newS wd (Nat.le_refl _)
  have hb1 := below_alloc (Below.refl wd.heap.size wd) (.cells #[] 9)
  refine hK.out _ _ ⟨(fw _ hb1), (fx _ hb1)⟩ (fun hHeld => ?_)
  clear hK K
  refine norm_ (a' := ?_) ?_ ?_
  rotate_left
  · show Act.put _ (some 164) _ = _
    simp only [Act.put, List.setIfInBounds_toArray, List.set_cons_zero, List.set_cons_succ, i64_w, i32_w]
    rfl
  refine one_ (i := 8) (N := some 171) #[true, true, true, true, true, true, true, true, true, true, true, true, true, true, true, true, false, false, false] rfl rfl (by kernel_rfl) (by decide) (fun K hK => ?_)
  refine catS (wd := wd) (by rfl) (.tmp 164) (.tmp 170) rfl (v := .slice (some ⟨wd.heap.size, 0, none⟩) 0 0) (A := (some ⟨bT, 0, none⟩)) (m := n) (c := d1) (ys := []) (xs := (rs.map fun p : Value × List Int => strOfNums p.2).take n) (by rfl) (by rfl) hw1 (Kd.C_below hTk hb1) hb1 hb_1 ?_
  intro v5 w5 hR5 hb5 hg5
  rw [List.nil_append] at hR5
  refine hK.out _ _ ⟨(fw _ hb5), (fx _ hb5)⟩ (fun hHeld => ?_)
  clear hK K
  refine norm_ (a' := ?_) ?_ ?_
  rotate_left
  · show Act.put _ (some 171) _ = _
    simp only [Act.put, List.setIfInBounds_toArray, List.set_cons_zero, List.set_cons_succ, i64_w, i32_w]
    rfl
  refine one_ (i := 16) (N := some 179) #[true, true, true, true, true, true, true, true, true, true, true, true, true, true, true, true, true, false, false] rfl rfl (by kernel_rfl) (by decide) (fun K hK => ?_)
  refine catS (wd := wd) (by rfl) (.tmp 171) (.tmp 178) rfl (v := v5) (A := A') (m := rs.length - (n + 1)) (c := d1 - (n + 1)) (ys := (rs.map fun p : Value × List Int => strOfNums p.2).take n) (xs := (rs.map fun p : Value × List Int => strOfNums p.2).drop (n + 1)) (by rfl) (by first | rfl | (simp; done)) hR5 (Kd.C_below hTd hb5) hb5 hb_2 ?_
  intro v7 w7 hR7 hb7 hg7
  obtain ⟨T7, n7, d7, rfl⟩ : ∃ A n c, v7 = .slice A n c := by obtain ⟨A, c, e, _, _⟩ := Kd.R_reads hR7; exact ⟨_, _, _, e⟩
  have hL7 := hL3.below hb7
  have z7 := frz hL7.hw 1
  refine hK.out _ _ ⟨(fw _ hb7), (fx _ hb7)⟩ (fun hHeld => ?_)
  clear hK K
  refine norm_ (a' := ?_) ?_ ?_
  rotate_left
  · show Act.put _ (some 179) _ = _
    simp only [Act.put, List.setIfInBounds_toArray, List.set_cons_zero, List.set_cons_succ, i64_w, i32_w]
    rfl
  refine pure_ (i := 17) (N := some 180) (v := ?_) (a' := ?_) #[true, true, true, true, true, true, true, true, true, true, true, true, true, true, true, true, true, true, false] rfl rfl (by kernel_rfl) (fun _ _ _ h => h) (Or.inl ⟨by rfl, ?_⟩) ?_ ?_
  rotate_left
  · intro w'
    go_simp
    with_reducible rfl
  rotate_left
  · simp only [Act.put, List.setIfInBounds_toArray, List.set_cons_zero, List.set_cons_succ, i64_w, i32_w]
    rfl
  refine last_ (i := 18) (N := none) #[true, true, true, true, true, true, true, true, true, true, true, true, true, true, true, true, true, true, true] rfl rfl (by kernel_rfl) (by decide) (fun K hK => ?_)
  refine skip_ (w1 := ?_) (by rfl) rfl ?_ ?_
  rotate_left
  · go_simp
    rfl
  refine hK.out _ _ ?_
  clear hK K
  refine done_ (by kernel_rfl) ?_
  have hA7 := hA3.below hb7
  have hbel7 := hbel3.trans (hb7.mono hbel3.size)
  have ht7 : Tx w7 g (.slice T7 n7 d7) (rs.eraseIdx n) := by
    unfold Tx
    rw [List.eraseIdx_eq_take_drop_succ, List.map_append, List.map_take, List.map_drop]
    exact Kd.R_lower hR7 (Nat.le_of_lt hA3.lt)
  have hL8 := hL7.put1 ht7
  have hA8 := hA7.set (j := 1) (u := .slice T7 n7 d7) hL7.hw (by decide) (by decide) (by decide)
  have hbel8 := hbel7.setCell (p := ⟨gw, 1, none⟩) hlw (.slice T7 n7 d7)
  clear hHeld
  have hO8 : Ow (w7.setCell ⟨gw, 1, none⟩ (.slice T7 n7 d7)) g (.slice Au x.length cu, x) := Kd.R_set (hOw3.below hb7) hL7.hw (by intro q hq; have h_ : q = 5 := (by simpa [Kd.int, Kd.scalar] using hq); rw [h_]; decide) _ _
  have hcv : Sem.run Try.prog (convert 24 9 (.slice Au x.length cu)) (w7.setCell ⟨gw, 1, none⟩ (.slice T7 n7 d7)) = Result.ok (.string (strOfNums x)) _ := Kd.C_string Try.underlying24 Try.underlying5 Try.underlying9 (Kd.R_reads' hO8).2.2
  go_wp2_with (fail)
  refine HK.out _ _ _ _ _ _ _ _ _ _ _ _ _ _ _ _ _ _ _ _ _ _ _ _ _ _ _ _ _ _ _ _ _ _ _ _ _ _ _ _ _ _ _ _ _ _ _ _ _ _ _ _ _ _ _ _ _ _ _ _ _ _ _ _ _ _ _ _ _ _ _ _ _ _ _ _ _ _ _ _ _ _ _ _ _ _ _ _ _ _ _ _ _ _ _ _ _ _ _ _ _ _ _ _ _ _ _ _ _ _ _ _ _ _ _ _ _ _ _ _ _ _ _ _ _ _ _ _ _ _ _ _ _ _ _ _ _ _ _ _ _ _ _ _ _ _ _ _ _ _ _ _ _ _ _ _ _ _ _ _ _ _ _ _ _ _ _ _ _ _ _ _ _ _ _ _ _ _ _ _ _ _ _ _ _ _ _ _ _ _ _ _ _ _ _ _ _ _ _ _ _ _ _ _ _ _ _ _ _ _ _ _ _ _ _ _ _ _ _ ⟨qs, (rs.eraseIdx n), c, d, _, _, hA8, hbel8, hL8, hl0.out, Nat.le_trans (List.length_eraseIdx_le _ _) hl1.out, s0, fun p hp => s1 p (List.mem_of_mem_eraseIdx hp), hg0, hlw⟩
set_option maxHeartbeats 16000000 in
set_option maxRecDepth 100000 in
theorem op3_1 (hlb : xb.length ≤ cb) (hCb : (Kd.int .u8).C w Ab xb.length xb) (hxs : Sm xb) (hyw : 0 ≤ xy ∧ xy < 256)
    (HI : Aside0 (Iv w wc g gw (gw + 1) qs rs c d v0 v1)) (HN : Aside0 (wc.heap[gx]? = some (.cells #[.int .i64 xo, .int .i64 xt, .int .i64 xi, .int .i64 xa, .int .u8 xy, .slice Ab xb.length cb] 52 (0, 0))))
    (HG : Aside0 (gb = decide (xt = 0 ∨ xt = 1)))
    (hK : Meet w g gw gx xt gb K u0 u1 u6 u17 u18 u19 u20 u21 u22 u23 u24 u25 u26 u27 u28 u29 u30 u31 u32 u33 u34 u35 u36 u37 u38 u39 u40 u41 u42 u43 u44 u45 u46 u47 u48 u49 u50 u51 u52 u53 (.bool false) u265 u266 u267 u268 u269 u270 u271 u272 u273 u274 u275 u276 u277 u278 u279 u280 u281 u282 u283 u284 u285 u286 u287 u288 u289 u290 u291 u292 u293 u294 u295 u296 u297 u298 u299 u300 u301 u302 u303 u304 u305 u306 u307 u308 u309 u310 u311 u312 u313) (ht : xt = 1) (oc : xo = 3) (kf : ¬ 64 ≤ (rs.length : Int)) (i0 : ¬ xi < 0) (i1 : ¬ (rs.length : Int) ≤ xi) :
    Code.wp Try.prog condCode (Exit.then K (Exit.inBlock 1 (Exit.then K1 (Exit.then K2 (Exit.inBlock 0 (Exit.then K3 (bodyPost Try.prog Try.f12 fun e w' => e = .returned (.bool true) ∧ Below w.heap.size w w'))))))) ⟨#[u0, u1, u2, .pointer (some ⟨g, 0, none⟩), .pointer (some ⟨gw, 0, none⟩), .pointer (some ⟨gw + 1, 0, none⟩), u6, .pointer (some ⟨gx, 0, none⟩), .int .i64 xt, .bool gb, u10, u11, u12, u13, u14, u15, u16, u17, u18, u19, u20, u21, u22, u23, u24, u25, u26, u27, u28, u29, u30, u31, u32, u33, u34, u35, u36, u37, u38, u39, u40, u41, u42, u43, u44, u45, u46, u47, u48, u49, u50, u51, u52, u53, .bool false, u55, u56, u57, u58, u59, u60, u61, u62, u63, u64, u65, u66, u67, u68, u69, u70, u71, u72, u73, u74, u75, u76, u77, u78, u79, u80, u81, u82, u83, u84, u85, u86, u87, u88, u89, u90, u91, u92, u93, u94, u95, u96, u97, u98, u99, u100, u101, u102, u103, u104, u105, u106, u107, u108, u109, u110, u111, u112, u113, u114, u115, u116, u117, u118, u119, u120, u121, u122, u123, u124, u125, u126, u127, u128, u129, u130, u131, u132, u133, u134, u135, u136, u137, u138, u139, u140, u141, u142, u143, u144, u145, u146, u147, u148, u149, u150, u151, u152, u153, u154, u155, u156, u157, u158, u159, u160, u161, u162, u163, u164, u165, u166, u167, u168, u169, u170, u171, u172, u173, u174, u175, u176, u177, u178, u179, u180, u181, u182, u183, u184, u185, u186, u187, u188, u189, u190, u191, u192, u193, u194, u195, u196, u197, u198, u199, u200, u201, u202, u203, u204, u205, u206, u207, u208, u209, u210, u211, u212, u213, u214, u215, u216, u217, u218, u219, u220, u221, u222, u223, u224, u225, u226, u227, u228, u229, u230, u231, u232, u233, u234, u235, u236, u237, u238, u239, u240, u241, u242, u243, u244, u245, u246, u247, u248, u249, u250, u251, u252, u253, u254, u255, u256, u257, u258, u259, u260, u261, u262, u263, u264, u265, u266, u267, u268, u269, u270, u271, u272, u273, u274, u275, u276, u277, u278, u279, u280, u281, u282, u283, u284, u285, u286, u287, u288, u289, u290, u291, u292, u293, u294, u295, u296, u297, u298, u299, u300, u301, u302, u303, u304, u305, u306, u307, u308, u309, u310, u311, u312, u313], []⟩ wc := by
  have b01 : Go.bits .and .i64 0 1 = 0 := by decide
  have b11 : Go.bits .and .i64 1 1 = 1 := by decide
  have HK := Aside0.mk hK
  clear hK
  subst ht
  obtain rfl : gb = true := by rw [HG.out]; rfl
  clear HG
  subst oc
  have hxb := hxs.1
  obtain ⟨hat, hbel, hla, n0, n1, s0, s1, hg0, hlw⟩ := HI.out
  have hnx := HN.out
  clear HI HN
  obtain ⟨T0, d0, rfl⟩ := hla.t0.slice
  obtain ⟨T1, d1, rfl⟩ := hla.t1.slice
  have hCbw := Kd.C_below hCb hbel
  have hl0 := Aside0.mk n0
  have hl1 := Aside0.mk n1
  clear n0 n1
  unfold condCode doCode
  obtain ⟨n, rfl⟩ : ∃ n : Nat, xi = n := ⟨xi.toNat, by omega⟩
  obtain ⟨⟨u, x⟩, hp⟩ : ∃ p, rs[n]? = some p := ⟨_, List.getElem?_eq_getElem (by omega)⟩
  have hxls : Sm x := s1 _ (List.mem_of_getElem? hp)
  have hxl := hxls.1
  obtain ⟨bT, rfl, hcT⟩ := hla.t1.get hp
  have hTr0 := Kd.R_reads' hla.t1
  rw [List.length_map] at hTr0
  have hnd : rs.length ≤ d1 := hTr0.2.1
  clear hTr0
  dsimp only at hcT
  have hnl : n < rs.length := by omega
  have hnlZ : (n : Int) < (rs.length : Int) := by omega
  have hn0Z : (0 : Int) ≤ (n : Int) := by omega
  have i0b : decide ((0 : Int) ≤ (n : Int)) = true := decide_eq_true hn0Z
  have i1b : decide ((n : Int) < (rs.length : Int)) = true := decide_eq_true hnlZ
  have HP := Aside0.mk hp
  clear hp
  have f1 : decide ((64 : Int) ≤ (rs.length : Int)) = false := decide_eq_false (by omega)
  have hnil : ∀ W : World, Sem.run Try.prog (convert 24 9 (.slice none 0 0)) W = Result.ok (.string { data := #[] }) W := fun W => by
    have h := Kd.C_string (P := Try.prog) (w := W) (A := none) (c := 0) (xs := []) Try.underlying24 Try.underlying5 Try.underlying9 (Kd.C_nil _ _)
    exact h
  have w0 := blk_cell hla.hw 0
  have w1 := blk_cell hla.hw 1
  have x0 := blk_cell hnx 0
  have x1 := blk_cell hnx 1
  have x2 := blk_cell hnx 2
  have x3 := blk_cell hnx 3
  have x4 := blk_cell hnx 4
  have x5 := blk_cell hnx 5
  simp only [List.getElem?_toArray, List.getElem?_cons_zero, List.getElem?_cons_succ] at w0 w1 x0 x1 x2 x3 x4 x5
  go_wp2_with (fail)
  have hT := Twice1 g g qs rs c d n u x xa xy Ab xb.length cb wc hat HP.out (by omega) (by omega)
  refine hT.mono ?_
  rintro e w2 ⟨uu, rfl, hA2, hb2, hf2⟩
  have hL2 := hla.fr hf2.six
  have hnx2 := (hf2.six gx _ _ hnx (by decide) (by decide) (by decide)).trans hnx
  have hbel2 := hbel.trans (hb2.mono hg0)
  obtain ⟨bT2, hbT2, hcT2⟩ := hL2.t1.get HP.out
  obtain rfl : bT = bT2 := by injection hbT2 with h; injection h
  clear hbT2 hcT hcT2
  have hCb2 := Kd.C_below hCb hbel2
  clear hT hf2 hb2 hCbw hnx hla hat hbel w0 w1 x0 x1 x2 x3 x4 x5
  dsimp only
  have w0 := blk_cell hL2.hw 0
  have w1 := blk_cell hL2.hw 1
  have x0 := blk_cell hnx2 0
  have x1 := blk_cell hnx2 1
  have x2 := blk_cell hnx2 2
  have x3 := blk_cell hnx2 3
  have x4 := blk_cell hnx2 4
  have x5 := blk_cell hnx2 5
  simp only [List.getElem?_toArray, List.getElem?_cons_zero, List.getElem?_cons_succ] at w0 w1 x0 x1 x2 x3 x4 x5
  have hbq := fun n => hbel2.trans ((pw_below_drewN (Below.refl w2.heap.size w2) n).mono hbel2.size)
  have haq := fun n => hA2.below (pw_below_drewN (Below.refl w2.heap.size w2) n)
  have hlq := fun n => hL2.below (pw_below_drewN (Below.refl w2.heap.size w2) n)
  have hxq := fun n => blk_below hnx2 (pw_below_drewN (Below.refl w2.heap.size w2) n)
  have hcq := fun n => Kd.C_below hCb2 (pw_below_drewN (Below.refl w2.heap.size w2) n)
  clear hA2 hL2 hnx2 hbel2 hCb2
  go_wp2_with (fail)
  go_quiet (fail)
  go_wp2_with (fail)
  clear w0 w1 x0 x1 x2 x3 x4 x5
  generalize hq : World.drewN w2 _ = w3
  have hbel2 := via hq (P := fun W => Below w.heap.size w W) hbq
  have hA2 := via hq (P := fun W => At W g g _ _ _ _) haq
  have hL2 := via hq (P := fun W => La W g gw (gw + 1) _ _ _ _ _ _) hlq
  have hnx2 := via hq (P := fun W => W.heap[gx]? = _) hxq
  have hCb2 := via hq (P := fun W => (Kd.int .u8).C W Ab xb.length xb) hcq
  clear hq hbq haq hlq hxq hcq
  have hDd := below_drew (Below.refl w3.heap.size w3)
  have hA3 := hA2.below hDd
  have hL3 := hL2.below hDd
  have hnx3 := blk_drew hnx2
  have hbel3 := hbel2.trans (hDd.mono hbel2.size)
  have hTC := (Kd.R_reads' hL3.t1).2.2
  rw [List.length_map] at hTC
  have fw : ∀ w', Below w3.drew.heap.size w3.drew w' → w'.cell? ⟨gw, 1, none⟩ = some (.slice (some ⟨bT, 0, none⟩) rs.length d1) := fun w' hb => blk_cell (hL3.below hb).hw 1
  have fx : ∀ w', Below w3.drew.heap.size w3.drew w' → w'.cell? ⟨gx, 2, none⟩ = some (.int .i64 n) := fun w' hb => blk_cell (blk_below hnx3 hb) 2
  have fs : ∀ w', Below w3.drew.heap.size w3.drew w' → w'.cell? ⟨bT, n, none⟩ = some (.string (strOfNums x)) := fun w' hb => by
    obtain ⟨bT2, hbT2, hcT2⟩ := (hL3.below hb).t1.get HP.out
    obtain rfl : bT = bT2 := by injection hbT2 with h; injection h
    exact hcT2
  clear hA2 hL2 hnx2 hbel2 hCb2 hDd
  refine start_ (n := 17) (S := fun w' => w'.cell? ⟨gw, 1, none⟩ = some (.slice (some ⟨bT, 0, none⟩) rs.length d1) ∧ w'.cell? ⟨gx, 2, none⟩ = some (.int .i64 n) ∧ w'.cell? ⟨bT, n, none⟩ = some (.string (strOfNums x))) (ds := [16]) #[false, false, false, false, false, false, false, false, false, false, false, false, false, false, false, false, false] (by kernel_rfl) rfl rfl ⟨(fw _ (Below.refl _ _)), (fx _ (Below.refl _ _)), (fs _ (Below.refl _ _))⟩ (fun hHeld => ?_)
  generalize w3.drew = wd at *
  refine pure_ (i := 0) (N := some 240) (v := ?_) (a' := ?_) #[true, false, false, false, false, false, false, false, false, false, false, false, false, false, false, false, false] rfl rfl (by kernel_rfl) (fun _ _ _ h => h) (Or.inl ⟨by rfl, ?_⟩) ?_ ?_
  rotate_left
  · intro w'
    go_simp
    with_reducible rfl
  rotate_left
  · simp only [Act.put, List.setIfInBounds_toArray, List.set_cons_zero, List.set_cons_succ, i64_w, i32_w]
    rfl
  refine pure_ (i := 2) (N := some 242) (v := ?_) (a' := ?_) #[true, false, true, false, false, false, false, false, false, false, false, false, false, false, false, false, false] rfl rfl (by kernel_rfl) (fun _ _ _ h => h) (Or.inl ⟨by rfl, ?_⟩) ?_ ?_
  rotate_left
  · intro w'
    go_simp
    with_reducible rfl
  rotate_left
  · simp only [Act.put, List.setIfInBounds_toArray, List.set_cons_zero, List.set_cons_succ, i64_w, i32_w]
    rfl
  refine pure_ (i := 3) (N := some 243) (v := ?_) (a' := ?_) #[true, false, true, true, false, false, false, false, false, false, false, false, false, false, false, false, false] rfl rfl (by kernel_rfl) (fun _ _ _ h => h) (Or.inl ⟨by rfl, ?_⟩) ?_ ?_
  rotate_left
  · intro w'
    go_simp
    with_reducible rfl
  rotate_left
  · simp only [Act.put, List.setIfInBounds_toArray, List.set_cons_zero, List.set_cons_succ, i64_w, i32_w]
    rfl
  refine pure_ (i := 6) (N := some 246) (v := ?_) (a' := ?_) #[true, false, true, true, false, false, true, false, false, false, false, false, false, false, false, false, false] rfl rfl (by kernel_rfl) (fun _ _ _ h => h) (Or.inl ⟨by rfl, ?_⟩) ?_ ?_
  rotate_left
  · intro w'
    go_simp
    with_reducible rfl
  rotate_left
  · simp only [Act.put, List.setIfInBounds_toArray, List.set_cons_zero, List.set_cons_succ, i64_w, i32_w]
    rfl
  refine pure_ (i := 7) (N := some 247) (v := ?_) (a' := ?_) #[true, false, true, true, false, false, true, true, false, false, false, false, false, false, false, false, false] rfl rfl (by kernel_rfl) (fun _ _ _ h => h) (Or.inl ⟨by rfl, ?_⟩) ?_ ?_
  rotate_left
  · intro w'
    go_simp
    with_reducible rfl
  rotate_left
  · simp only [Act.put, List.setIfInBounds_toArray, List.set_cons_zero, List.set_cons_succ, i64_w, i32_w]
    rfl
  refine pure_ (i := 9) (N := some 249) (v := ?_) (a' := ?_) #[true, false, true, true, false, false, true, true, false, true, false, false, false, false, false, false, false] rfl rfl (by kernel_rfl) (fun _ _ _ h => h) (Or.inl ⟨by rfl, ?_⟩) ?_ ?_
  rotate_left
  · intro w'
    go_simp
    with_reducible rfl
  rotate_left
  · simp only [Act.put, List.setIfInBounds_toArray, List.set_cons_zero, List.set_cons_succ, i64_w, i32_w]
    rfl
  refine take_ (i := 4) (N := some 244) (v := ?_) (a' := ?_) #[true, false, true, true, true, false, true, true, false, true, false, false, false, false, false, false, false] rfl rfl (by kernel_rfl) (fun _ _ _ h => h) (Or.inl ⟨by rfl, ?_⟩) hHeld ?_ ?_
  rotate_left
  · rintro w' ⟨s0, s1, s2⟩
    go_simp
    with_reducible rfl
  rotate_left
  · simp only [Act.put, List.setIfInBounds_toArray, List.set_cons_zero, List.set_cons_succ, i64_w, i32_w]
    rfl
  refine take_ (i := 8) (N := some 248) (v := ?_) (a' := ?_) #[true, false, true, true, true, false, true, true, true, true, false, false, false, false, false, false, false] rfl rfl (by kernel_rfl) (fun _ _ _ h => h) (Or.inl ⟨by rfl, ?_⟩) hHeld ?_ ?_
  rotate_left
  · rintro w' ⟨s0, s1, s2⟩
    go_simp
    with_reducible rfl
  rotate_left
  · simp only [Act.put, List.setIfInBounds_toArray, List.set_cons_zero, List.set_cons_succ, i64_w, i32_w]
    rfl
  refine take_ (i := 10) (N := some 250) (v := ?_) (a' := ?_) #[true, false, true, true, true, false, true, true, true, true, true, false, false, false, false, false, false] rfl rfl (by kernel_rfl) (fun _ _ _ h => h) (Or.inl ⟨by rfl, ?_⟩) hHeld ?_ ?_
  rotate_left
  · rintro w' ⟨s0, s1, s2⟩
    go_simp
    with_reducible rfl
  rotate_left
  · simp only [Act.put, List.setIfInBounds_toArray, List.set_cons_zero, List.set_cons_succ, i64_w, i32_w]
    rfl
  refine pure_ (i := 11) (N := some 251) (v := ?_) (a' := ?_) #[true, false, true, true, true, false, true, true, true, true, true, true, false, false, false, false, false] rfl rfl (by kernel_rfl) (fun _ _ _ h => h) (Or.inl ⟨by rfl, ?_⟩) ?_ ?_
  rotate_left
  · intro w'
    go_simp
    with_reducible rfl
  rotate_left
  · simp only [Act.put, List.setIfInBounds_toArray, List.set_cons_zero, List.set_cons_succ, i64_w, i32_w]
    rfl
  refine take_ (i := 12) (N := some 252) (v := ?_) (a' := ?_) #[true, false, true, true, true, false, true, true, true, true, true, true, true, false, false, false, false] rfl rfl (by kernel_rfl) (fun _ _ _ h => h) (Or.inl ⟨by rfl, ?_⟩) hHeld ?_ ?_
  rotate_left
  · rintro w' ⟨s0, s1, s2⟩
    go_simp
    with_reducible rfl
  rotate_left
  · simp only [Act.put, List.setIfInBounds_toArray, List.set_cons_zero, List.set_cons_succ, i64_w, i32_w]
    rfl
  refine join_ (σ := Value × Nat × Nat) 3 #[true, true, true, true, true, true, true, true, true, true, true, true, true, true, false, false, false] (fun s => [(241, .slice (some ⟨s.2.2, 0, none⟩) 0 0), (245, s.1), (253, .slice (some ⟨s.2.1, 0, none⟩) 1 1)]) (fun s w' => Kd.R Kd.string 9 w' wd.heap.size (fun _ => True) s.1 (rs.map fun p : Value × List Int => strOfNums p.2) ∧ w'.heap[s.2.1]? = some (.cells #[.string (strOfNums x)] 9 (0, 0)) ∧ Below wd.heap.size wd w') ?_ ?_
  rotate_left
  · intro hCont
    refine two_ (i := 1) (j := 13) (Ni := some 241) (Nj := some 253) #[true, true, true, true, true, false, true, true, true, true, true, true, true, false, false, false, false] #[true, false, true, true, true, false, true, true, true, true, true, true, true, true, false, false, false] rfl rfl rfl rfl (by kernel_rfl) (by decide) (by decide) (fun K hK => ?_) (fun K hK => ?_)
    · skip
      refine value_ (w1 := ?_) (v := ?_) (by rfl) rfl ?_ ?_
      rotate_left 2
      · go_simp
        constructor
        · rfl
        · rfl
      have hw1 := newS wd (Nat.le_refl _)
      have hb1 := below_alloc (Below.refl wd.heap.size wd) (.cells #[] 9)
      refine hK.out _ _ ⟨(fw _ hb1), (fx _ hb1), (fs _ hb1)⟩ (fun hHeld => ?_)
      clear hK K
      refine norm_ (a' := ?_) ?_ ?_
      rotate_left
      · show Act.put _ (some 241) _ = _
        simp only [Act.put, List.setIfInBounds_toArray, List.set_cons_zero, List.set_cons_succ, i64_w, i32_w]
        rfl
      refine two_ (i := 5) (j := 13) (Ni := some 245) (Nj := some 253) #[true, true, true, true, true, true, true, true, true, true, true, true, true, false, false, false, false] #[true, true, true, true, true, false, true, true, true, true, true, true, true, true, false, false, false] rfl rfl rfl rfl (by kernel_rfl) (by decide) (by decide) (fun K hK => ?_) (fun K hK => ?_)
      · skip
        refine catS (wd := wd) (by rfl) (.tmp 241) (.tmp 244) rfl (v := .slice (some ⟨wd.heap.size, 0, none⟩) 0 0) (A := (some ⟨bT, 0, none⟩)) (m := rs.length) (c := d1) (ys := []) (xs := (rs.map fun p : Value × List Int => strOfNums p.2)) (by rfl) (by rfl) hw1 (Kd.C_below hTC hb1) hb1 (by have := hl1.out; simp; omega) ?_
        intro v5 w5 hR5 hb5 hg5
        rw [List.nil_append] at hR5
        refine hK.out _ _ ⟨(fw _ hb5), (fx _ hb5), (fs _ hb5)⟩ (fun hHeld => ?_)
        clear hK K
        refine norm_ (a' := ?_) ?_ ?_
        rotate_left
        · show Act.put _ (some 245) _ = _
          simp only [Act.put, List.setIfInBounds_toArray, List.set_cons_zero, List.set_cons_succ, i64_w, i32_w]
          rfl
        refine one_ (i := 13) (N := some 253) #[true, true, true, true, true, true, true, true, true, true, true, true, true, true, false, false, false] rfl rfl (by kernel_rfl) (by decide) (fun K hK => ?_)
        refine value_ (w1 := ?_) (v := ?_) (by rfl) rfl ?_ ?_
        rotate_left 2
        · go_simp
          constructor
          · rfl
          · rfl
        have hR6 := Kd.R_below hR5 (below_alloc (Below.refl _ w5) (.cells #[.string (strOfNums x)] 9))
        have hB6 := blk_new w5 (.cells #[.string (strOfNums x)] 9)
        have hb6 := hb5.trans ((below_alloc (Below.refl _ w5) (.cells #[.string (strOfNums x)] 9)).mono hb5.size)
        refine hK.out _ _ ⟨(fw _ hb6), (fx _ hb6), (fs _ hb6)⟩ (fun hHeld => ?_)
        clear hK K
        refine norm_ (a' := ?_) ?_ ?_
        rotate_left
        · show Act.put _ (some 253) _ = _
          simp only [Act.put, List.setIfInBounds_toArray, List.set_cons_zero, List.set_cons_succ, i64_w, i32_w]
          rfl
        exact norm_ (by simp only [putAll, Act.put, List.setIfInBounds_toArray, List.set_cons_zero, List.set_cons_succ]) (hCont (v5, w5.heap.size, wd.heap.size) _ ⟨hR6, hB6, hb6⟩)
      · skip
        refine value_ (w1 := ?_) (v := ?_) (by rfl) rfl ?_ ?_
        rotate_left 2
        · go_simp
          constructor
          · rfl
          · rfl
        have hw2 := Kd.R_below hw1 (below_alloc (Below.refl _ _) (.cells #[.string (strOfNums x)] 9))
        have hB2 := blk_new (wd.alloc (.cells #[] 9)) (.cells #[.string (strOfNums x)] 9)
        rw [World.size_alloc] at hB2
        have hb2 := hb1.trans ((below_alloc (Below.refl _ (wd.alloc (.cells #[] 9))) (.cells #[.string (strOfNums x)] 9)).mono hb1.size)
        refine hK.out _ _ ⟨(fw _ hb2), (fx _ hb2), (fs _ hb2)⟩ (fun hHeld => ?_)
        clear hK K
        refine norm_ (a' := ?_) ?_ ?_
        rotate_left
        · show Act.put _ (some 253) _ = _
          simp only [Act.put, List.setIfInBounds_toArray, List.set_cons_zero, List.set_cons_succ, i64_w, i32_w]
          rfl
        refine one_ (i := 5) (N := some 245) #[true, true, true, true, true, true, true, true, true, true, true, true, true, true, false, false, false] rfl rfl (by kernel_rfl) (by decide) (fun K hK => ?_)
        refine catS (wd := wd) (by rfl) (.tmp 241) (.tmp 244) rfl (v := .slice (some ⟨wd.heap.size, 0, none⟩) 0 0) (A := (some ⟨bT, 0, none⟩)) (m := rs.length) (c := d1) (ys := []) (xs := (rs.map fun p : Value × List Int => strOfNums p.2)) (by rfl) (by rfl) hw2 (Kd.C_below hTC hb2) hb2 (by have := hl1.out; simp; omega) ?_
        intro v5 w5 hR5 hb5 hg5
        rw [List.nil_append] at hR5
        have hB5 := (hg5.block _ (blk_lt hB2) (by simp [Value.ownBlock])).trans hB2
        refine hK.out _ _ ⟨(fw _ hb5), (fx _ hb5), (fs _ hb5)⟩ (fun hHeld => ?_)
        clear hK K
        refine norm_ (a' := ?_) ?_ ?_
        rotate_left
        · show Act.put _ (some 245) _ = _
          simp only [Act.put, List.setIfInBounds_toArray, List.set_cons_zero, List.set_cons_succ, i64_w, i32_w]
          rfl
        exact norm_ (by simp only [putAll, Act.put, List.setIfInBounds_toArray, List.set_cons_zero, List.set_cons_succ]) (hCont (v5, wd.heap.size + 1, wd.heap.size) _ ⟨hR5, hB5, hb5⟩)
    · skip
      refine value_ (w1 := ?_) (v := ?_) (by rfl) rfl ?_ ?_
      rotate_left 2
      · go_simp
        constructor
        · rfl
        · rfl
      have hB2 := blk_new wd (.cells #[.string (strOfNums x)] 9)
      have hb2 := below_alloc (Below.refl wd.heap.size wd) (.cells #[.string (strOfNums x)] 9)
      refine hK.out _ _ ⟨(fw _ hb2), (fx _ hb2), (fs _ hb2)⟩ (fun hHeld => ?_)
      clear hK K
      refine norm_ (a' := ?_) ?_ ?_
      rotate_left
      · show Act.put _ (some 253) _ = _
        simp only [Act.put, List.setIfInBounds_toArray, List.set_cons_zero, List.set_cons_succ, i64_w, i32_w]
        rfl
      refine one_ (i := 1) (N := some 241) #[true, true, true, true, true, false, true, true, true, true, true, true, true, true, false, false, false] rfl rfl (by kernel_rfl) (by decide) (fun K hK => ?_)
      refine value_ (w1 := ?_) (v := ?_) (by rfl) rfl ?_ ?_
      rotate_left 2
      · go_simp
        constructor
        · rfl
        · rfl
      have hw1 := newS (wd.alloc (.cells #[.string (strOfNums x)] 9)) (B := wd.heap.size) (by rw [World.size_alloc]; omega)
      rw [World.size_alloc] at hw1
      have hb1 := hb2.trans ((below_alloc (Below.refl _ (wd.alloc (.cells #[.string (strOfNums x)] 9))) (.cells #[] 9)).mono hb2.size)
      have hB1 := blk_below hB2 (below_alloc (Below.refl _ (wd.alloc (.cells #[.string (strOfNums x)] 9))) (.cells #[] 9))
      refine hK.out _ _ ⟨(fw _ hb1), (fx _ hb1), (fs _ hb1)⟩ (fun hHeld => ?_)
      clear hK K
      refine norm_ (a' := ?_) ?_ ?_
      rotate_left
      · show Act.put _ (some 241) _ = _
        simp only [Act.put, List.setIfInBounds_toArray, List.set_cons_zero, List.set_cons_succ, i64_w, i32_w]
        rfl
      refine one_ (i := 5) (N := some 245) #[true, true, true, true, true, true, true, true, true, true, true, true, true, true, false, false, false] rfl rfl (by kernel_rfl) (by decide) (fun K hK => ?_)
      refine catS (wd := wd) (by rfl) (.tmp 241) (.tmp 244) rfl (v := .slice (some ⟨(wd.heap.size + 1), 0, none⟩) 0 0) (A := (some ⟨bT, 0, none⟩)) (m := rs.length) (c := d1) (ys := []) (xs := (rs.map fun p : Value × List Int => strOfNums p.2)) (by rfl) (by rfl) hw1 (Kd.C_below hTC hb1) hb1 (by have := hl1.out; simp; omega) ?_
      intro v5 w5 hR5 hb5 hg5
      rw [List.nil_append] at hR5
      have hB5 := (hg5.block _ (blk_lt hB1) (by simp [Value.ownBlock])).trans hB1
      refine hK.out _ _ ⟨(fw _ hb5), (fx _ hb5), (fs _ hb5)⟩ (fun hHeld => ?_)
      clear hK K
      refine norm_ (a' := ?_) ?_ ?_
      rotate_left
      · show Act.put _ (some 245) _ = _
        simp only [Act.put, List.setIfInBounds_toArray, List.set_cons_zero, List.set_cons_succ, i64_w, i32_w]
        rfl
      exact norm_ (by simp only [putAll, Act.put, List.setIfInBounds_toArray, List.set_cons_zero, List.set_cons_succ]) (hCont (v5, wd.heap.size, wd.heap.size + 1) _ ⟨hR5, hB5, hb5⟩)
  rintro ⟨v5, b9, b1⟩ w5 ⟨hR5, hB5, hb5⟩
  dsimp only at hR5 hB5 ⊢
  have hHeld : w5.cell? ⟨gw, 1, none⟩ = some (.slice (some ⟨bT, 0, none⟩) rs.length d1) ∧ w5.cell? ⟨gx, 2, none⟩ = some (.int .i64 n) ∧ w5.cell? ⟨bT, n, none⟩ = some (.string (strOfNums x)) := ⟨(fw _ hb5), (fx _ hb5), (fs _ hb5)⟩
  refine norm_ (a' := ?_) ?_ ?_
  rotate_left
  · simp only [putAll, Act.put, List.setIfInBounds_toArray, List.set_cons_zero, List.set_cons_succ]
    rfl
  refine one_ (i := 14) (N := some 254) #[true, true, true, true, true, true, true, true, true, true, true, true, true, true, true, false, false] rfl rfl (by kernel_rfl) (by decide) (fun K hK => ?_)
  refine catS (wd := wd) (by rfl) (.tmp 245) (.tmp 253) rfl (v := v5) (A := some ⟨b9, 0, none⟩) (m := 1) (c := 1) (ys := (rs.map fun p : Value × List Int => strOfNums p.2)) (xs := [strOfNums x]) (by rfl) (by rfl) hR5 (oneB hB5) hb5 (by have := hl1.out; simp; omega) ?_
  intro v7 w7 hR7 hb7 hg7
  obtain ⟨T7, n7, d7, rfl⟩ : ∃ A n c, v7 = .slice A n c := by obtain ⟨A, c, e, _, _⟩ := Kd.R_reads hR7; exact ⟨_, _, _, e⟩
  have hL7 := hL3.below hb7
  have z7 := frz hL7.hw 1
  refine hK.out _ _ ⟨(fw _ hb7), (fx _ hb7), (fs _ hb7)⟩ (fun hHeld => ?_)
  clear hK K
  refine norm_ (a' := ?_) ?_ ?_
  rotate_left
  · show Act.put _ (some 254) _ = _
    simp only [Act.put, List.setIfInBounds_toArray, List.set_cons_zero, List.set_cons_succ, i64_w, i32_w]
    rfl
  refine pure_ (i := 15) (N := some 255) (v := ?_) (a' := ?_) #[true, true, true, true, true, true, true, true, true, true, true, true, true, true, true, true, false] rfl rfl (by kernel_rfl) (fun _ _ _ h => h) (Or.inl ⟨by rfl, ?_⟩) ?_ ?_
  rotate_left
  · intro w'
    go_simp
    with_reducible rfl
  rotate_left
  · simp only [Act.put, List.setIfInBounds_toArray, List.set_cons_zero, List.set_cons_succ, i64_w, i32_w]
    rfl
  refine last_ (i := 16) (N := none) #[true, true, true, true, true, true, true, true, true, true, true, true, true, true, true, true, true] rfl rfl (by kernel_rfl) (by decide) (fun K hK => ?_)
  refine skip_ (w1 := ?_) (by rfl) rfl ?_ ?_
  rotate_left
  · go_simp
    rfl
  refine hK.out _ _ ?_
  clear hK K
  refine done_ (by kernel_rfl) ?_
  have hA7 := hA3.below hb7
  have hbel7 := hbel3.trans (hb7.mono hbel3.size)
  have ht7 : Tx w7 g (.slice T7 n7 d7) (rs ++ [(uu, x)]) := by
    unfold Tx
    rw [List.map_append]
    exact Kd.R_lower hR7 (Nat.le_of_lt hA3.lt)
  have hL8 := hL7.put1 ht7
  have hA8 := hA7.set (j := 1) (u := .slice T7 n7 d7) hL7.hw (by decide) (by decide) (by decide)
  have hbel8 := hbel7.setCell (p := ⟨gw, 1, none⟩) hlw (.slice T7 n7 d7)
  clear hHeld
  go_wp2_with (fail)
  refine HK.out _ _ _ _ _ _ _ _ _ _ _ _ _ _ _ _ _ _ _ _ _ _ _ _ _ _ _ _ _ _ _ _ _ _ _ _ _ _ _ _ _ _ _ _ _ _ _ _ _ _ _ _ _ _ _ _ _ _ _ _ _ _ _ _ _ _ _ _ _ _ _ _ _ _ _ _ _ _ _ _ _ _ _ _ _ _ _ _ _ _ _ _ _ _ _ _ _ _ _ _ _ _ _ _ _ _ _ _ _ _ _ _ _ _ _ _ _ _ _ _ _ _ _ _ _ _ _ _ _ _ _ _ _ _ _ _ _ _ _ _ _ _ _ _ _ _ _ _ _ _ _ _ _ _ _ _ _ _ _ _ _ _ _ _ _ _ _ _ _ _ _ _ _ _ _ _ _ _ _ _ _ _ _ _ _ _ _ _ _ _ _ _ _ _ _ _ _ _ _ _ _ _ _ _ _ _ _ _ _ _ _ _ _ _ _ _ _ _ _ ⟨qs, (rs ++ [(uu, x)]), c, d, _, _, hA8, hbel8, hL8, hl0.out, by rw [List.length_append, List.length_singleton]; omega, s0, fun p hp => by rcases List.mem_append.1 hp with hp | hp; exact s1 p hp; rw [List.mem_singleton.1 hp]; exact hxls, hg0, hlw⟩
set_option maxHeartbeats 16000000 in
set_option maxRecDepth 100000 in
theorem full3_1 (hlb : xb.length ≤ cb) (hCb : (Kd.int .u8).C w Ab xb.length xb) (hxs : Sm xb) (hyw : 0 ≤ xy ∧ xy < 256)
    (HI : Aside0 (Iv w wc g gw (gw + 1) qs rs c d v0 v1)) (HN : Aside0 (wc.heap[gx]? = some (.cells #[.int .i64 xo, .int .i64 xt, .int .i64 xi, .int .i64 xa, .int .u8 xy, .slice Ab xb.length cb] 52 (0, 0))))
    (HG : Aside0 (gb = decide (xt = 0 ∨ xt = 1)))
    (hK : Meet w g gw gx xt gb K u0 u1 u6 u17 u18 u19 u20 u21 u22 u23 u24 u25 u26 u27 u28 u29 u30 u31 u32 u33 u34 u35 u36 u37 u38 u39 u40 u41 u42 u43 u44 u45 u46 u47 u48 u49 u50 u51 u52 u53 (.bool false) u265 u266 u267 u268 u269 u270 u271 u272 u273 u274 u275 u276 u277 u278 u279 u280 u281 u282 u283 u284 u285 u286 u287 u288 u289 u290 u291 u292 u293 u294 u295 u296 u297 u298 u299 u300 u301 u302 u303 u304 u305 u306 u307 u308 u309 u310 u311 u312 u313) (ht : xt = 1) (oc : xo = 3) (kf : 64 ≤ (rs.length : Int)) (i0 : ¬ xi < 0) (i1 : ¬ (rs.length : Int) ≤ xi) :
    Code.wp Try.prog condCode (Exit.then K (Exit.inBlock 1 (Exit.then K1 (Exit.then K2 (Exit.inBlock 0 (Exit.then K3 (bodyPost Try.prog Try.f12 fun e w' => e = .returned (.bool true) ∧ Below w.heap.size w w'))))))) ⟨#[u0, u1, u2, .pointer (some ⟨g, 0, none⟩), .pointer (some ⟨gw, 0, none⟩), .pointer (some ⟨gw + 1, 0, none⟩), u6, .pointer (some ⟨gx, 0, none⟩), .int .i64 xt, .bool gb, u10, u11, u12, u13, u14, u15, u16, u17, u18, u19, u20, u21, u22, u23, u24, u25, u26, u27, u28, u29, u30, u31, u32, u33, u34, u35, u36, u37, u38, u39, u40, u41, u42, u43, u44, u45, u46, u47, u48, u49, u50, u51, u52, u53, .bool false, u55, u56, u57, u58, u59, u60, u61, u62, u63, u64, u65, u66, u67, u68, u69, u70, u71, u72, u73, u74, u75, u76, u77, u78, u79, u80, u81, u82, u83, u84, u85, u86, u87, u88, u89, u90, u91, u92, u93, u94, u95, u96, u97, u98, u99, u100, u101, u102, u103, u104, u105, u106, u107, u108, u109, u110, u111, u112, u113, u114, u115, u116, u117, u118, u119, u120, u121, u122, u123, u124, u125, u126, u127, u128, u129, u130, u131, u132, u133, u134, u135, u136, u137, u138, u139, u140, u141, u142, u143, u144, u145, u146, u147, u148, u149, u150, u151, u152, u153, u154, u155, u156, u157, u158, u159, u160, u161, u162, u163, u164, u165, u166, u167, u168, u169, u170, u171, u172, u173, u174, u175, u176, u177, u178, u179, u180, u181, u182, u183, u184, u185, u186, u187, u188, u189, u190, u191, u192, u193, u194, u195, u196, u197, u198, u199, u200, u201, u202, u203, u204, u205, u206, u207, u208, u209, u210, u211, u212, u213, u214, u215, u216, u217, u218, u219, u220, u221, u222, u223, u224, u225, u226, u227, u228, u229, u230, u231, u232, u233, u234, u235, u236, u237, u238, u239, u240, u241, u242, u243, u244, u245, u246, u247, u248, u249, u250, u251, u252, u253, u254, u255, u256, u257, u258, u259, u260, u261, u262, u263, u264, u265, u266, u267, u268, u269, u270, u271, u272, u273, u274, u275, u276, u277, u278, u279, u280, u281, u282, u283, u284, u285, u286, u287, u288, u289, u290, u291, u292, u293, u294, u295, u296, u297, u298, u299, u300, u301, u302, u303, u304, u305, u306, u307, u308, u309, u310, u311, u312, u313], []⟩ wc := by
  have b01 : Go.bits .and .i64 0 1 = 0 := by decide
  have b11 : Go.bits .and .i64 1 1 = 1 := by decide
  have HK := Aside0.mk hK
  clear hK
  subst ht
  obtain rfl : gb = true := by rw [HG.out]; rfl
  clear HG
  subst oc
  have hxb := hxs.1
  obtain ⟨hat, hbel, hla, n0, n1, s0, s1, hg0, hlw⟩ := HI.out
  have hnx := HN.out
  clear HI HN
  obtain ⟨T0, d0, rfl⟩ := hla.t0.slice
  obtain ⟨T1, d1, rfl⟩ := hla.t1.slice
  have hCbw := Kd.C_below hCb hbel
  have hl0 := Aside0.mk n0
  have hl1 := Aside0.mk n1
  clear n0 n1
  unfold condCode doCode
  obtain ⟨n, rfl⟩ : ∃ n : Nat, xi = n := ⟨xi.toNat, by omega⟩
  obtain ⟨⟨u, x⟩, hp⟩ : ∃ p, rs[n]? = some p := ⟨_, List.getElem?_eq_getElem (by omega)⟩
  have hxls : Sm x := s1 _ (List.mem_of_getElem? hp)
  have hxl := hxls.1
  obtain ⟨bT, rfl, hcT⟩ := hla.t1.get hp
  have hTr0 := Kd.R_reads' hla.t1
  rw [List.length_map] at hTr0
  have hnd : rs.length ≤ d1 := hTr0.2.1
  clear hTr0
  dsimp only at hcT
  have hnl : n < rs.length := by omega
  have hnlZ : (n : Int) < (rs.length : Int) := by omega
  have hn0Z : (0 : Int) ≤ (n : Int) := by omega
  have i0b : decide ((0 : Int) ≤ (n : Int)) = true := decide_eq_true hn0Z
  have i1b : decide ((n : Int) < (rs.length : Int)) = true := decide_eq_true hnlZ
  have HP := Aside0.mk hp
  clear hp
  have f1 : decide ((64 : Int) ≤ (rs.length : Int)) = true := decide_eq_true (by omega)
  have hnil : ∀ W : World, Sem.run Try.prog (convert 24 9 (.slice none 0 0)) W = Result.ok (.string { data := #[] }) W := fun W => by
    have h := Kd.C_string (P := Try.prog) (w := W) (A := none) (c := 0) (xs := []) Try.underlying24 Try.underlying5 Try.underlying9 (Kd.C_nil _ _)
    exact h
  have w0 := blk_cell hla.hw 0
  have w1 := blk_cell hla.hw 1
  have x0 := blk_cell hnx 0
  have x1 := blk_cell hnx 1
  have x2 := blk_cell hnx 2
  have x3 := blk_cell hnx 3
  have x4 := blk_cell hnx 4
  have x5 := blk_cell hnx 5
  simp only [List.getElem?_toArray, List.getElem?_cons_zero, List.getElem?_cons_succ] at w0 w1 x0 x1 x2 x3 x4 x5
  go_wp2_with (fail)
  have hT := TwiceFull1 g g qs rs c d n u x xa xy Ab xb.length cb wc hat HP.out (by omega)
  refine hT.mono ?_
  rintro e w2 ⟨rfl, hb2⟩
  have hat2 := hat.below hb2
  have hla2 := hla.below hb2
  have hnx2 := blk_below hnx hb2
  have hbel2 := hbel.trans (hb2.mono hbel.size)
  clear hT hnx hb2 w0 w1 x0 x1 x2 x3 x4 x5 hat hla hbel
  dsimp only
  have w0 := blk_cell hla2.hw 0
  have w1 := blk_cell hla2.hw 1
  have x0 := blk_cell hnx2 0
  have x1 := blk_cell hnx2 1
  have x2 := blk_cell hnx2 2
  have x3 := blk_cell hnx2 3
  have x4 := blk_cell hnx2 4
  have x5 := blk_cell hnx2 5
  simp only [List.getElem?_toArray, List.getElem?_cons_zero, List.getElem?_cons_succ] at w0 w1 x0 x1 x2 x3 x4 x5
  clear hnx2
  have hbq := fun n => hbel2.trans ((pw_below_drewN (Below.refl w2.heap.size w2) n).mono hbel2.size)
  have haq := fun n => hat2.below (pw_below_drewN (Below.refl w2.heap.size w2) n)
  have hlq := fun n => hla2.below (pw_below_drewN (Below.refl w2.heap.size w2) n)
  clear hat2 hla2 hbel2
  go_wp2_with (fail)
  go_quiet (fail)
  go_wp2_with (fail)
  refine HK.out _ _ _ _ _ _ _ _ _ _ _ _ _ _ _ _ _ _ _ _ _ _ _ _ _ _ _ _ _ _ _ _ _ _ _ _ _ _ _ _ _ _ _ _ _ _ _ _ _ _ _ _ _ _ _ _ _ _ _ _ _ _ _ _ _ _ _ _ _ _ _ _ _ _ _ _ _ _ _ _ _ _ _ _ _ _ _ _ _ _ _ _ _ _ _ _ _ _ _ _ _ _ _ _ _ _ _ _ _ _ _ _ _ _ _ _ _ _ _ _ _ _ _ _ _ _ _ _ _ _ _ _ _ _ _ _ _ _ _ _ _ _ _ _ _ _ _ _ _ _ _ _ _ _ _ _ _ _ _ _ _ _ _ _ _ _ _ _ _ _ _ _ _ _ _ _ _ _ _ _ _ _ _ _ _ _ _ _ _ _ _ _ _ _ _ _ _ _ _ _ _ _ _ _ _ _ _ _ _ _ _ _ _ _ _ _ _ _ _ ⟨qs, rs, c, d, _, _, haq _, hbq _, hlq _, hl0.out, hl1.out, s0, s1, hg0, hlw⟩
set_option maxHeartbeats 16000000 in
set_option maxRecDepth 100000 in
theorem op4no_lo0 (hlb : xb.length ≤ cb) (hCb : (Kd.int .u8).C w Ab xb.length xb) (hxs : Sm xb) (hyw : 0 ≤ xy ∧ xy < 256)
    (HI : Aside0 (Iv w wc g gw (gw + 1) qs rs c d v0 v1)) (HN : Aside0 (wc.heap[gx]? = some (.cells #[.int .i64 xo, .int .i64 xt, .int .i64 xi, .int .i64 xa, .int .u8 xy, .slice Ab xb.length cb] 52 (0, 0))))
    (HG : Aside0 (gb = decide (xt = 0 ∨ xt = 1)))
    (hK : Meet w g gw gx xt gb K u0 u1 u6 u17 u18 u19 u20 u21 u22 u23 u24 u25 u26 u27 u28 u29 u30 u31 u32 u33 u34 u35 u36 u37 u38 u39 u40 u41 u42 u43 u44 u45 u46 u47 u48 u49 u50 u51 u52 u53 (.bool false) u265 u266 u267 u268 u269 u270 u271 u272 u273 u274 u275 u276 u277 u278 u279 u280 u281 u282 u283 u284 u285 u286 u287 u288 u289 u290 u291 u292 u293 u294 u295 u296 u297 u298 u299 u300 u301 u302 u303 u304 u305 u306 u307 u308 u309 u310 u311 u312 u313) (ht : xt = 0) (oc : xo = 4) (i0 : ¬ xi < 0) (i1 : ¬ (qs.length : Int) ≤ xi) (u : Value) (x : List Int) (hpx : qs[xi.toNat]? = some (u, x)) (ha0 : xa < 0) :
    Code.wp Try.prog condCode (Exit.then K (Exit.inBlock 1 (Exit.then K1 (Exit.then K2 (Exit.inBlock 0 (Exit.then K3 (bodyPost Try.prog Try.f12 fun e w' => e = .returned (.bool true) ∧ Below w.heap.size w w'))))))) ⟨#[u0, u1, u2, .pointer (some ⟨g, 0, none⟩), .pointer (some ⟨gw, 0, none⟩), .pointer (some ⟨gw + 1, 0, none⟩), u6, .pointer (some ⟨gx, 0, none⟩), .int .i64 xt, .bool gb, u10, u11, u12, u13, u14, u15, u16, u17, u18, u19, u20, u21, u22, u23, u24, u25, u26, u27, u28, u29, u30, u31, u32, u33, u34, u35, u36, u37, u38, u39, u40, u41, u42, u43, u44, u45, u46, u47, u48, u49, u50, u51, u52, u53, .bool false, u55, u56, u57, u58, u59, u60, u61, u62, u63, u64, u65, u66, u67, u68, u69, u70, u71, u72, u73, u74, u75, u76, u77, u78, u79, u80, u81, u82, u83, u84, u85, u86, u87, u88, u89, u90, u91, u92, u93, u94, u95, u96, u97, u98, u99, u100, u101, u102, u103, u104, u105, u106, u107, u108, u109, u110, u111, u112, u113, u114, u115, u116, u117, u118, u119, u120, u121, u122, u123, u124, u125, u126, u127, u128, u129, u130, u131, u132, u133, u134, u135, u136, u137, u138, u139, u140, u141, u142, u143, u144, u145, u146, u147, u148, u149, u150, u151, u152, u153, u154, u155, u156, u157, u158, u159, u160, u161, u162, u163, u164, u165, u166, u167, u168, u169, u170, u171, u172, u173, u174, u175, u176, u177, u178, u179, u180, u181, u182, u183, u184, u185, u186, u187, u188, u189, u190, u191, u192, u193, u194, u195, u196, u197, u198, u199, u200, u201, u202, u203, u204, u205, u206, u207, u208, u209, u210, u211, u212, u213, u214, u215, u216, u217, u218, u219, u220, u221, u222, u223, u224, u225, u226, u227, u228, u229, u230, u231, u232, u233, u234, u235, u236, u237, u238, u239, u240, u241, u242, u243, u244, u245, u246, u247, u248, u249, u250, u251, u252, u253, u254, u255, u256, u257, u258, u259, u260, u261, u262, u263, u264, u265, u266, u267, u268, u269, u270, u271, u272, u273, u274, u275, u276, u277, u278, u279, u280, u281, u282, u283, u284, u285, u286, u287, u288, u289, u290, u291, u292, u293, u294, u295, u296, u297, u298, u299, u300, u301, u302, u303, u304, u305, u306, u307, u308, u309, u310, u311, u312, u313], []⟩ wc := by
  have b01 : Go.bits .and .i64 0 1 = 0 := by decide
  have b11 : Go.bits .and .i64 1 1 = 1 := by decide
  have HK := Aside0.mk hK
  clear hK
  subst ht
  obtain rfl : gb = true := by rw [HG.out]; rfl
  clear HG
  subst oc
  have hxb := hxs.1
  obtain ⟨hat, hbel, hla, n0, n1, s0, s1, hg0, hlw⟩ := HI.out
  have hnx := HN.out
  clear HI HN
  obtain ⟨T0, d0, rfl⟩ := hla.t0.slice
  obtain ⟨T1, d1, rfl⟩ := hla.t1.slice
  have hCbw := Kd.C_below hCb hbel
  have hl0 := Aside0.mk n0
  have hl1 := Aside0.mk n1
  clear n0 n1
  unfold condCode doCode
  obtain ⟨n, rfl⟩ : ∃ n : Nat, xi = n := ⟨xi.toNat, by omega⟩
  have hp : qs[n]? = some (u, x) := hpx
  clear hpx
  have hxls : Sm x := s0 _ (List.mem_of_getElem? hp)
  have hxl := hxls.1
  obtain ⟨bT, rfl, hcT⟩ := hla.t0.get hp
  have hTr0 := Kd.R_reads' hla.t0
  rw [List.length_map] at hTr0
  have hnd : qs.length ≤ d0 := hTr0.2.1
  clear hTr0
  dsimp only at hcT
  have hnl : n < qs.length := by omega
  have hnlZ : (n : Int) < (qs.length : Int) := by omega
  have hn0Z : (0 : Int) ≤ (n : Int) := by omega
  have i0b : decide ((0 : Int) ≤ (n : Int)) = true := decide_eq_true hn0Z
  have i1b : decide ((n : Int) < (qs.length : Int)) = true := decide_eq_true hnlZ
  have HP := Aside0.mk hp
  clear hp
  have a0b : decide (xa < 0) = true := decide_eq_true (by omega)
  have hnil : ∀ W : World, Sem.run Try.prog (convert 24 9 (.slice none 0 0)) W = Result.ok (.string { data := #[] }) W := fun W => by
    have h := Kd.C_string (P := Try.prog) (w := W) (A := none) (c := 0) (xs := []) Try.underlying24 Try.underlying5 Try.underlying9 (Kd.C_nil _ _)
    exact h
  have w0 := blk_cell hla.hw 0
  have w1 := blk_cell hla.hw 1
  have x0 := blk_cell hnx 0
  have x1 := blk_cell hnx 1
  have x2 := blk_cell hnx 2
  have x3 := blk_cell hnx 3
  have x4 := blk_cell hnx 4
  have x5 := blk_cell hnx 5
  simp only [List.getElem?_toArray, List.getElem?_cons_zero, List.getElem?_cons_succ] at w0 w1 x0 x1 x2 x3 x4 x5
  go_wp2_with (fail)
  have hT := SpoilNone0 g g qs rs c d n u x xa xy Ab xb.length cb wc hat HP.out (by omega)
  refine hT.mono ?_
  rintro e w2 ⟨rfl, hb2⟩
  have hA2 := hat.below hb2
  have hL2 := hla.below hb2
  have hnx2 := blk_below hnx hb2
  have hbel2 := hbel.trans (hb2.mono hbel.size)
  clear hT hnx hb2 w0 w1 x0 x1 x2 x3 x4 x5 hat hla hbel hcT hCbw
  dsimp only
  have w0 := blk_cell hL2.hw 0
  have w1 := blk_cell hL2.hw 1
  have x0 := blk_cell hnx2 0
  have x1 := blk_cell hnx2 1
  have x2 := blk_cell hnx2 2
  have x3 := blk_cell hnx2 3
  have x4 := blk_cell hnx2 4
  have x5 := blk_cell hnx2 5
  simp only [List.getElem?_toArray, List.getElem?_cons_zero, List.getElem?_cons_succ] at w0 w1 x0 x1 x2 x3 x4 x5
  have hbq := fun n => hbel2.trans ((pw_below_drewN (Below.refl w2.heap.size w2) n).mono hbel2.size)
  have haq := fun n => hA2.below (pw_below_drewN (Below.refl w2.heap.size w2) n)
  have hlq := fun n => hL2.below (pw_below_drewN (Below.refl w2.heap.size w2) n)
  have hxq := fun n => blk_below hnx2 (pw_below_drewN (Below.refl w2.heap.size w2) n)
  clear hA2 hL2 hnx2 hbel2
  go_wp2_with (fail)
  go_quiet (fail)
  go_wp2_with (fail)
  clear b01 b11
  clear w0 w1 x0 x1 x2 x3 x4 x5
  generalize hq : World.drewN w2 _ = w3
  have hbel2 := via hq (P := fun W => Below w.heap.size w W) hbq
  have hA2 := via hq (P := fun W => At W g g _ _ _ _) haq
  have hL2 := via hq (P := fun W => La W g gw (gw + 1) _ _ _ _ _ _) hlq
  have hnx2 := via hq (P := fun W => W.heap[gx]? = _) hxq
  clear hq hbq haq hlq hxq
  have hDd := below_drew (Below.refl w3.heap.size w3)
  have hA3 := hA2.below hDd
  have hL3 := hL2.below hDd
  have hnx3 := blk_drew hnx2
  have hbel3 := hbel2.trans (hDd.mono hbel2.size)
  have hTC := (Kd.R_reads' hL3.t0).2.2
  rw [List.length_map] at hTC
  have fw : ∀ w', Below w3.drew.heap.size w3.drew w' → w'.cell? ⟨gw, 0, none⟩ = some (.slice (some ⟨bT, 0, none⟩) qs.length d0) := fun w' hb => blk_cell (hL3.below hb).hw 0
  have fx : ∀ w', Below w3.drew.heap.size w3.drew w' → w'.cell? ⟨gx, 2, none⟩ = some (.int .i64 n) := fun w' hb => blk_cell (blk_below hnx3 hb) 2
  have fs : ∀ w', Below w3.drew.heap.size w3.drew w' → w'.cell? ⟨bT, n, none⟩ = some (.string (strOfNums x)) := fun w' hb => by
    obtain ⟨bT2, hbT2, hcT2⟩ := (hL3.below hb).t0.get HP.out
    obtain rfl : bT = bT2 := by injection hbT2 with h; injection h
    exact hcT2
  clear hA2 hL2 hnx2 hbel2 hDd
  have hsz : (strOfNums x).size = x.length := strOfNums_size x
  have kb : ∀ W : World, Sem.run Try.prog (convert 9 24 (.string (strOfNums x))) W = Result.ok (.slice (some ⟨W.heap.size, 0, none⟩) x.length (grownCap W x.length 0 5)) (Lib.bytesWorld W 5 (strOfNums x)) := fun W => by
    have h := print_bytes (P := Try.prog) 9 24 5 Try.underlying9 Try.underlying24 Try.underlying5 (strOfNums x) W
    rw [hsz] at h
    exact h
  clear hsz
  refine start_ (n := 9) (S := fun w' => w'.cell? ⟨gw, 0, none⟩ = some (.slice (some ⟨bT, 0, none⟩) qs.length d0) ∧ w'.cell? ⟨gx, 2, none⟩ = some (.int .i64 n) ∧ w'.cell? ⟨bT, n, none⟩ = some (.string (strOfNums x))) (ds := []) #[false, false, false, false, false, false, false, false, false] (by kernel_rfl) rfl rfl ⟨(fw _ (Below.refl _ _)), (fx _ (Below.refl _ _)), (fs _ (Below.refl _ _))⟩ (fun hHeld => ?_)
  generalize w3.drew = wd at *
  refine pure_ (i := 0) (N := some 185) (v := ?_) (a' := ?_) #[true, false, false, false, false, false, false, false, false] rfl rfl (by kernel_rfl) (fun _ _ _ h => h) (Or.inl ⟨by rfl, ?_⟩) ?_ ?_
  rotate_left
  · intro w'
    go_simp
    with_reducible rfl
  rotate_left
  · simp only [Act.put, List.setIfInBounds_toArray, List.set_cons_zero, List.set_cons_succ, i64_w, i32_w]
    rfl
  refine pure_ (i := 1) (N := some 186) (v := ?_) (a' := ?_) #[true, true, false, false, false, false, false, false, false] rfl rfl (by kernel_rfl) (fun _ _ _ h => h) (Or.inl ⟨by rfl, ?_⟩) ?_ ?_
  rotate_left
  · intro w'
    go_simp
    with_reducible rfl
  rotate_left
  · simp only [Act.put, List.setIfInBounds_toArray, List.set_cons_zero, List.set_cons_succ, i64_w, i32_w]
    rfl
  refine pure_ (i := 3) (N := some 188) (v := ?_) (a' := ?_) #[true, true, false, true, false, false, false, false, false] rfl rfl (by kernel_rfl) (fun _ _ _ h => h) (Or.inl ⟨by rfl, ?_⟩) ?_ ?_
  rotate_left
  · intro w'
    go_simp
    with_reducible rfl
  rotate_left
  · simp only [Act.put, List.setIfInBounds_toArray, List.set_cons_zero, List.set_cons_succ, i64_w, i32_w]
    rfl
  refine take_ (i := 2) (N := some 187) (v := ?_) (a' := ?_) #[true, true, true, true, false, false, false, false, false] rfl rfl (by kernel_rfl) (fun _ _ _ h => h) (Or.inl ⟨by rfl, ?_⟩) hHeld ?_ ?_
  rotate_left
  · rintro w' ⟨s0, s1, s2⟩
    go_simp
    with_reducible rfl
  rotate_left
  · simp only [Act.put, List.setIfInBounds_toArray, List.set_cons_zero, List.set_cons_succ, i64_w, i32_w]
    rfl
  refine take_ (i := 4) (N := some 189) (v := ?_) (a' := ?_) #[true, true, true, true, true, false, false, false, false] rfl rfl (by kernel_rfl) (fun _ _ _ h => h) (Or.inl ⟨by rfl, ?_⟩) hHeld ?_ ?_
  rotate_left
  · rintro w' ⟨s0, s1, s2⟩
    go_simp
    with_reducible rfl
  rotate_left
  · simp only [Act.put, List.setIfInBounds_toArray, List.set_cons_zero, List.set_cons_succ, i64_w, i32_w]
    rfl
  refine pure_ (i := 5) (N := some 190) (v := ?_) (a' := ?_) #[true, true, true, true, true, true, false, false, false] rfl rfl (by kernel_rfl) (fun _ _ _ h => h) (Or.inl ⟨by rfl, ?_⟩) ?_ ?_
  rotate_left
  · intro w'
    go_simp
    with_reducible rfl
  rotate_left
  · simp only [Act.put, List.setIfInBounds_toArray, List.set_cons_zero, List.set_cons_succ, i64_w, i32_w]
    rfl
  refine take_ (i := 6) (N := some 191) (v := ?_) (a' := ?_) #[true, true, true, true, true, true, true, false, false] rfl rfl (by kernel_rfl) (fun _ _ _ h => h) (Or.inl ⟨by rfl, ?_⟩) hHeld ?_ ?_
  rotate_left
  · rintro w' ⟨s0, s1, s2⟩
    go_simp
    with_reducible rfl
  rotate_left
  · simp only [Act.put, List.setIfInBounds_toArray, List.set_cons_zero, List.set_cons_succ, i64_w, i32_w]
    rfl
  refine one_ (i := 7) (N := some 192) #[true, true, true, true, true, true, true, true, false] rfl rfl (by kernel_rfl) (by decide) (fun K hK => ?_)
  refine value_ (w1 := ?_) (v := ?_) (by rfl) rfl ?_ ?_
  rotate_left 2
  · go_simp
    constructor
    · rfl
    · rfl
  have hbm := bytes_below (Below.refl wd.heap.size wd) (Nat.le_refl _) 5 (strOfNums x)
  refine hK.out _ _ ⟨(fw _ hbm), (fx _ hbm), (fs _ hbm)⟩ (fun hHeld => ?_)
  clear hK K
  refine norm_ (a' := ?_) ?_ ?_
  rotate_left
  · show Act.put _ (some 192) _ = _
    simp only [Act.put, List.setIfInBounds_toArray, List.set_cons_zero, List.set_cons_succ, i64_w, i32_w]
    rfl
  refine pure_ (i := 8) (N := some 16) (v := ?_) (a' := ?_) #[true, true, true, true, true, true, true, true, true] rfl rfl (by kernel_rfl) (fun _ _ _ h => h) (Or.inl ⟨by rfl, ?_⟩) ?_ ?_
  rotate_left
  · intro w'
    go_simp
    with_reducible rfl
  rotate_left
  · simp only [Act.put, List.setIfInBounds_toArray, List.set_cons_zero, List.set_cons_succ, i64_w, i32_w]
    rfl
  refine done_ (by kernel_rfl) ?_
  clear hHeld kb
  have hcc := fun j hj => made_cell (W := wd) hxls.2 j hj
  generalize grownCap wd x.length 0 5 = cm
  have hbsz := Lib.bytesWorld_size wd 5 (strOfNums x)
  have hbnw := Lib.bytesWorld_at_new wd 5 (strOfNums x)
  have hcs : x.length ≤ (Lib.bytesCells wd 5 (strOfNums x)).size := by
    have h1 : (strOfNums x).data.size = x.length := strOfNums_size x
    unfold Lib.bytesCells
    rw [Array.size_append, Array.size_map, h1]
    omega
  generalize Lib.bytesWorld wd 5 (strOfNums x) = wb at *
  generalize Lib.bytesCells wd 5 (strOfNums x) = cells_ at *
  have hLb := hL3.below hbm
  have hnb := blk_below hnx3 hbm
  have w0 := blk_cell hLb.hw 0
  have w1 := blk_cell hLb.hw 1
  have x0 := blk_cell hnb 0
  have x1 := blk_cell hnb 1
  have x2 := blk_cell hnb 2
  have x3 := blk_cell hnb 3
  have x4 := blk_cell hnb 4
  have x5 := blk_cell hnb 5
  simp only [List.getElem?_toArray, List.getElem?_cons_zero, List.getElem?_cons_succ] at w0 w1 x0 x1 x2 x3 x4 x5
  go_wp2_with (fail)
  refine HK.out _ _ _ _ _ _ _ _ _ _ _ _ _ _ _ _ _ _ _ _ _ _ _ _ _ _ _ _ _ _ _ _ _ _ _ _ _ _ _ _ _ _ _ _ _ _ _ _ _ _ _ _ _ _ _ _ _ _ _ _ _ _ _ _ _ _ _ _ _ _ _ _ _ _ _ _ _ _ _ _ _ _ _ _ _ _ _ _ _ _ _ _ _ _ _ _ _ _ _ _ _ _ _ _ _ _ _ _ _ _ _ _ _ _ _ _ _ _ _ _ _ _ _ _ _ _ _ _ _ _ _ _ _ _ _ _ _ _ _ _ _ _ _ _ _ _ _ _ _ _ _ _ _ _ _ _ _ _ _ _ _ _ _ _ _ _ _ _ _ _ _ _ _ _ _ _ _ _ _ _ _ _ _ _ _ _ _ _ _ _ _ _ _ _ _ _ _ _ _ _ _ _ _ _ _ _ _ _ _ _ _ _ _ _ _ _ _ _ _ ⟨qs, rs, c, d, _, _, hA3.below hbm, hbel3.trans (hbm.mono hbel3.size), hLb, hl0.out, hl1.out, s0, s1, hg0, hlw⟩
set_option maxHeartbeats 16000000 in
set_option maxRecDepth 100000 in
theorem op4no_hi0 (hlb : xb.length ≤ cb) (hCb : (Kd.int .u8).C w Ab xb.length xb) (hxs : Sm xb) (hyw : 0 ≤ xy ∧ xy < 256)
    (HI : Aside0 (Iv w wc g gw (gw + 1) qs rs c d v0 v1)) (HN : Aside0 (wc.heap[gx]? = some (.cells #[.int .i64 xo, .int .i64 xt, .int .i64 xi, .int .i64 xa, .int .u8 xy, .slice Ab xb.length cb] 52 (0, 0))))
    (HG : Aside0 (gb = decide (xt = 0 ∨ xt = 1)))
    (hK : Meet w g gw gx xt gb K u0 u1 u6 u17 u18 u19 u20 u21 u22 u23 u24 u25 u26 u27 u28 u29 u30 u31 u32 u33 u34 u35 u36 u37 u38 u39 u40 u41 u42 u43 u44 u45 u46 u47 u48 u49 u50 u51 u52 u53 (.bool false) u265 u266 u267 u268 u269 u270 u271 u272 u273 u274 u275 u276 u277 u278 u279 u280 u281 u282 u283 u284 u285 u286 u287 u288 u289 u290 u291 u292 u293 u294 u295 u296 u297 u298 u299 u300 u301 u302 u303 u304 u305 u306 u307 u308 u309 u310 u311 u312 u313) (ht : xt = 0) (oc : xo = 4) (i0 : ¬ xi < 0) (i1 : ¬ (qs.length : Int) ≤ xi) (u : Value) (x : List Int) (hpx : qs[xi.toNat]? = some (u, x)) (ha0 : ¬ xa < 0) (ha1 : (x.length : Int) ≤ xa) :
    Code.wp Try.prog condCode (Exit.then K (Exit.inBlock 1 (Exit.then K1 (Exit.then K2 (Exit.inBlock 0 (Exit.then K3 (bodyPost Try.prog Try.f12 fun e w' => e = .returned (.bool true) ∧ Below w.heap.size w w'))))))) ⟨#[u0, u1, u2, .pointer (some ⟨g, 0, none⟩), .pointer (some ⟨gw, 0, none⟩), .pointer (some ⟨gw + 1, 0, none⟩), u6, .pointer (some ⟨gx, 0, none⟩), .int .i64 xt, .bool gb, u10, u11, u12, u13, u14, u15, u16, u17, u18, u19, u20, u21, u22, u23, u24, u25, u26, u27, u28, u29, u30, u31, u32, u33, u34, u35, u36, u37, u38, u39, u40, u41, u42, u43, u44, u45, u46, u47, u48, u49, u50, u51, u52, u53, .bool false, u55, u56, u57, u58, u59, u60, u61, u62, u63, u64, u65, u66, u67, u68, u69, u70, u71, u72, u73, u74, u75, u76, u77, u78, u79, u80, u81, u82, u83, u84, u85, u86, u87, u88, u89, u90, u91, u92, u93, u94, u95, u96, u97, u98, u99, u100, u101, u102, u103, u104, u105, u106, u107, u108, u109, u110, u111, u112, u113, u114, u115, u116, u117, u118, u119, u120, u121, u122, u123, u124, u125, u126, u127, u128, u129, u130, u131, u132, u133, u134, u135, u136, u137, u138, u139, u140, u141, u142, u143, u144, u145, u146, u147, u148, u149, u150, u151, u152, u153, u154, u155, u156, u157, u158, u159, u160, u161, u162, u163, u164, u165, u166, u167, u168, u169, u170, u171, u172, u173, u174, u175, u176, u177, u178, u179, u180, u181, u182, u183, u184, u185, u186, u187, u188, u189, u190, u191, u192, u193, u194, u195, u196, u197, u198, u199, u200, u201, u202, u203, u204, u205, u206, u207, u208, u209, u210, u211, u212, u213, u214, u215, u216, u217, u218, u219, u220, u221, u222, u223, u224, u225, u226, u227, u228, u229, u230, u231, u232, u233, u234, u235, u236, u237, u238, u239, u240, u241, u242, u243, u244, u245, u246, u247, u248, u249, u250, u251, u252, u253, u254, u255, u256, u257, u258, u259, u260, u261, u262, u263, u264, u265, u266, u267, u268, u269, u270, u271, u272, u273, u274, u275, u276, u277, u278, u279, u280, u281, u282, u283, u284, u285, u286, u287, u288, u289, u290, u291, u292, u293, u294, u295, u296, u297, u298, u299, u300, u301, u302, u303, u304, u305, u306, u307, u308, u309, u310, u311, u312, u313], []⟩ wc := by
  have b01 : Go.bits .and .i64 0 1 = 0 := by decide
  have b11 : Go.bits .and .i64 1 1 = 1 := by decide
  have HK := Aside0.mk hK
  clear hK
  subst ht
  obtain rfl : gb = true := by rw [HG.out]; rfl
  clear HG
  subst oc
  have hxb := hxs.1
  obtain ⟨hat, hbel, hla, n0, n1, s0, s1, hg0, hlw⟩ := HI.out
  have hnx := HN.out
  clear HI HN
  obtain ⟨T0, d0, rfl⟩ := hla.t0.slice
  obtain ⟨T1, d1, rfl⟩ := hla.t1.slice
  have hCbw := Kd.C_below hCb hbel
  have hl0 := Aside0.mk n0
  have hl1 := Aside0.mk n1
  clear n0 n1
  unfold condCode doCode
  obtain ⟨n, rfl⟩ : ∃ n : Nat, xi = n := ⟨xi.toNat, by omega⟩
  have hp : qs[n]? = some (u, x) := hpx
  clear hpx
  have hxls : Sm x := s0 _ (List.mem_of_getElem? hp)
  have hxl := hxls.1
  obtain ⟨bT, rfl, hcT⟩ := hla.t0.get hp
  have hTr0 := Kd.R_reads' hla.t0
  rw [List.length_map] at hTr0
  have hnd : qs.length ≤ d0 := hTr0.2.1
  clear hTr0
  dsimp only at hcT
  have hnl : n < qs.length := by omega
  have hnlZ : (n : Int) < (qs.length : Int) := by omega
  have hn0Z : (0 : Int) ≤ (n : Int) := by omega
  have i0b : decide ((0 : Int) ≤ (n : Int)) = true := decide_eq_true hn0Z
  have i1b : decide ((n : Int) < (qs.length : Int)) = true := decide_eq_true hnlZ
  have HP := Aside0.mk hp
  clear hp
  have a0b : decide (xa < 0) = false := decide_eq_false (by omega)
  have a1b : decide ((x.length : Int) ≤ xa) = true := decide_eq_true ha1
  have hnil : ∀ W : World, Sem.run Try.prog (convert 24 9 (.slice none 0 0)) W = Result.ok (.string { data := #[] }) W := fun W => by
    have h := Kd.C_string (P := Try.prog) (w := W) (A := none) (c := 0) (xs := []) Try.underlying24 Try.underlying5 Try.underlying9 (Kd.C_nil _ _)
    exact h
  have w0 := blk_cell hla.hw 0
  have w1 := blk_cell hla.hw 1
  have x0 := blk_cell hnx 0
  have x1 := blk_cell hnx 1
  have x2 := blk_cell hnx 2
  have x3 := blk_cell hnx 3
  have x4 := blk_cell hnx 4
  have x5 := blk_cell hnx 5
  simp only [List.getElem?_toArray, List.getElem?_cons_zero, List.getElem?_cons_succ] at w0 w1 x0 x1 x2 x3 x4 x5
  go_wp2_with (fail)
  have hT := SpoilNone0 g g qs rs c d n u x xa xy Ab xb.length cb wc hat HP.out (by omega)
  refine hT.mono ?_
  rintro e w2 ⟨rfl, hb2⟩
  have hA2 := hat.below hb2
  have hL2 := hla.below hb2
  have hnx2 := blk_below hnx hb2
  have hbel2 := hbel.trans (hb2.mono hbel.size)
  clear hT hnx hb2 w0 w1 x0 x1 x2 x3 x4 x5 hat hla hbel hcT hCbw
  dsimp only
  have w0 := blk_cell hL2.hw 0
  have w1 := blk_cell hL2.hw 1
  have x0 := blk_cell hnx2 0
  have x1 := blk_cell hnx2 1
  have x2 := blk_cell hnx2 2
  have x3 := blk_cell hnx2 3
  have x4 := blk_cell hnx2 4
  have x5 := blk_cell hnx2 5
  simp only [List.getElem?_toArray, List.getElem?_cons_zero, List.getElem?_cons_succ] at w0 w1 x0 x1 x2 x3 x4 x5
  have hbq := fun n => hbel2.trans ((pw_below_drewN (Below.refl w2.heap.size w2) n).mono hbel2.size)
  have haq := fun n => hA2.below (pw_below_drewN (Below.refl w2.heap.size w2) n)
  have hlq := fun n => hL2.below (pw_below_drewN (Below.refl w2.heap.size w2) n)
  have hxq := fun n => blk_below hnx2 (pw_below_drewN (Below.refl w2.heap.size w2) n)
  clear hA2 hL2 hnx2 hbel2
  go_wp2_with (fail)
  go_quiet (fail)
  go_wp2_with (fail)
  clear b01 b11
  clear w0 w1 x0 x1 x2 x3 x4 x5
  generalize hq : World.drewN w2 _ = w3
  have hbel2 := via hq (P := fun W => Below w.heap.size w W) hbq
  have hA2 := via hq (P := fun W => At W g g _ _ _ _) haq
  have hL2 := via hq (P := fun W => La W g gw (gw + 1) _ _ _ _ _ _) hlq
  have hnx2 := via hq (P := fun W => W.heap[gx]? = _) hxq
  clear hq hbq haq hlq hxq
  have hDd := below_drew (Below.refl w3.heap.size w3)
  have hA3 := hA2.below hDd
  have hL3 := hL2.below hDd
  have hnx3 := blk_drew hnx2
  have hbel3 := hbel2.trans (hDd.mono hbel2.size)
  have hTC := (Kd.R_reads' hL3.t0).2.2
  rw [List.length_map] at hTC
  have fw : ∀ w', Below w3.drew.heap.size w3.drew w' → w'.cell? ⟨gw, 0, none⟩ = some (.slice (some ⟨bT, 0, none⟩) qs.length d0) := fun w' hb => blk_cell (hL3.below hb).hw 0
  have fx : ∀ w', Below w3.drew.heap.size w3.drew w' → w'.cell? ⟨gx, 2, none⟩ = some (.int .i64 n) := fun w' hb => blk_cell (blk_below hnx3 hb) 2
  have fs : ∀ w', Below w3.drew.heap.size w3.drew w' → w'.cell? ⟨bT, n, none⟩ = some (.string (strOfNums x)) := fun w' hb => by
    obtain ⟨bT2, hbT2, hcT2⟩ := (hL3.below hb).t0.get HP.out
    obtain rfl : bT = bT2 := by injection hbT2 with h; injection h
    exact hcT2
  clear hA2 hL2 hnx2 hbel2 hDd
  have hsz : (strOfNums x).size = x.length := strOfNums_size x
  have kb : ∀ W : World, Sem.run Try.prog (convert 9 24 (.string (strOfNums x))) W = Result.ok (.slice (some ⟨W.heap.size, 0, none⟩) x.length (grownCap W x.length 0 5)) (Lib.bytesWorld W 5 (strOfNums x)) := fun W => by
    have h := print_bytes (P := Try.prog) 9 24 5 Try.underlying9 Try.underlying24 Try.underlying5 (strOfNums x) W
    rw [hsz] at h
    exact h
  clear hsz
  refine start_ (n := 9) (S := fun w' => w'.cell? ⟨gw, 0, none⟩ = some (.slice (some ⟨bT, 0, none⟩) qs.length d0) ∧ w'.cell? ⟨gx, 2, none⟩ = some (.int .i64 n) ∧ w'.cell? ⟨bT, n, none⟩ = some (.string (strOfNums x))) (ds := []) #[false, false, false, false, false, false, false, false, false] (by kernel_rfl) rfl rfl ⟨(fw _ (Below.refl _ _)), (fx _ (Below.refl _ _)), (fs _ (Below.refl _ _))⟩ (fun hHeld => ?_)
  generalize w3.drew = wd at *
  refine pure_ (i := 0) (N := some 185) (v := ?_) (a' := ?_) #[true, false, false, false, false, false, false, false, false] rfl rfl (by kernel_rfl) (fun _ _ _ h => h) (Or.inl ⟨by rfl, ?_⟩) ?_ ?_
  rotate_left
  · intro w'
    go_simp
    with_reducible rfl
  rotate_left
  · simp only [Act.put, List.setIfInBounds_toArray, List.set_cons_zero, List.set_cons_succ, i64_w, i32_w]
    rfl
  refine pure_ (i := 1) (N := some 186) (v := ?_) (a' := ?_) #[true, true, false, false, false, false, false, false, false] rfl rfl (by kernel_rfl) (fun _ _ _ h => h) (Or.inl ⟨by rfl, ?_⟩) ?_ ?_
  rotate_left
  · intro w'
    go_simp
    with_reducible rfl
  rotate_left
  · simp only [Act.put, List.setIfInBounds_toArray, List.set_cons_zero, List.set_cons_succ, i64_w, i32_w]
    rfl
  refine pure_ (i := 3) (N := some 188) (v := ?_) (a' := ?_) #[true, true, false, true, false, false, false, false, false] rfl rfl (by kernel_rfl) (fun _ _ _ h => h) (Or.inl ⟨by rfl, ?_⟩) ?_ ?_
  rotate_left
  · intro w'
    go_simp
    with_reducible rfl
  rotate_left
  · simp only [Act.put, List.setIfInBounds_toArray, List.set_cons_zero, List.set_cons_succ, i64_w, i32_w]
    rfl
  refine take_ (i := 2) (N := some 187) (v := ?_) (a' := ?_) #[true, true, true, true, false, false, false, false, false] rfl rfl (by kernel_rfl) (fun _ _ _ h => h) (Or.inl ⟨by rfl, ?_⟩) hHeld ?_ ?_
  rotate_left
  · rintro w' ⟨s0, s1, s2⟩
    go_simp
    with_reducible rfl
  rotate_left
  · simp only [Act.put, List.setIfInBounds_toArray, List.set_cons_zero, List.set_cons_succ, i64_w, i32_w]
    rfl
  refine take_ (i := 4) (N := some 189) (v := ?_) (a' := ?_) #[true, true, true, true, true, false, false, false, false] rfl rfl (by kernel_rfl) (fun _ _ _ h => h) (Or.inl ⟨by rfl, ?_⟩) hHeld ?_ ?_
  rotate_left
  · rintro w' ⟨s0, s1, s2⟩
    go_simp
    with_reducible rfl
  rotate_left
  · simp only [Act.put, List.setIfInBounds_toArray, List.set_cons_zero, List.set_cons_succ, i64_w, i32_w]
    rfl
  refine pure_ (i := 5) (N := some 190) (v := ?_) (a' := ?_) #[true, true, true, true, true, true, false, false, false] rfl rfl (by kernel_rfl) (fun _ _ _ h => h) (Or.inl ⟨by rfl, ?_⟩) ?_ ?_
  rotate_left
  · intro w'
    go_simp
    with_reducible rfl
  rotate_left
  · simp only [Act.put, List.setIfInBounds_toArray, List.set_cons_zero, List.set_cons_succ, i64_w, i32_w]
    rfl
  refine take_ (i := 6) (N := some 191) (v := ?_) (a' := ?_) #[true, true, true, true, true, true, true, false, false] rfl rfl (by kernel_rfl) (fun _ _ _ h => h) (Or.inl ⟨by rfl, ?_⟩) hHeld ?_ ?_
  rotate_left
  · rintro w' ⟨s0, s1, s2⟩
    go_simp
    with_reducible rfl
  rotate_left
  · simp only [Act.put, List.setIfInBounds_toArray, List.set_cons_zero, List.set_cons_succ, i64_w, i32_w]
    rfl
  refine one_ (i := 7) (N := some 192) #[true, true, true, true, true, true, true, true, false] rfl rfl (by kernel_rfl) (by decide) (fun K hK => ?_)
  refine value_ (w1 := ?_) (v := ?_) (by rfl) rfl ?_ ?_
  rotate_left 2
  · go_simp
    constructor
    · rfl
    · rfl
  have hbm := bytes_below (Below.refl wd.heap.size wd) (Nat.le_refl _) 5 (strOfNums x)
  refine hK.out _ _ ⟨(fw _ hbm), (fx _ hbm), (fs _ hbm)⟩ (fun hHeld => ?_)
  clear hK K
  refine norm_ (a' := ?_) ?_ ?_
  rotate_left
  · show Act.put _ (some 192) _ = _
    simp only [Act.put, List.setIfInBounds_toArray, List.set_cons_zero, List.set_cons_succ, i64_w, i32_w]
    rfl
  refine pure_ (i := 8) (N := some 16) (v := ?_) (a' := ?_) #[true, true, true, true, true, true, true, true, true] rfl rfl (by kernel_rfl) (fun _ _ _ h => h) (Or.inl ⟨by rfl, ?_⟩) ?_ ?_
  rotate_left
  · intro w'
    go_simp
    with_reducible rfl
  rotate_left
  · simp only [Act.put, List.setIfInBounds_toArray, List.set_cons_zero, List.set_cons_succ, i64_w, i32_w]
    rfl
  refine done_ (by kernel_rfl) ?_
  clear hHeld kb
  have hcc := fun j hj => made_cell (W := wd) hxls.2 j hj
  generalize grownCap wd x.length 0 5 = cm
  have hbsz := Lib.bytesWorld_size wd 5 (strOfNums x)
  have hbnw := Lib.bytesWorld_at_new wd 5 (strOfNums x)
  have hcs : x.length ≤ (Lib.bytesCells wd 5 (strOfNums x)).size := by
    have h1 : (strOfNums x).data.size = x.length := strOfNums_size x
    unfold Lib.bytesCells
    rw [Array.size_append, Array.size_map, h1]
    omega
  generalize Lib.bytesWorld wd 5 (strOfNums x) = wb at *
  generalize Lib.bytesCells wd 5 (strOfNums x) = cells_ at *
  have hLb := hL3.below hbm
  have hnb := blk_below hnx3 hbm
  have w0 := blk_cell hLb.hw 0
  have w1 := blk_cell hLb.hw 1
  have x0 := blk_cell hnb 0
  have x1 := blk_cell hnb 1
  have x2 := blk_cell hnb 2
  have x3 := blk_cell hnb 3
  have x4 := blk_cell hnb 4
  have x5 := blk_cell hnb 5
  simp only [List.getElem?_toArray, List.getElem?_cons_zero, List.getElem?_cons_succ] at w0 w1 x0 x1 x2 x3 x4 x5
  go_wp2_with (fail)
  refine HK.out _ _ _ _ _ _ _ _ _ _ _ _ _ _ _ _ _ _ _ _ _ _ _ _ _ _ _ _ _ _ _ _ _ _ _ _ _ _ _ _ _ _ _ _ _ _ _ _ _ _ _ _ _ _ _ _ _ _ _ _ _ _ _ _ _ _ _ _ _ _ _ _ _ _ _ _ _ _ _ _ _ _ _ _ _ _ _ _ _ _ _ _ _ _ _ _ _ _ _ _ _ _ _ _ _ _ _ _ _ _ _ _ _ _ _ _ _ _ _ _ _ _ _ _ _ _ _ _ _ _ _ _ _ _ _ _ _ _ _ _ _ _ _ _ _ _ _ _ _ _ _ _ _ _ _ _ _ _ _ _ _ _ _ _ _ _ _ _ _ _ _ _ _ _ _ _ _ _ _ _ _ _ _ _ _ _ _ _ _ _ _ _ _ _ _ _ _ _ _ _ _ _ _ _ _ _ _ _ _ _ _ _ _ _ _ _ _ _ _ ⟨qs, rs, c, d, _, _, hA3.below hbm, hbel3.trans (hbm.mono hbel3.size), hLb, hl0.out, hl1.out, s0, s1, hg0, hlw⟩
set_option maxHeartbeats 16000000 in
set_option maxRecDepth 100000 in
theorem op4_0 (hlb : xb.length ≤ cb) (hCb : (Kd.int .u8).C w Ab xb.length xb) (hxs : Sm xb) (hyw : 0 ≤ xy ∧ xy < 256)
    (HI : Aside0 (Iv w wc g gw (gw + 1) qs rs c d v0 v1)) (HN : Aside0 (wc.heap[gx]? = some (.cells #[.int .i64 xo, .int .i64 xt, .int .i64 xi, .int .i64 xa, .int .u8 xy, .slice Ab xb.length cb] 52 (0, 0))))
    (HG : Aside0 (gb = decide (xt = 0 ∨ xt = 1)))
    (hK : Meet w g gw gx xt gb K u0 u1 u6 u17 u18 u19 u20 u21 u22 u23 u24 u25 u26 u27 u28 u29 u30 u31 u32 u33 u34 u35 u36 u37 u38 u39 u40 u41 u42 u43 u44 u45 u46 u47 u48 u49 u50 u51 u52 u53 (.bool false) u265 u266 u267 u268 u269 u270 u271 u272 u273 u274 u275 u276 u277 u278 u279 u280 u281 u282 u283 u284 u285 u286 u287 u288 u289 u290 u291 u292 u293 u294 u295 u296 u297 u298 u299 u300 u301 u302 u303 u304 u305 u306 u307 u308 u309 u310 u311 u312 u313) (ht : xt = 0) (oc : xo = 4) (i0 : ¬ xi < 0) (i1 : ¬ (qs.length : Int) ≤ xi) (u : Value) (x : List Int) (hpx : qs[xi.toNat]? = some (u, x)) (ha0 : ¬ xa < 0) (ha1 : ¬ (x.length : Int) ≤ xa) :
    Code.wp Try.prog condCode (Exit.then K (Exit.inBlock 1 (Exit.then K1 (Exit.then K2 (Exit.inBlock 0 (Exit.then K3 (bodyPost Try.prog Try.f12 fun e w' => e = .returned (.bool true) ∧ Below w.heap.size w w'))))))) ⟨#[u0, u1, u2, .pointer (some ⟨g, 0, none⟩), .pointer (some ⟨gw, 0, none⟩), .pointer (some ⟨gw + 1, 0, none⟩), u6, .pointer (some ⟨gx, 0, none⟩), .int .i64 xt, .bool gb, u10, u11, u12, u13, u14, u15, u16, u17, u18, u19, u20, u21, u22, u23, u24, u25, u26, u27, u28, u29, u30, u31, u32, u33, u34, u35, u36, u37, u38, u39, u40, u41, u42, u43, u44, u45, u46, u47, u48, u49, u50, u51, u52, u53, .bool false, u55, u56, u57, u58, u59, u60, u61, u62, u63, u64, u65, u66, u67, u68, u69, u70, u71, u72, u73, u74, u75, u76, u77, u78, u79, u80, u81, u82, u83, u84, u85, u86, u87, u88, u89, u90, u91, u92, u93, u94, u95, u96, u97, u98, u99, u100, u101, u102, u103, u104, u105, u106, u107, u108, u109, u110, u111, u112, u113, u114, u115, u116, u117, u118, u119, u120, u121, u122, u123, u124, u125, u126, u127, u128, u129, u130, u131, u132, u133, u134, u135, u136, u137, u138, u139, u140, u141, u142, u143, u144, u145, u146, u147, u148, u149, u150, u151, u152, u153, u154, u155, u156, u157, u158, u159, u160, u161, u162, u163, u164, u165, u166, u167, u168, u169, u170, u171, u172, u173, u174, u175, u176, u177, u178, u179, u180, u181, u182, u183, u184, u185, u186, u187, u188, u189, u190, u191, u192, u193, u194, u195, u196, u197, u198, u199, u200, u201, u202, u203, u204, u205, u206, u207, u208, u209, u210, u211, u212, u213, u214, u215, u216, u217, u218, u219, u220, u221, u222, u223, u224, u225, u226, u227, u228, u229, u230, u231, u232, u233, u234, u235, u236, u237, u238, u239, u240, u241, u242, u243, u244, u245, u246, u247, u248, u249, u250, u251, u252, u253, u254, u255, u256, u257, u258, u259, u260, u261, u262, u263, u264, u265, u266, u267, u268, u269, u270, u271, u272, u273, u274, u275, u276, u277, u278, u279, u280, u281, u282, u283, u284, u285, u286, u287, u288, u289, u290, u291, u292, u293, u294, u295, u296, u297, u298, u299, u300, u301, u302, u303, u304, u305, u306, u307, u308, u309, u310, u311, u312, u313], []⟩ wc := by
  have b01 : Go.bits .and .i64 0 1 = 0 := by decide
  have b11 : Go.bits .and .i64 1 1 = 1 := by decide
  have HK := Aside0.mk hK
  clear hK
  subst ht
  obtain rfl : gb = true := by rw [HG.out]; rfl
  clear HG
  subst oc
  have hxb := hxs.1
  obtain ⟨hat, hbel, hla, n0, n1, s0, s1, hg0, hlw⟩ := HI.out
  have hnx := HN.out
  clear HI HN
  obtain ⟨T0, d0, rfl⟩ := hla.t0.slice
  obtain ⟨T1, d1, rfl⟩ := hla.t1.slice
  have hCbw := Kd.C_below hCb hbel
  have hl0 := Aside0.mk n0
  have hl1 := Aside0.mk n1
  clear n0 n1
  unfold condCode doCode
  obtain ⟨n, rfl⟩ : ∃ n : Nat, xi = n := ⟨xi.toNat, by omega⟩
  have hp : qs[n]? = some (u, x) := hpx
  clear hpx
  have hxls : Sm x := s0 _ (List.mem_of_getElem? hp)
  have hxl := hxls.1
  obtain ⟨bT, rfl, hcT⟩ := hla.t0.get hp
  have hTr0 := Kd.R_reads' hla.t0
  rw [List.length_map] at hTr0
  have hnd : qs.length ≤ d0 := hTr0.2.1
  clear hTr0
  dsimp only at hcT
  have hnl : n < qs.length := by omega
  have hnlZ : (n : Int) < (qs.length : Int) := by omega
  have hn0Z : (0 : Int) ≤ (n : Int) := by omega
  have i0b : decide ((0 : Int) ≤ (n : Int)) = true := decide_eq_true hn0Z
  have i1b : decide ((n : Int) < (qs.length : Int)) = true := decide_eq_true hnlZ
  have HP := Aside0.mk hp
  clear hp
  obtain ⟨s, rfl⟩ : ∃ s : Nat, xa = s := ⟨xa.toNat, by omega⟩
  have hsl : s < x.length := by omega
  have hslZ : (s : Int) < (x.length : Int) := by omega
  have hs0Z : (0 : Int) ≤ (s : Int) := by omega
  have a0b : decide ((s : Int) < 0) = false := decide_eq_false (by omega)
  have a1b : decide ((x.length : Int) ≤ (s : Int)) = false := decide_eq_false (by omega)
  have hnil : ∀ W : World, Sem.run Try.prog (convert 24 9 (.slice none 0 0)) W = Result.ok (.string { data := #[] }) W := fun W => by
    have h := Kd.C_string (P := Try.prog) (w := W) (A := none) (c := 0) (xs := []) Try.underlying24 Try.underlying5 Try.underlying9 (Kd.C_nil _ _)
    exact h
  have w0 := blk_cell hla.hw 0
  have w1 := blk_cell hla.hw 1
  have x0 := blk_cell hnx 0
  have x1 := blk_cell hnx 1
  have x2 := blk_cell hnx 2
  have x3 := blk_cell hnx 3
  have x4 := blk_cell hnx 4
  have x5 := blk_cell hnx 5
  simp only [List.getElem?_toArray, List.getElem?_cons_zero, List.getElem?_cons_succ] at w0 w1 x0 x1 x2 x3 x4 x5
  go_wp2_with (fail)
  have hT := Spoil0 g g qs rs c d n s u x xy Ab xb.length cb wc hat HP.out hsl
  refine hT.mono ?_
  rintro e w2 ⟨rfl, hA2, hb2, hf2⟩
  have hL2 := hla.fr hf2
  have hnx2 := (hf2 gx _ _ hnx (by decide) (by decide) (by decide)).trans hnx
  have hbel2 := hbel.trans (hb2.mono hg0)
  have hrd : rd x (s : Int) = x.getD s 0 := by
    unfold rd
    first | rfl | simp
  rw [hrd] at hA2
  clear hrd hT hf2 hb2 hCbw hnx hla hat hbel w0 w1 x0 x1 x2 x3 x4 x5 hcT
  dsimp only
  obtain ⟨bT2, hbT2, hcT2⟩ := hL2.t0.get HP.out
  obtain rfl : bT = bT2 := by injection hbT2 with h; injection h
  clear hbT2 hcT2
  have w0 := blk_cell hL2.hw 0
  have w1 := blk_cell hL2.hw 1
  have x0 := blk_cell hnx2 0
  have x1 := blk_cell hnx2 1
  have x2 := blk_cell hnx2 2
  have x3 := blk_cell hnx2 3
  have x4 := blk_cell hnx2 4
  have x5 := blk_cell hnx2 5
  simp only [List.getElem?_toArray, List.getElem?_cons_zero, List.getElem?_cons_succ] at w0 w1 x0 x1 x2 x3 x4 x5
  have hbq := fun n => hbel2.trans ((pw_below_drewN (Below.refl w2.heap.size w2) n).mono hbel2.size)
  have haq := fun n => hA2.below (pw_below_drewN (Below.refl w2.heap.size w2) n)
  have hlq := fun n => hL2.below (pw_below_drewN (Below.refl w2.heap.size w2) n)
  have hxq := fun n => blk_below hnx2 (pw_below_drewN (Below.refl w2.heap.size w2) n)
  clear hA2 hL2 hnx2 hbel2
  go_wp2_with (fail)
  go_quiet (fail)
  go_wp2_with (fail)
  clear b01 b11
  clear w0 w1 x0 x1 x2 x3 x4 x5
  generalize hq : World.drewN w2 _ = w3
  have hbel2 := via hq (P := fun W => Below w.heap.size w W) hbq
  have hA2 := via hq (P := fun W => At W g g _ _ _ _) haq
  have hL2 := via hq (P := fun W => La W g gw (gw + 1) _ _ _ _ _ _) hlq
  have hnx2 := via hq (P := fun W => W.heap[gx]? = _) hxq
  clear hq hbq haq hlq hxq
  have hDd := below_drew (Below.refl w3.heap.size w3)
  have hA3 := hA2.below hDd
  have hL3 := hL2.below hDd
  have hnx3 := blk_drew hnx2
  have hbel3 := hbel2.trans (hDd.mono hbel2.size)
  have hTC := (Kd.R_reads' hL3.t0).2.2
  rw [List.length_map] at hTC
  have fw : ∀ w', Below w3.drew.heap.size w3.drew w' → w'.cell? ⟨gw, 0, none⟩ = some (.slice (some ⟨bT, 0, none⟩) qs.length d0) := fun w' hb => blk_cell (hL3.below hb).hw 0
  have fx : ∀ w', Below w3.drew.heap.size w3.drew w' → w'.cell? ⟨gx, 2, none⟩ = some (.int .i64 n) := fun w' hb => blk_cell (blk_below hnx3 hb) 2
  have fs : ∀ w', Below w3.drew.heap.size w3.drew w' → w'.cell? ⟨bT, n, none⟩ = some (.string (strOfNums x)) := fun w' hb => by
    obtain ⟨bT2, hbT2, hcT2⟩ := (hL3.below hb).t0.get HP.out
    obtain rfl : bT = bT2 := by injection hbT2 with h; injection h
    exact hcT2
  clear hA2 hL2 hnx2 hbel2 hDd
  have hsz : (strOfNums x).size = x.length := strOfNums_size x
  have kb : ∀ W : World, Sem.run Try.prog (convert 9 24 (.string (strOfNums x))) W = Result.ok (.slice (some ⟨W.heap.size, 0, none⟩) x.length (grownCap W x.length 0 5)) (Lib.bytesWorld W 5 (strOfNums x)) := fun W => by
    have h := print_bytes (P := Try.prog) 9 24 5 Try.underlying9 Try.underlying24 Try.underlying5 (strOfNums x) W
    rw [hsz] at h
    exact h
  clear hsz
  refine start_ (n := 9) (S := fun w' => w'.cell? ⟨gw, 0, none⟩ = some (.slice (some ⟨bT, 0, none⟩) qs.length d0) ∧ w'.cell? ⟨gx, 2, none⟩ = some (.int .i64 n) ∧ w'.cell? ⟨bT, n, none⟩ = some (.string (strOfNums x))) (ds := []) #[false, false, false, false, false, false, false, false, false] (by kernel_rfl) rfl rfl ⟨(fw _ (Below.refl _ _)), (fx _ (Below.refl _ _)), (fs _ (Below.refl _ _))⟩ (fun hHeld => ?_)
  generalize w3.drew = wd at *
  refine pure_ (i := 0) (N := some 185) (v := ?_) (a' := ?_) #[true, false, false, false, false, false, false, false, false] rfl rfl (by kernel_rfl) (fun _ _ _ h => h) (Or.inl ⟨by rfl, ?_⟩) ?_ ?_
  rotate_left
  · intro w'
    go_simp
    with_reducible rfl
  rotate_left
  · simp only [Act.put, List.setIfInBounds_toArray, List.set_cons_zero, List.set_cons_succ, i64_w, i32_w]
    rfl
  refine pure_ (i := 1) (N := some 186) (v := ?_) (a' := ?_) #[true, true, false, false, false, false, false, false, false] rfl rfl (by kernel_rfl) (fun _ _ _ h => h) (Or.inl ⟨by rfl, ?_⟩) ?_ ?_
  rotate_left
  · intro w'
    go_simp
    with_reducible rfl
  rotate_left
  · simp only [Act.put, List.setIfInBounds_toArray, List.set_cons_zero, List.set_cons_succ, i64_w, i32_w]
    rfl
  refine pure_ (i := 3) (N := some 188) (v := ?_) (a' := ?_) #[true, true, false, true, false, false, false, false, false] rfl rfl (by kernel_rfl) (fun _ _ _ h => h) (Or.inl ⟨by rfl, ?_⟩) ?_ ?_
  rotate_left
  · intro w'
    go_simp
    with_reducible rfl
  rotate_left
  · simp only [Act.put, List.setIfInBounds_toArray, List.set_cons_zero, List.set_cons_succ, i64_w, i32_w]
    rfl
  refine take_ (i := 2) (N := some 187) (v := ?_) (a' := ?_) #[true, true, true, true, false, false, false, false, false] rfl rfl (by kernel_rfl) (fun _ _ _ h => h) (Or.inl ⟨by rfl, ?_⟩) hHeld ?_ ?_
  rotate_left
  · rintro w' ⟨s0, s1, s2⟩
    go_simp
    with_reducible rfl
  rotate_left
  · simp only [Act.put, List.setIfInBounds_toArray, List.set_cons_zero, List.set_cons_succ, i64_w, i32_w]
    rfl
  refine take_ (i := 4) (N := some 189) (v := ?_) (a' := ?_) #[true, true, true, true, true, false, false, false, false] rfl rfl (by kernel_rfl) (fun _ _ _ h => h) (Or.inl ⟨by rfl, ?_⟩) hHeld ?_ ?_
  rotate_left
  · rintro w' ⟨s0, s1, s2⟩
    go_simp
    with_reducible rfl
  rotate_left
  · simp only [Act.put, List.setIfInBounds_toArray, List.set_cons_zero, List.set_cons_succ, i64_w, i32_w]
    rfl
  refine pure_ (i := 5) (N := some 190) (v := ?_) (a' := ?_) #[true, true, true, true, true, true, false, false, false] rfl rfl (by kernel_rfl) (fun _ _ _ h => h) (Or.inl ⟨by rfl, ?_⟩) ?_ ?_
  rotate_left
  · intro w'
    go_simp
    with_reducible rfl
  rotate_left
  · simp only [Act.put, List.setIfInBounds_toArray, List.set_cons_zero, List.set_cons_succ, i64_w, i32_w]
    rfl
  refine take_ (i := 6) (N := some 191) (v := ?_) (a' := ?_) #[true, true, true, true, true, true, true, false, false] rfl rfl (by kernel_rfl) (fun _ _ _ h => h) (Or.inl ⟨by rfl, ?_⟩) hHeld ?_ ?_
  rotate_left
  · rintro w' ⟨s0, s1, s2⟩
    go_simp
    with_reducible rfl
  rotate_left
  · simp only [Act.put, List.setIfInBounds_toArray, List.set_cons_zero, List.set_cons_succ, i64_w, i32_w]
    rfl
  refine one_ (i := 7) (N := some 192) #[true, true, true, true, true, true, true, true, false] rfl rfl (by kernel_rfl) (by decide) (fun K hK => ?_)
  refine value_ (w1 := ?_) (v := ?_) (by rfl) rfl ?_ ?_
  rotate_left 2
  · go_simp
    constructor
    · rfl
    · rfl
  have hbm := bytes_below (Below.refl wd.heap.size wd) (Nat.le_refl _) 5 (strOfNums x)
  refine hK.out _ _ ⟨(fw _ hbm), (fx _ hbm), (fs _ hbm)⟩ (fun hHeld => ?_)
  clear hK K
  refine norm_ (a' := ?_) ?_ ?_
  rotate_left
  · show Act.put _ (some 192) _ = _
    simp only [Act.put, List.setIfInBounds_toArray, List.set_cons_zero, List.set_cons_succ, i64_w, i32_w]
    rfl
  refine pure_ (i := 8) (N := some 16) (v := ?_) (a' := ?_) #[true, true, true, true, true, true, true, true, true] rfl rfl (by kernel_rfl) (fun _ _ _ h => h) (Or.inl ⟨by rfl, ?_⟩) ?_ ?_
  rotate_left
  · intro w'
    go_simp
    with_reducible rfl
  rotate_left
  · simp only [Act.put, List.setIfInBounds_toArray, List.set_cons_zero, List.set_cons_succ, i64_w, i32_w]
    rfl
  refine done_ (by kernel_rfl) ?_
  clear hHeld kb
  have hcc := fun j hj => made_cell (W := wd) hxls.2 j hj
  generalize grownCap wd x.length 0 5 = cm
  have hbsz := Lib.bytesWorld_size wd 5 (strOfNums x)
  have hbnw := Lib.bytesWorld_at_new wd 5 (strOfNums x)
  have hcs : x.length ≤ (Lib.bytesCells wd 5 (strOfNums x)).size := by
    have h1 : (strOfNums x).data.size = x.length := strOfNums_size x
    unfold Lib.bytesCells
    rw [Array.size_append, Array.size_map, h1]
    omega
  generalize Lib.bytesWorld wd 5 (strOfNums x) = wb at *
  generalize Lib.bytesCells wd 5 (strOfNums x) = cells_ at *
  have hLb := hL3.below hbm
  have hnb := blk_below hnx3 hbm
  have w0 := blk_cell hLb.hw 0
  have w1 := blk_cell hLb.hw 1
  have x0 := blk_cell hnb 0
  have x1 := blk_cell hnb 1
  have x2 := blk_cell hnb 2
  have x3 := blk_cell hnb 3
  have x4 := blk_cell hnb 4
  have x5 := blk_cell hnb 5
  simp only [List.getElem?_toArray, List.getElem?_cons_zero, List.getElem?_cons_succ] at w0 w1 x0 x1 x2 x3 x4 x5
  obtain ⟨vx, hvx⟩ : ∃ vx, x.getD s 0 = vx := ⟨_, rfl⟩
  have xs_ := hcc s hsl
  rw [hvx] at xs_ hA3
  clear hvx
  have HCC : Aside0 (∀ j, j < x.length → wb.drew.cell? ⟨wd.heap.size, j, none⟩ = some (.int .u8 (x.getD j 0))) := Aside0.mk hcc
  clear hcc
  have xz_ : wb.frozen? ⟨wd.heap.size, s, none⟩ = false := by
    rw [World.frozen?, hbnw]
    simp
    omega
  go_wp2_with (fail)
  replace x3 : wb.drew.cell? ⟨gx, 3, none⟩ = some (.int .i64 s) := x3
  replace x4 : wb.drew.cell? ⟨gx, 4, none⟩ = some (.int .u8 xy) := x4
  replace xs_ : wb.drew.cell? ⟨wd.heap.size, s, none⟩ = some (.int .u8 vx) := xs_
  replace xz_ : wb.drew.frozen? ⟨wd.heap.size, s, none⟩ = false := xz_
  have hbd := below_drew hbm
  have hbnd : wb.drew.heap[wd.heap.size]? = some (.cells cells_ 5 (cells_.size, cells_.size + 1)) := hbnw
  refine start_ (n := 13) (S := fun w' => w'.cell? ⟨gx, 3, none⟩ = some (.int .i64 s) ∧ w'.cell? ⟨gx, 4, none⟩ = some (.int .u8 xy) ∧ w'.cell? ⟨wd.heap.size, s, none⟩ = some (.int .u8 vx)) (ds := [12]) #[false, false, false, false, false, false, false, false, false, false, false, false, false] (by kernel_rfl) rfl rfl ⟨x3, x4, xs_⟩ (fun hHeld => ?_)
  generalize wb.drew = we at *
  refine pure_ (i := 0) (N := some 203) (v := ?_) (a' := ?_) #[true, false, false, false, false, false, false, false, false, false, false, false, false] rfl rfl (by kernel_rfl) (fun _ _ _ h => h) (Or.inl ⟨by rfl, ?_⟩) ?_ ?_
  rotate_left
  · intro w'
    go_simp
    with_reducible rfl
  rotate_left
  · simp only [Act.put, List.setIfInBounds_toArray, List.set_cons_zero, List.set_cons_succ, i64_w, i32_w]
    rfl
  refine pure_ (i := 1) (N := some 204) (v := ?_) (a' := ?_) #[true, true, false, false, false, false, false, false, false, false, false, false, false] rfl rfl (by kernel_rfl) (fun _ _ _ h => h) (Or.inl ⟨by rfl, ?_⟩) ?_ ?_
  rotate_left
  · intro w'
    go_simp
    with_reducible rfl
  rotate_left
  · simp only [Act.put, List.setIfInBounds_toArray, List.set_cons_zero, List.set_cons_succ, i64_w, i32_w]
    rfl
  refine pure_ (i := 3) (N := some 206) (v := ?_) (a' := ?_) #[true, true, false, true, false, false, false, false, false, false, false, false, false] rfl rfl (by kernel_rfl) (fun _ _ _ h => h) (Or.inl ⟨by rfl, ?_⟩) ?_ ?_
  rotate_left
  · intro w'
    go_simp
    with_reducible rfl
  rotate_left
  · simp only [Act.put, List.setIfInBounds_toArray, List.set_cons_zero, List.set_cons_succ, i64_w, i32_w]
    rfl
  refine pure_ (i := 4) (N := some 207) (v := ?_) (a' := ?_) #[true, true, false, true, true, false, false, false, false, false, false, false, false] rfl rfl (by kernel_rfl) (fun _ _ _ h => h) (Or.inl ⟨by rfl, ?_⟩) ?_ ?_
  rotate_left
  · intro w'
    go_simp
    with_reducible rfl
  rotate_left
  · simp only [Act.put, List.setIfInBounds_toArray, List.set_cons_zero, List.set_cons_succ, i64_w, i32_w]
    rfl
  refine pure_ (i := 8) (N := some 211) (v := ?_) (a' := ?_) #[true, true, false, true, true, false, false, false, true, false, false, false, false] rfl rfl (by kernel_rfl) (fun _ _ _ h => h) (Or.inl ⟨by rfl, ?_⟩) ?_ ?_
  rotate_left
  · intro w'
    go_simp
    with_reducible rfl
  rotate_left
  · simp only [Act.put, List.setIfInBounds_toArray, List.set_cons_zero, List.set_cons_succ, i64_w, i32_w]
    rfl
  refine take_ (i := 2) (N := some 205) (v := ?_) (a' := ?_) #[true, true, true, true, true, false, false, false, true, false, false, false, false] rfl rfl (by kernel_rfl) (fun _ _ _ h => h) (Or.inl ⟨by rfl, ?_⟩) hHeld ?_ ?_
  rotate_left
  · rintro w' ⟨s0, s1, s2⟩
    go_simp
    with_reducible rfl
  rotate_left
  · simp only [Act.put, List.setIfInBounds_toArray, List.set_cons_zero, List.set_cons_succ, i64_w, i32_w]
    rfl
  refine take_ (i := 5) (N := some 208) (v := ?_) (a' := ?_) #[true, true, true, true, true, true, false, false, true, false, false, false, false] rfl rfl (by kernel_rfl) (fun _ _ _ h => h) (Or.inl ⟨by rfl, ?_⟩) hHeld ?_ ?_
  rotate_left
  · rintro w' ⟨s0, s1, s2⟩
    go_simp
    with_reducible rfl
  rotate_left
  · simp only [Act.put, List.setIfInBounds_toArray, List.set_cons_zero, List.set_cons_succ, i64_w, i32_w]
    rfl
  refine pure_ (i := 6) (N := some 209) (v := ?_) (a' := ?_) #[true, true, true, true, true, true, true, false, true, false, false, false, false] rfl rfl (by kernel_rfl) (fun _ _ _ h => h) (Or.inl ⟨by rfl, ?_⟩) ?_ ?_
  rotate_left
  · intro w'
    go_simp
    with_reducible rfl
  rotate_left
  · simp only [Act.put, List.setIfInBounds_toArray, List.set_cons_zero, List.set_cons_succ, i64_w, i32_w]
    rfl
  refine take_ (i := 7) (N := some 210) (v := ?_) (a' := ?_) #[true, true, true, true, true, true, true, true, true, false, false, false, false] rfl rfl (by kernel_rfl) (fun _ _ _ h => h) (Or.inl ⟨by rfl, ?_⟩) hHeld ?_ ?_
  rotate_left
  · rintro w' ⟨s0, s1, s2⟩
    go_simp
    with_reducible rfl
  rotate_left
  · simp only [Act.put, List.setIfInBounds_toArray, List.set_cons_zero, List.set_cons_succ, i64_w, i32_w]
    rfl
  refine take_ (i := 9) (N := some 212) (v := ?_) (a' := ?_) #[true, true, true, true, true, true, true, true, true, true, false, false, false] rfl rfl (by kernel_rfl) (fun _ _ _ h => h) (Or.inl ⟨by rfl, ?_⟩) hHeld ?_ ?_
  rotate_left
  · rintro w' ⟨s0, s1, s2⟩
    go_simp
    with_reducible rfl
  rotate_left
  · simp only [Act.put, List.setIfInBounds_toArray, List.set_cons_zero, List.set_cons_succ, i64_w, i32_w]
    rfl
  refine pure_ (i := 10) (N := some 213) (v := ?_) (a' := ?_) #[true, true, true, true, true, true, true, true, true, true, true, false, false] rfl rfl (by kernel_rfl) (fun _ _ _ h => h) (Or.inl ⟨by rfl, ?_⟩) ?_ ?_
  rotate_left
  · intro w'
    go_simp
    with_reducible rfl
  rotate_left
  · simp only [Act.put, List.setIfInBounds_toArray, List.set_cons_zero, List.set_cons_succ, i64_w, i32_w]
    rfl
  refine pure_ (i := 11) (N := some 214) (v := ?_) (a' := ?_) #[true, true, true, true, true, true, true, true, true, true, true, true, false] rfl rfl (by kernel_rfl) (fun _ _ _ h => h) (Or.inl ⟨by rfl, ?_⟩) ?_ ?_
  rotate_left
  · intro w'
    go_simp
    with_reducible rfl
  rotate_left
  · simp only [Act.put, List.setIfInBounds_toArray, List.set_cons_zero, List.set_cons_succ, i64_w, i32_w]
    rfl
  refine last_ (i := 12) (N := none) #[true, true, true, true, true, true, true, true, true, true, true, true, true] rfl rfl (by kernel_rfl) (by decide) (fun K hK => ?_)
  refine skip_ (w1 := ?_) (by rfl) rfl ?_ ?_
  rotate_left
  · go_simp
    rfl
  refine hK.out _ _ ?_
  clear hK K
  refine done_ (by kernel_rfl) ?_
  have hccd : ∀ j, j < x.length → we.cell? ⟨wd.heap.size, j, none⟩ = some (.int .u8 (x.getD j 0)) := HCC.out
  clear HCC
  have hbs := hbd.setCell (p := ⟨wd.heap.size, s, none⟩) (Nat.le_refl _) (.int .u8 (Go.bits .xor .u8 vx xy))
  have hccs : ∀ j, j < (x.set s (Go.bits .xor .u8 vx xy)).length → (we.setCell ⟨wd.heap.size, s, none⟩ (.int .u8 (Go.bits .xor .u8 vx xy))).cell? ⟨wd.heap.size, j, none⟩ = some (.int .u8 ((x.set s (Go.bits .xor .u8 vx xy)).getD j 0)) := fun j hj => by
    rw [List.length_set] at hj
    rw [List.getD_eq_getElem?_getD, List.getElem?_set]
    by_cases hjs : s = j
    · subst hjs
      rw [if_pos rfl, if_pos hj, Option.getD_some]
      exact World.cell?_setCell_same _ _ _ (hccd s hsl)
    · rw [if_neg hjs, ← List.getD_eq_getElem?_getD]
      exact (World.cell?_setCell_other _ _ _ _ (by intro he; injection he with _ he _; exact hjs he)).trans (hccd j hj)
  have HCC := Aside0.mk hccs
  clear hccs
  clear w0 w1 x0 x1 x2 x3 x4 x5 xs_ xz_ hbd hbnd hccd hbnw hbsz hcs hLb hnb hbm hHeld
  generalize hws : we.setCell ⟨wd.heap.size, s, none⟩ (.int .u8 (Go.bits .xor .u8 vx xy)) = ws at *
  clear hws
  have hTs := Kd.C_below hTC hbs
  have hLs := hL3.below hbs
  have hns := blk_below hnx3 hbs
  have y0 := blk_cell hLs.hw 0
  have y1 := blk_cell hLs.hw 1
  have hEs := newS ws (Nat.le_refl _)
  have hbE := below_alloc (Below.refl ws.heap.size ws) (.cells #[] 9)
  have hTE := Kd.C_below hTs hbE
  have hgl_ := blk_lt hLs.hw
  have hgn_ : gw ≠ ws.heap.size := Nat.ne_of_lt hgl_
  have yE0 : (ws.alloc (.cells #[] 9)).cell? ⟨gw, 0, none⟩ = some _ := blk_cell (hLs.below hbE).hw 0
  have yE1 : (ws.alloc (.cells #[] 9)).cell? ⟨gw, 1, none⟩ = some _ := blk_cell (hLs.below hbE).hw 1
  have hlt_ : ([] : List ByteArray).length + qs.length ≤ 1000 := by have := hl0.out; simp; omega
  go_wp2_with ((with_reducible refine gate_builtin (b := .append) (xs := #[.tmp 216, .tmp 219]) rfl ?_); at_builtin; refine catW (wd := ws) rfl (.tmp 216) (.tmp 219) rfl (v := .slice (some ⟨ws.heap.size, 0, none⟩) 0 0) (A := some ⟨bT, 0, none⟩) (m := qs.length) (c := d0) (ys := []) (xs := (qs.map fun p : Value × List Int => strOfNums p.2)) rfl rfl hEs hTE hbE hlt_ ?_; intro v7 w7 hR7 hb7 hg7; rw [List.nil_append] at hR7; obtain ⟨T7, n7, d7, rfl⟩ : ∃ A n c, v7 = .slice A n c := (by obtain ⟨A, c, e, _, _⟩ := Kd.R_reads hR7; exact ⟨_, _, _, e⟩); have hL7 := hLs.below hb7; have z7 := frz hL7.hw 0; have q7 := blk_cell hL7.hw 0)
  have hA7 := (hA3.below hbs).below hb7
  have hgs : g ≤ ws.heap.size := Nat.le_of_lt (hA3.below hbs).lt
  have hbel7 := (hbel3.trans (hbs.mono hbel3.size)).trans (hb7.mono (Nat.le_trans hbel3.size hbs.size))
  have ht7 : Tx w7 g (.slice T7 n7 d7) qs := Kd.R_lower hR7 hgs
  have hn7 := (Kd.R_reads' hR7).1
  rw [List.length_map] at hn7
  obtain ⟨b7, rfl⟩ : ∃ b7, T7 = some ⟨b7, 0, none⟩ := by
    obtain ⟨ad7, e7, _⟩ := (Kd.R_reads' hR7).2.2.2.2 (by rw [List.length_map]; omega)
    subst e7
    obtain ⟨b7, rfl⟩ := Kd.R_head hR7
    exact ⟨b7, rfl⟩
  have hL8 := hL7.put0 ht7
  have hR8 : Kd.R Kd.string 9 (w7.setCell ⟨gw, 0, none⟩ (.slice (some ⟨b7, 0, none⟩) n7 d7)) ws.heap.size (fun _ => True) (.slice (some ⟨b7, 0, none⟩) n7 d7) (qs.map fun p : Value × List Int => strOfNums p.2) := Kd.R_set hR7 hL7.hw (by
    intro q hq
    have h_ : q = 9 := by simpa [Kd.string, Kd.scalar] using hq
    rw [h_]
    decide) 0 _
  have hA8 := hA7.set (j := 0) (u := .slice (some ⟨b7, 0, none⟩) n7 d7) hL7.hw (by decide) (by decide) (by decide)
  have hbel8 := hbel7.setCell (p := ⟨gw, 0, none⟩) hlw (.slice (some ⟨b7, 0, none⟩) n7 d7)
  have hns8 : (w7.setCell ⟨gw, 0, none⟩ (.slice (some ⟨b7, 0, none⟩) n7 d7)).heap[gx]? = _ := (Below.heap_setCell w7 ⟨gw, 0, none⟩ _ gx (fun he => cells_ne (blk_below hns hb7) hL7.hw (by decide) he)).trans (blk_below hns hb7)
  have hgwd : gw < wd.heap.size := blk_lt hL3.hw
  have hcc8 : ∀ j, j < (x.set s (Go.bits .xor .u8 vx xy)).length → (w7.setCell ⟨gw, 0, none⟩ (.slice (some ⟨b7, 0, none⟩) n7 d7)).cell? ⟨wd.heap.size, j, none⟩ = some (.int .u8 ((x.set s (Go.bits .xor .u8 vx xy)).getD j 0)) := fun j hj => by
    have h1 := HCC.out j hj
    have h2 := (Below.cell hb7 (cell_lt h1)).trans h1
    exact (World.cell?_setCell_far w7 _ _ _ (by show gw ≠ wd.heap.size; omega)).trans h2
  clear HCC
  generalize hw8 : (w7.setCell ⟨gw, 0, none⟩ (.slice (some ⟨b7, 0, none⟩) n7 d7)) = w8 at *
  have hmv : ∀ k, k < ws.heap.size → (∃ cs, ws.heap[k]? = some (.cells cs 9 (0, 0))) → w8.heap[k]? = ws.heap[k]? := fun k hk ⟨cs, hcs⟩ => by
    rw [← hw8]
    exact (Below.heap_setCell w7 ⟨gw, 0, none⟩ _ k (fun he => cells_ne hcs hLs.hw (by decide) he)).trans (hb7.block k hk)
  obtain ⟨hb7a, hb7c, hb7t⟩ : ws.heap.size ≤ b7 ∧ b7 < w8.heap.size ∧ ∃ cells, w8.heap[b7]? = some (.cells cells 9 (0, 0)) := by
    obtain ⟨_, h1, h2, q, hq, hc⟩ := (Kd.R_bound hR8).1 b7 rfl
    have h_ : q = 9 := by simpa [Kd.string, Kd.scalar] using hq
    rw [h_] at hc
    exact ⟨h1, h2, hc⟩
  obtain ⟨cs7, hb7t⟩ := hb7t
  obtain ⟨b9, hb9, hc9⟩ := hL8.t0.get HP.out
  obtain rfl : b7 = b9 := by injection hb9 with h; injection h
  clear hb9
  have i7 : (n : Int) < (n7 : Int) := by rw [hn7]; exact hnlZ
  have i7b : decide ((n : Int) < (n7 : Int)) = true := decide_eq_true i7
  clear hw8 y0 y1 yE0 yE1 hgl_ hgn_ hTE hbE hEs hlt_ hg7 q7 z7 ht7 hL7 hA7 hbel7 hR7
  have y0 : w8.drew.cell? ⟨gw, 0, none⟩ = some (.slice (some ⟨b7, 0, none⟩) n7 d7) := blk_cell hL8.hw 0
  have y1 : w8.drew.cell? ⟨gx, 2, none⟩ = some (.int .i64 n) := blk_cell hns8 2
  have y2 : Sem.run Try.prog (convert 24 9 (.slice (some ⟨wd.heap.size, 0, none⟩) x.length cm)) w8.drew = Result.ok (.string (strOfNums (x.set s (Go.bits .xor .u8 vx xy)))) w8.drew := by
    have hC := C_cells (W := w8.drew) (b := wd.heap.size) (x := x.set s (Go.bits .xor .u8 vx xy)) (by rw [List.length_set]; exact hxl) hcc8
    rw [List.length_set] at hC
    exact Kd.C_string Try.underlying24 Try.underlying5 Try.underlying9 hC
  have y3 : w8.drew.cell? ⟨b7, n, none⟩ = some (.string (strOfNums x)) := hc9
  have y4 : w8.drew.frozen? ⟨b7, n, none⟩ = false := frz hb7t n
  clear hcc8
  have hA9 := hA8.below (below_drew (Below.refl w8.heap.size w8))
  have hbel9 := hbel8.trans (below_drew (Below.refl w.heap.size w8))
  have hR9 := Kd.R_below hR8 (below_drew (Below.refl w8.heap.size w8))
  have hb9t := blk_drew hb7t
  have hmv9 : ∀ k, k < ws.heap.size → (∃ cs, ws.heap[k]? = some (.cells cs 9 (0, 0))) → w8.drew.heap[k]? = ws.heap[k]? := hmv
  have hL9 := hL8.below (below_drew (Below.refl w8.heap.size w8))
  clear hA8 hbel8 hR8 hb7t hmv hL8 hns8 hc9
  refine start_ (n := 9) (S := fun w' => w'.cell? ⟨gw, 0, none⟩ = some (.slice (some ⟨b7, 0, none⟩) n7 d7) ∧ w'.cell? ⟨gx, 2, none⟩ = some (.int .i64 n) ∧ Sem.run Try.prog (convert 24 9 (.slice (some ⟨wd.heap.size, 0, none⟩) x.length cm)) w' = Result.ok (.string (strOfNums (x.set s (Go.bits .xor .u8 vx xy)))) w') (ds := [8]) #[false, false, false, false, false, false, false, false, false] (by kernel_rfl) rfl rfl ⟨y0, y1, y2⟩ (fun hHeld => ?_)
  generalize w8.drew = w9 at *
  refine pure_ (i := 0) (N := some 222) (v := ?_) (a' := ?_) #[true, false, false, false, false, false, false, false, false] rfl rfl (by kernel_rfl) (fun _ _ _ h => h) (Or.inl ⟨by rfl, ?_⟩) ?_ ?_
  rotate_left
  · intro w'
    go_simp
    with_reducible rfl
  rotate_left
  · simp only [Act.put, List.setIfInBounds_toArray, List.set_cons_zero, List.set_cons_succ, i64_w, i32_w]
    rfl
  refine pure_ (i := 1) (N := some 223) (v := ?_) (a' := ?_) #[true, true, false, false, false, false, false, false, false] rfl rfl (by kernel_rfl) (fun _ _ _ h => h) (Or.inl ⟨by rfl, ?_⟩) ?_ ?_
  rotate_left
  · intro w'
    go_simp
    with_reducible rfl
  rotate_left
  · simp only [Act.put, List.setIfInBounds_toArray, List.set_cons_zero, List.set_cons_succ, i64_w, i32_w]
    rfl
  refine pure_ (i := 3) (N := some 225) (v := ?_) (a' := ?_) #[true, true, false, true, false, false, false, false, false] rfl rfl (by kernel_rfl) (fun _ _ _ h => h) (Or.inl ⟨by rfl, ?_⟩) ?_ ?_
  rotate_left
  · intro w'
    go_simp
    with_reducible rfl
  rotate_left
  · simp only [Act.put, List.setIfInBounds_toArray, List.set_cons_zero, List.set_cons_succ, i64_w, i32_w]
    rfl
  refine pure_ (i := 5) (N := some 227) (v := ?_) (a' := ?_) #[true, true, false, true, false, true, false, false, false] rfl rfl (by kernel_rfl) (fun _ _ _ h => h) (Or.inl ⟨by rfl, ?_⟩) ?_ ?_
  rotate_left
  · intro w'
    go_simp
    with_reducible rfl
  rotate_left
  · simp only [Act.put, List.setIfInBounds_toArray, List.set_cons_zero, List.set_cons_succ, i64_w, i32_w]
    rfl
  refine take_ (i := 2) (N := some 224) (v := ?_) (a' := ?_) #[true, true, true, true, false, true, false, false, false] rfl rfl (by kernel_rfl) (fun _ _ _ h => h) (Or.inl ⟨by rfl, ?_⟩) hHeld ?_ ?_
  rotate_left
  · rintro w' ⟨s0, s1, s2⟩
    go_simp
    with_reducible rfl
  rotate_left
  · simp only [Act.put, List.setIfInBounds_toArray, List.set_cons_zero, List.set_cons_succ, i64_w, i32_w]
    rfl
  refine take_ (i := 4) (N := some 226) (v := ?_) (a' := ?_) #[true, true, true, true, true, true, false, false, false] rfl rfl (by kernel_rfl) (fun _ _ _ h => h) (Or.inl ⟨by rfl, ?_⟩) hHeld ?_ ?_
  rotate_left
  · rintro w' ⟨s0, s1, s2⟩
    go_simp
    with_reducible rfl
  rotate_left
  · simp only [Act.put, List.setIfInBounds_toArray, List.set_cons_zero, List.set_cons_succ, i64_w, i32_w]
    rfl
  refine take_ (i := 6) (N := some 228) (v := ?_) (a' := ?_) #[true, true, true, true, true, true, true, false, false] rfl rfl (by kernel_rfl) (fun _ _ _ h => h) (Or.inl ⟨by rfl, ?_⟩) hHeld ?_ ?_
  rotate_left
  · rintro w' ⟨s0, s1, s2⟩
    go_simp
    with_reducible rfl
  rotate_left
  · simp only [Act.put, List.setIfInBounds_toArray, List.set_cons_zero, List.set_cons_succ, i64_w, i32_w]
    rfl
  refine pure_ (i := 7) (N := some 229) (v := ?_) (a' := ?_) #[true, true, true, true, true, true, true, true, false] rfl rfl (by kernel_rfl) (fun _ _ _ h => h) (Or.inl ⟨by rfl, ?_⟩) ?_ ?_
  rotate_left
  · intro w'
    go_simp
    with_reducible rfl
  rotate_left
  · simp only [Act.put, List.setIfInBounds_toArray, List.set_cons_zero, List.set_cons_succ, i64_w, i32_w]
    rfl
  refine last_ (i := 8) (N := none) #[true, true, true, true, true, true, true, true, true] rfl rfl (by kernel_rfl) (by decide) (fun K hK => ?_)
  refine skip_ (w1 := ?_) (by rfl) rfl ?_ ?_
  rotate_left
  · go_simp
    rfl
  refine hK.out _ _ ?_
  clear hK K
  refine done_ (by kernel_rfl) ?_
  have hLw := hL9.hw
  have hLc := hL9.hc
  clear y0 y1 y2 y3 y4 hHeld
  go_wp2_with (fail)
  have hwf : ∀ b ∈ x.set s (Go.bits .xor .u8 vx xy), 0 ≤ b ∧ b < 256 := fun b hb => by
    rcases List.mem_or_eq_of_mem_set hb with h | h
    · exact hxls.2 b h
    · rw [h]
      have h1 := bits_lo_u8 .xor vx xy
      have h2 := bits_hi_u8 .xor vx xy
      omega
  have hsm : ∀ p ∈ qs.set n (u, x.set s (Go.bits .xor .u8 vx xy)), Sm p.2 := fun p hp => by
    rcases List.mem_or_eq_of_mem_set hp with h | h
    · exact s0 p h
    · rw [h]
      exact ⟨by rw [List.length_set]; exact hxl, hwf⟩
  have htk : Tx (w9.setCell ⟨b7, n, none⟩ (.string (strOfNums (x.set s (Go.bits .xor .u8 vx xy))))) g (.slice (some ⟨b7, 0, none⟩) n7 d7) (qs.set n (u, x.set s (Go.bits .xor .u8 vx xy))) := by
    unfold Tx
    rw [List.map_set]
    have h := Kd.R_putn (Kd.R_lower hR9 hgs) (n : Int) (strOfNums (x.set s (Go.bits .xor .u8 vx xy)))
    rw [Int.toNat_natCast] at h
    exact h
  have hto : Tx (w9.setCell ⟨b7, n, none⟩ (.string (strOfNums (x.set s (Go.bits .xor .u8 vx xy))))) g (.slice T1 rs.length d1) rs := (hLs.t1).moved (fun k hk hc => by
    have h1 := hmv9 k hk hc
    exact (Below.heap_setCell w9 ⟨b7, n, none⟩ _ k (fun he => by have : k = b7 := he; omega)).trans h1)
  refine HK.out _ _ _ _ _ _ _ _ _ _ _ _ _ _ _ _ _ _ _ _ _ _ _ _ _ _ _ _ _ _ _ _ _ _ _ _ _ _ _ _ _ _ _ _ _ _ _ _ _ _ _ _ _ _ _ _ _ _ _ _ _ _ _ _ _ _ _ _ _ _ _ _ _ _ _ _ _ _ _ _ _ _ _ _ _ _ _ _ _ _ _ _ _ _ _ _ _ _ _ _ _ _ _ _ _ _ _ _ _ _ _ _ _ _ _ _ _ _ _ _ _ _ _ _ _ _ _ _ _ _ _ _ _ _ _ _ _ _ _ _ _ _ _ _ _ _ _ _ _ _ _ _ _ _ _ _ _ _ _ _ _ _ _ _ _ _ _ _ _ _ _ _ _ _ _ _ _ _ _ _ _ _ _ _ _ _ _ _ _ _ _ _ _ _ _ _ _ _ _ _ _ _ _ _ _ _ _ _ _ _ _ _ _ _ _ _ _ _ _ ⟨(qs.set n (u, x.set s (Go.bits .xor .u8 vx xy))), rs, c, d, _, _, hA9.set hb9t (by decide) (by decide) (by decide), hbel9.setCell (by show w.heap.size ≤ b7; have := hbel3.size; have := hbs.size; omega) _, ⟨(Below.heap_setCell w9 ⟨b7, n, none⟩ _ gw (fun he => cells_ne hLw hb9t (by decide) he)).trans hLw, (Below.heap_setCell w9 ⟨b7, n, none⟩ _ (gw + 1) (fun he => cells_ne hLc hb9t (by decide) he)).trans hLc, htk, hto⟩, (by rw [List.length_set]; exact hl0.out), hl1.out, hsm, s1, hg0, hlw⟩
set_option maxHeartbeats 16000000 in
set_option maxRecDepth 100000 in
theorem op4no_lo1 (hlb : xb.length ≤ cb) (hCb : (Kd.int .u8).C w Ab xb.length xb) (hxs : Sm xb) (hyw : 0 ≤ xy ∧ xy < 256)
    (HI : Aside0 (Iv w wc g gw (gw + 1) qs rs c d v0 v1)) (HN : Aside0 (wc.heap[gx]? = some (.cells #[.int .i64 xo, .int .i64 xt, .int .i64 xi, .int .i64 xa, .int .u8 xy, .slice Ab xb.length cb] 52 (0, 0))))
    (HG : Aside0 (gb = decide (xt = 0 ∨ xt = 1)))
    (hK : Meet w g gw gx xt gb K u0 u1 u6 u17 u18 u19 u20 u21 u22 u23 u24 u25 u26 u27 u28 u29 u30 u31 u32 u33 u34 u35 u36 u37 u38 u39 u40 u41 u42 u43 u44 u45 u46 u47 u48 u49 u50 u51 u52 u53 (.bool false) u265 u266 u267 u268 u269 u270 u271 u272 u273 u274 u275 u276 u277 u278 u279 u280 u281 u282 u283 u284 u285 u286 u287 u288 u289 u290 u291 u292 u293 u294 u295 u296 u297 u298 u299 u300 u301 u302 u303 u304 u305 u306 u307 u308 u309 u310 u311 u312 u313) (ht : xt = 1) (oc : xo = 4) (i0 : ¬ xi < 0) (i1 : ¬ (rs.length : Int) ≤ xi) (u : Value) (x : List Int) (hpx : rs[xi.toNat]? = some (u, x)) (ha0 : xa < 0) :
    Code.wp Try.prog condCode (Exit.then K (Exit.inBlock 1 (Exit.then K1 (Exit.then K2 (Exit.inBlock 0 (Exit.then K3 (bodyPost Try.prog Try.f12 fun e w' => e = .returned (.bool true) ∧ Below w.heap.size w w'))))))) ⟨#[u0, u1, u2, .pointer (some ⟨g, 0, none⟩), .pointer (some ⟨gw, 0, none⟩), .pointer (some ⟨gw + 1, 0, none⟩), u6, .pointer (some ⟨gx, 0, none⟩), .int .i64 xt, .bool gb, u10, u11, u12, u13, u14, u15, u16, u17, u18, u19, u20, u21, u22, u23, u24, u25, u26, u27, u28, u29, u30, u31, u32, u33, u34, u35, u36, u37, u38, u39, u40, u41, u42, u43, u44, u45, u46, u47, u48, u49, u50, u51, u52, u53, .bool false, u55, u56, u57, u58, u59, u60, u61, u62, u63, u64, u65, u66, u67, u68, u69, u70, u71, u72, u73, u74, u75, u76, u77, u78, u79, u80, u81, u82, u83, u84, u85, u86, u87, u88, u89, u90, u91, u92, u93, u94, u95, u96, u97, u98, u99, u100, u101, u102, u103, u104, u105, u106, u107, u108, u109, u110, u111, u112, u113, u114, u115, u116, u117, u118, u119, u120, u121, u122, u123, u124, u125, u126, u127, u128, u129, u130, u131, u132, u133, u134, u135, u136, u137, u138, u139, u140, u141, u142, u143, u144, u145, u146, u147, u148, u149, u150, u151, u152, u153, u154, u155, u156, u157, u158, u159, u160, u161, u162, u163, u164, u165, u166, u167, u168, u169, u170, u171, u172, u173, u174, u175, u176, u177, u178, u179, u180, u181, u182, u183, u184, u185, u186, u187, u188, u189, u190, u191, u192, u193, u194, u195, u196, u197, u198, u199, u200, u201, u202, u203, u204, u205, u206, u207, u208, u209, u210, u211, u212, u213, u214, u215, u216, u217, u218, u219, u220, u221, u222, u223, u224, u225, u226, u227, u228, u229, u230, u231, u232, u233, u234, u235, u236, u237, u238, u239, u240, u241, u242, u243, u244, u245, u246, u247, u248, u249, u250, u251, u252, u253, u254, u255, u256, u257, u258, u259, u260, u261, u262, u263, u264, u265, u266, u267, u268, u269, u270, u271, u272, u273, u274, u275, u276, u277, u278, u279, u280, u281, u282, u283, u284, u285, u286, u287, u288, u289, u290, u291, u292, u293, u294, u295, u296, u297, u298, u299, u300, u301, u302, u303, u304, u305, u306, u307, u308, u309, u310, u311, u312, u313], []⟩ wc := by
  have b01 : Go.bits .and .i64 0 1 = 0 := by decide
  have b11 : Go.bits .and .i64 1 1 = 1 := by decide
  have HK := Aside0.mk hK
  clear hK
  subst ht
  obtain rfl : gb = true := by rw [HG.out]; rfl
  clear HG
  subst oc
  have hxb := hxs.1
  obtain ⟨hat, hbel, hla, n0, n1, s0, s1, hg0, hlw⟩ := HI.out
  have hnx := HN.out
  clear HI HN
  obtain ⟨T0, d0, rfl⟩ := hla.t0.slice
  obtain ⟨T1, d1, rfl⟩ := hla.t1.slice
  have hCbw := Kd.C_below hCb hbel
  have hl0 := Aside0.mk n0
  have hl1 := Aside0.mk n1
  clear n0 n1
  unfold condCode doCode
  obtain ⟨n, rfl⟩ : ∃ n : Nat, xi = n := ⟨xi.toNat, by omega⟩
  have hp : rs[n]? = some (u, x) := hpx
  clear hpx
  have hxls : Sm x := s1 _ (List.mem_of_getElem? hp)
  have hxl := hxls.1
  obtain ⟨bT, rfl, hcT⟩ := hla.t1.get hp
  have hTr0 := Kd.R_reads' hla.t1
  rw [List.length_map] at hTr0
  have hnd : rs.length ≤ d1 := hTr0.2.1
  clear hTr0
  dsimp only at hcT
  have hnl : n < rs.length := by omega
  have hnlZ : (n : Int) < (rs.length : Int) := by omega
  have hn0Z : (0 : Int) ≤ (n : Int) := by omega
  have i0b : decide ((0 : Int) ≤ (n : Int)) = true := decide_eq_true hn0Z
  have i1b : decide ((n : Int) < (rs.length : Int)) = true := decide_eq_true hnlZ
  have HP := Aside0.mk hp
  clear hp
  have a0b : decide (xa < 0) = true := decide_eq_true (by omega)
  have hnil : ∀ W : World, Sem.run Try.prog (convert 24 9 (.slice none 0 0)) W = Result.ok (.string { data := #[] }) W := fun W => by
    have h := Kd.C_string (P := Try.prog) (w := W) (A := none) (c := 0) (xs := []) Try.underlying24 Try.underlying5 Try.underlying9 (Kd.C_nil _ _)
    exact h
  have w0 := blk_cell hla.hw 0
  have w1 := blk_cell hla.hw 1
  have x0 := blk_cell hnx 0
  have x1 := blk_cell hnx 1
  have x2 := blk_cell hnx 2
  have x3 := blk_cell hnx 3
  have x4 := blk_cell hnx 4
  have x5 := blk_cell hnx 5
  simp only [List.getElem?_toArray, List.getElem?_cons_zero, List.getElem?_cons_succ] at w0 w1 x0 x1 x2 x3 x4 x5
  go_wp2_with (fail)
  have hT := SpoilNone1 g g qs rs c d n u x xa xy Ab xb.length cb wc hat HP.out (by omega)
  refine hT.mono ?_
  rintro e w2 ⟨rfl, hb2⟩
  have hA2 := hat.below hb2
  have hL2 := hla.below hb2
  have hnx2 := blk_below hnx hb2
  have hbel2 := hbel.trans (hb2.mono hbel.size)
  clear hT hnx hb2 w0 w1 x0 x1 x2 x3 x4 x5 hat hla hbel hcT hCbw
  dsimp only
  have w0 := blk_cell hL2.hw 0
  have w1 := blk_cell hL2.hw 1
  have x0 := blk_cell hnx2 0
  have x1 := blk_cell hnx2 1
  have x2 := blk_cell hnx2 2
  have x3 := blk_cell hnx2 3
  have x4 := blk_cell hnx2 4
  have x5 := blk_cell hnx2 5
  simp only [List.getElem?_toArray, List.getElem?_cons_zero, List.getElem?_cons_succ] at w0 w1 x0 x1 x2 x3 x4 x5
  have hbq := fun n => hbel2.trans ((pw_below_drewN (Below.refl w2.heap.size w2) n).mono hbel2.size)
  have haq := fun n => hA2.below (pw_below_drewN (Below.refl w2.heap.size w2) n)
  have hlq := fun n => hL2.below (pw_below_drewN (Below.refl w2.heap.size w2) n)
  have hxq := fun n => blk_below hnx2 (pw_below_drewN (Below.refl w2.heap.size w2) n)
  clear hA2 hL2 hnx2 hbel2
  go_wp2_with (fail)
  go_quiet (fail)
  go_wp2_with (fail)
  clear b01 b11
  clear w0 w1 x0 x1 x2 x3 x4 x5
  generalize hq : World.drewN w2 _ = w3
  have hbel2 := via hq (P := fun W => Below w.heap.size w W) hbq
  have hA2 := via hq (P := fun W => At W g g _ _ _ _) haq
  have hL2 := via hq (P := fun W => La W g gw (gw + 1) _ _ _ _ _ _) hlq
  have hnx2 := via hq (P := fun W => W.heap[gx]? = _) hxq
  clear hq hbq haq hlq hxq
  have hDd := below_drew (Below.refl w3.heap.size w3)
  have hA3 := hA2.below hDd
  have hL3 := hL2.below hDd
  have hnx3 := blk_drew hnx2
  have hbel3 := hbel2.trans (hDd.mono hbel2.size)
  have hTC := (Kd.R_reads' hL3.t1).2.2
  rw [List.length_map] at hTC
  have fw : ∀ w', Below w3.drew.heap.size w3.drew w' → w'.cell? ⟨gw, 1, none⟩ = some (.slice (some ⟨bT, 0, none⟩) rs.length d1) := fun w' hb => blk_cell (hL3.below hb).hw 1
  have fx : ∀ w', Below w3.drew.heap.size w3.drew w' → w'.cell? ⟨gx, 2, none⟩ = some (.int .i64 n) := fun w' hb => blk_cell (blk_below hnx3 hb) 2
  have fs : ∀ w', Below w3.drew.heap.size w3.drew w' → w'.cell? ⟨bT, n, none⟩ = some (.string (strOfNums x)) := fun w' hb => by
    obtain ⟨bT2, hbT2, hcT2⟩ := (hL3.below hb).t1.get HP.out
    obtain rfl : bT = bT2 := by injection hbT2 with h; injection h
    exact hcT2
  clear hA2 hL2 hnx2 hbel2 hDd
  have hsz : (strOfNums x).size = x.length := strOfNums_size x
  have kb : ∀ W : World, Sem.run Try.prog (convert 9 24 (.string (strOfNums x))) W = Result.ok (.slice (some ⟨W.heap.size, 0, none⟩) x.length (grownCap W x.length 0 5)) (Lib.bytesWorld W 5 (strOfNums x)) := fun W => by
    have h := print_bytes (P := Try.prog) 9 24 5 Try.underlying9 Try.underlying24 Try.underlying5 (strOfNums x) W
    rw [hsz] at h
    exact h
  clear hsz
  refine start_ (n := 9) (S := fun w' => w'.cell? ⟨gw, 1, none⟩ = some (.slice (some ⟨bT, 0, none⟩) rs.length d1) ∧ w'.cell? ⟨gx, 2, none⟩ = some (.int .i64 n) ∧ w'.cell? ⟨bT, n, none⟩ = some (.string (strOfNums x))) (ds := []) #[false, false, false, false, false, false, false, false, false] (by kernel_rfl) rfl rfl ⟨(fw _ (Below.refl _ _)), (fx _ (Below.refl _ _)), (fs _ (Below.refl _ _))⟩ (fun hHeld => ?_)
  generalize w3.drew = wd at *
  refine pure_ (i := 0) (N := some 185) (v := ?_) (a' := ?_) #[true, false, false, false, false, false, false, false, false] rfl rfl (by kernel_rfl) (fun _ _ _ h => h) (Or.inl ⟨by rfl, ?_⟩) ?_ ?_
  rotate_left
  · intro w'
    go_simp
    with_reducible rfl
  rotate_left
  · simp only [Act.put, List.setIfInBounds_toArray, List.set_cons_zero, List.set_cons_succ, i64_w, i32_w]
    rfl
  refine pure_ (i := 1) (N := some 186) (v := ?_) (a' := ?_) #[true, true, false, false, false, false, false, false, false] rfl rfl (by kernel_rfl) (fun _ _ _ h => h) (Or.inl ⟨by rfl, ?_⟩) ?_ ?_
  rotate_left
  · intro w'
    go_simp
    with_reducible rfl
  rotate_left
  · simp only [Act.put, List.setIfInBounds_toArray, List.set_cons_zero, List.set_cons_succ, i64_w, i32_w]
    rfl
  refine pure_ (i := 3) (N := some 188) (v := ?_) (a' := ?_) #[true, true, false, true, false, false, false, false, false] rfl rfl (by kernel_rfl) (fun _ _ _ h => h) (Or.inl ⟨by rfl, ?_⟩) ?_ ?_
  rotate_left
  · intro w'
    go_simp
    with_reducible rfl
  rotate_left
  · simp only [Act.put, List.setIfInBounds_toArray, List.set_cons_zero, List.set_cons_succ, i64_w, i32_w]
    rfl
  refine take_ (i := 2) (N := some 187) (v := ?_) (a' := ?_) #[true, true, true, true, false, false, false, false, false] rfl rfl (by kernel_rfl) (fun _ _ _ h => h) (Or.inl ⟨by rfl, ?_⟩) hHeld ?_ ?_
  rotate_left
  · rintro w' ⟨s0, s1, s2⟩
    go_simp
    with_reducible rfl
  rotate_left
  · simp only [Act.put, List.setIfInBounds_toArray, List.set_cons_zero, List.set_cons_succ, i64_w, i32_w]
    rfl
  refine take_ (i := 4) (N := some 189) (v := ?_) (a' := ?_) #[true, true, true, true, true, false, false, false, false] rfl rfl (by kernel_rfl) (fun _ _ _ h => h) (Or.inl ⟨by rfl, ?_⟩) hHeld ?_ ?_
  rotate_left
  · rintro w' ⟨s0, s1, s2⟩
    go_simp
    with_reducible rfl
  rotate_left
  · simp only [Act.put, List.setIfInBounds_toArray, List.set_cons_zero, List.set_cons_succ, i64_w, i32_w]
    rfl
  refine pure_ (i := 5) (N := some 190) (v := ?_) (a' := ?_) #[true, true, true, true, true, true, false, false, false] rfl rfl (by kernel_rfl) (fun _ _ _ h => h) (Or.inl ⟨by rfl, ?_⟩) ?_ ?_
  rotate_left
  · intro w'
    go_simp
    with_reducible rfl
  rotate_left
  · simp only [Act.put, List.setIfInBounds_toArray, List.set_cons_zero, List.set_cons_succ, i64_w, i32_w]
    rfl
  refine take_ (i := 6) (N := some 191) (v := ?_) (a' := ?_) #[true, true, true, true, true, true, true, false, false] rfl rfl (by kernel_rfl) (fun _ _ _ h => h) (Or.inl ⟨by rfl, ?_⟩) hHeld ?_ ?_
  rotate_left
  · rintro w' ⟨s0, s1, s2⟩
    go_simp
    with_reducible rfl
  rotate_left
  · simp only [Act.put, List.setIfInBounds_toArray, List.set_cons_zero, List.set_cons_succ, i64_w, i32_w]
    rfl
  refine one_ (i := 7) (N := some 192) #[true, true, true, true, true, true, true, true, false] rfl rfl (by kernel_rfl) (by decide) (fun K hK => ?_)
  refine value_ (w1 := ?_) (v := ?_) (by rfl) rfl ?_ ?_
  rotate_left 2
  · go_simp
    constructor
    · rfl
    · rfl
  have hbm := bytes_below (Below.refl wd.heap.size wd) (Nat.le_refl _) 5 (strOfNums x)
  refine hK.out _ _ ⟨(fw _ hbm), (fx _ hbm), (fs _ hbm)⟩ (fun hHeld => ?_)
  clear hK K
  refine norm_ (a' := ?_) ?_ ?_
  rotate_left
  · show Act.put _ (some 192) _ = _
    simp only [Act.put, List.setIfInBounds_toArray, List.set_cons_zero, List.set_cons_succ, i64_w, i32_w]
    rfl
  refine pure_ (i := 8) (N := some 16) (v := ?_) (a' := ?_) #[true, true, true, true, true, true, true, true, true] rfl rfl (by kernel_rfl) (fun _ _ _ h => h) (Or.inl ⟨by rfl, ?_⟩) ?_ ?_
  rotate_left
  · intro w'
    go_simp
    with_reducible rfl
  rotate_left
  · simp only [Act.put, List.setIfInBounds_toArray, List.set_cons_zero, List.set_cons_succ, i64_w, i32_w]
    rfl
  refine done_ (by kernel_rfl) ?_
  clear hHeld kb
  have hcc := fun j hj => made_cell (W := wd) hxls.2 j hj
  generalize grownCap wd x.length 0 5 = cm
  have hbsz := Lib.bytesWorld_size wd 5 (strOfNums x)
  have hbnw := Lib.bytesWorld_at_new wd 5 (strOfNums x)
  have hcs : x.length ≤ (Lib.bytesCells wd 5 (strOfNums x)).size := by
    have h1 : (strOfNums x).data.size = x.length := strOfNums_size x
    unfold Lib.bytesCells
    rw [Array.size_append, Array.size_map, h1]
    omega
  generalize Lib.bytesWorld wd 5 (strOfNums x) = wb at *
  generalize Lib.bytesCells wd 5 (strOfNums x) = cells_ at *
  have hLb := hL3.below hbm
  have hnb := blk_below hnx3 hbm
  have w0 := blk_cell hLb.hw 0
  have w1 := blk_cell hLb.hw 1
  have x0 := blk_cell hnb 0
  have x1 := blk_cell hnb 1
  have x2 := blk_cell hnb 2
  have x3 := blk_cell hnb 3
  have x4 := blk_cell hnb 4
  have x5 := blk_cell hnb 5
  simp only [List.getElem?_toArray, List.getElem?_cons_zero, List.getElem?_cons_succ] at w0 w1 x0 x1 x2 x3 x4 x5
  go_wp2_with (fail)
  refine HK.out _ _ _ _ _ _ _ _ _ _ _ _ _ _ _ _ _ _ _ _ _ _ _ _ _ _ _ _ _ _ _ _ _ _ _ _ _ _ _ _ _ _ _ _ _ _ _ _ _ _ _ _ _ _ _ _ _ _ _ _ _ _ _ _ _ _ _ _ _ _ _ _ _ _ _ _ _ _ _ _ _ _ _ _ _ _ _ _ _ _ _ _ _ _ _ _ _ _ _ _ _ _ _ _ _ _ _ _ _ _ _ _ _ _ _ _ _ _ _ _ _ _ _ _ _ _ _ _ _ _ _ _ _ _ _ _ _ _ _ _ _ _ _ _ _ _ _ _ _ _ _ _ _ _ _ _ _ _ _ _ _ _ _ _ _ _ _ _ _ _ _ _ _ _ _ _ _ _ _ _ _ _ _ _ _ _ _ _ _ _ _ _ _ _ _ _ _ _ _ _ _ _ _ _ _ _ _ _ _ _ _ _ _ _ _ _ _ _ _ ⟨qs, rs, c, d, _, _, hA3.below hbm, hbel3.trans (hbm.mono hbel3.size), hLb, hl0.out, hl1.out, s0, s1, hg0, hlw⟩
set_option maxHeartbeats 16000000 in
set_option maxRecDepth 100000 in
theorem op4no_hi1 (hlb : xb.length ≤ cb) (hCb : (Kd.int .u8).C w Ab xb.length xb) (hxs : Sm xb) (hyw : 0 ≤ xy ∧ xy < 256)
    (HI : Aside0 (Iv w wc g gw (gw + 1) qs rs c d v0 v1)) (HN : Aside0 (wc.heap[gx]? = some (.cells #[.int .i64 xo, .int .i64 xt, .int .i64 xi, .int .i64 xa, .int .u8 xy, .slice Ab xb.length cb] 52 (0, 0))))
    (HG : Aside0 (gb = decide (xt = 0 ∨ xt = 1)))
    (hK : Meet w g gw gx xt gb K u0 u1 u6 u17 u18 u19 u20 u21 u22 u23 u24 u25 u26 u27 u28 u29 u30 u31 u32 u33 u34 u35 u36 u37 u38 u39 u40 u41 u42 u43 u44 u45 u46 u47 u48 u49 u50 u51 u52 u53 (.bool false) u265 u266 u267 u268 u269 u270 u271 u272 u273 u274 u275 u276 u277 u278 u279 u280 u281 u282 u283 u284 u285 u286 u287 u288 u289 u290 u291 u292 u293 u294 u295 u296 u297 u298 u299 u300 u301 u302 u303 u304 u305 u306 u307 u308 u309 u310 u311 u312 u313) (ht : xt = 1) (oc : xo = 4) (i0 : ¬ xi < 0) (i1 : ¬ (rs.length : Int) ≤ xi) (u : Value) (x : List Int) (hpx : rs[xi.toNat]? = some (u, x)) (ha0 : ¬ xa < 0) (ha1 : (x.length : Int) ≤ xa) :
    Code.wp Try.prog condCode (Exit.then K (Exit.inBlock 1 (Exit.then K1 (Exit.then K2 (Exit.inBlock 0 (Exit.then K3 (bodyPost Try.prog Try.f12 fun e w' => e = .returned (.bool true) ∧ Below w.heap.size w w'))))))) ⟨#[u0, u1, u2, .pointer (some ⟨g, 0, none⟩), .pointer (some ⟨gw, 0, none⟩), .pointer (some ⟨gw + 1, 0, none⟩), u6, .pointer (some ⟨gx, 0, none⟩), .int .i64 xt, .bool gb, u10, u11, u12, u13, u14, u15, u16, u17, u18, u19, u20, u21, u22, u23, u24, u25, u26, u27, u28, u29, u30, u31, u32, u33, u34, u35, u36, u37, u38, u39, u40, u41, u42, u43, u44, u45, u46, u47, u48, u49, u50, u51, u52, u53, .bool false, u55, u56, u57, u58, u59, u60, u61, u62, u63, u64, u65, u66, u67, u68, u69, u70, u71, u72, u73, u74, u75, u76, u77, u78, u79, u80, u81, u82, u83, u84, u85, u86, u87, u88, u89, u90, u91, u92, u93, u94, u95, u96, u97, u98, u99, u100, u101, u102, u103, u104, u105, u106, u107, u108, u109, u110, u111, u112, u113, u114, u115, u116, u117, u118, u119, u120, u121, u122, u123, u124, u125, u126, u127, u128, u129, u130, u131, u132, u133, u134, u135, u136, u137, u138, u139, u140, u141, u142, u143, u144, u145, u146, u147, u148, u149, u150, u151, u152, u153, u154, u155, u156, u157, u158, u159, u160, u161, u162, u163, u164, u165, u166, u167, u168, u169, u170, u171, u172, u173, u174, u175, u176, u177, u178, u179, u180, u181, u182, u183, u184, u185, u186, u187, u188, u189, u190, u191, u192, u193, u194, u195, u196, u197, u198, u199, u200, u201, u202, u203, u204, u205, u206, u207, u208, u209, u210, u211, u212, u213, u214, u215, u216, u217, u218, u219, u220, u221, u222, u223, u224, u225, u226, u227, u228, u229, u230, u231, u232, u233, u234, u235, u236, u237, u238, u239, u240, u241, u242, u243, u244, u245, u246, u247, u248, u249, u250, u251, u252, u253, u254, u255, u256, u257, u258, u259, u260, u261, u262, u263, u264, u265, u266, u267, u268, u269, u270, u271, u272, u273, u274, u275, u276, u277, u278, u279, u280, u281, u282, u283, u284, u285, u286, u287, u288, u289, u290, u291, u292, u293, u294, u295, u296, u297, u298, u299, u300, u301, u302, u303, u304, u305, u306, u307, u308, u309, u310, u311, u312, u313], []⟩ wc := by
  have b01 : Go.bits .and .i64 0 1 = 0 := by decide
  have b11 : Go.bits .and .i64 1 1 = 1 := by decide
  have HK := Aside0.mk hK
  clear hK
  subst ht
  obtain rfl : gb = true := by rw [HG.out]; rfl
  clear HG
  subst oc
  have hxb := hxs.1
  obtain ⟨hat, hbel, hla, n0, n1, s0, s1, hg0, hlw⟩ := HI.out
  have hnx := HN.out
  clear HI HN
  obtain ⟨T0, d0, rfl⟩ := hla.t0.slice
  obtain ⟨T1, d1, rfl⟩ := hla.t1.slice
  have hCbw := Kd.C_below hCb hbel
  have hl0 := Aside0.mk n0
  have hl1 := Aside0.mk n1
  clear n0 n1
  unfold condCode doCode
  obtain ⟨n, rfl⟩ : ∃ n : Nat, xi = n := ⟨xi.toNat, by omega⟩
  have hp : rs[n]? = some (u, x) := hpx
  clear hpx
  have hxls : Sm x := s1 _ (List.mem_of_getElem? hp)
  have hxl := hxls.1
  obtain ⟨bT, rfl, hcT⟩ := hla.t1.get hp
  have hTr0 := Kd.R_reads' hla.t1
  rw [List.length_map] at hTr0
  have hnd : rs.length ≤ d1 := hTr0.2.1
  clear hTr0
  dsimp only at hcT
  have hnl : n < rs.length := by omega
  have hnlZ : (n : Int) < (rs.length : Int) := by omega
  have hn0Z : (0 : Int) ≤ (n : Int) := by omega
  have i0b : decide ((0 : Int) ≤ (n : Int)) = true := decide_eq_true hn0Z
  have i1b : decide ((n : Int) < (rs.length : Int)) = true := decide_eq_true hnlZ
  have HP := Aside0.mk hp
  clear hp
  have a0b : decide (xa < 0) = false := decide_eq_false (by omega)
  have a1b : decide ((x.length : Int) ≤ xa) = true := decide_eq_true ha1
  have hnil : ∀ W : World, Sem.run Try.prog (convert 24 9 (.slice none 0 0)) W = Result.ok (.string { data := #[] }) W := fun W => by
    have h := Kd.C_string (P := Try.prog) (w := W) (A := none) (c := 0) (xs := []) Try.underlying24 Try.underlying5 Try.underlying9 (Kd.C_nil _ _)
    exact h
  have w0 := blk_cell hla.hw 0
  have w1 := blk_cell hla.hw 1
  have x0 := blk_cell hnx 0
  have x1 := blk_cell hnx 1
  have x2 := blk_cell hnx 2
  have x3 := blk_cell hnx 3
  have x4 := blk_cell hnx 4
  have x5 := blk_cell hnx 5
  simp only [List.getElem?_toArray, List.getElem?_cons_zero, List.getElem?_cons_succ] at w0 w1 x0 x1 x2 x3 x4 x5
  go_wp2_with (fail)
  have hT := SpoilNone1 g g qs rs c d n u x xa xy Ab xb.length cb wc hat HP.out (by omega)
  refine hT.mono ?_
  rintro e w2 ⟨rfl, hb2⟩
  have hA2 := hat.below hb2
  have hL2 := hla.below hb2
  have hnx2 := blk_below hnx hb2
  have hbel2 := hbel.trans (hb2.mono hbel.size)
  clear hT hnx hb2 w0 w1 x0 x1 x2 x3 x4 x5 hat hla hbel hcT hCbw
  dsimp only
  have w0 := blk_cell hL2.hw 0
  have w1 := blk_cell hL2.hw 1
  have x0 := blk_cell hnx2 0
  have x1 := blk_cell hnx2 1
  have x2 := blk_cell hnx2 2
  have x3 := blk_cell hnx2 3
  have x4 := blk_cell hnx2 4
  have x5 := blk_cell hnx2 5
  simp only [List.getElem?_toArray, List.getElem?_cons_zero, List.getElem?_cons_succ] at w0 w1 x0 x1 x2 x3 x4 x5
  have hbq := fun n => hbel2.trans ((pw_below_drewN (Below.refl w2.heap.size w2) n).mono hbel2.size)
  have haq := fun n => hA2.below (pw_below_drewN (Below.refl w2.heap.size w2) n)
  have hlq := fun n => hL2.below (pw_below_drewN (Below.refl w2.heap.size w2) n)
  have hxq := fun n => blk_below hnx2 (pw_below_drewN (Below.refl w2.heap.size w2) n)
  clear hA2 hL2 hnx2 hbel2
  go_wp2_with (fail)
  go_quiet (fail)
  go_wp2_with (fail)
  clear b01 b11
  clear w0 w1 x0 x1 x2 x3 x4 x5
  generalize hq : World.drewN w2 _ = w3
  have hbel2 := via hq (P := fun W => Below w.heap.size w W) hbq
  have hA2 := via hq (P := fun W => At W g g _ _ _ _) haq
  have hL2 := via hq (P := fun W => La W g gw (gw + 1) _ _ _ _ _ _) hlq
  have hnx2 := via hq (P := fun W => W.heap[gx]? = _) hxq
  clear hq hbq haq hlq hxq
  have hDd := below_drew (Below.refl w3.heap.size w3)
  have hA3 := hA2.below hDd
  have hL3 := hL2.below hDd
  have hnx3 := blk_drew hnx2
  have hbel3 := hbel2.trans (hDd.mono hbel2.size)
  have hTC := (Kd.R_reads' hL3.t1).2.2
  rw [List.length_map] at hTC
  have fw : ∀ w', Below w3.drew.heap.size w3.drew w' → w'.cell? ⟨gw, 1, none⟩ = some (.slice (some ⟨bT, 0, none⟩) rs.length d1) := fun w' hb => blk_cell (hL3.below hb).hw 1
  have fx : ∀ w', Below w3.drew.heap.size w3.drew w' → w'.cell? ⟨gx, 2, none⟩ = some (.int .i64 n) := fun w' hb => blk_cell (blk_below hnx3 hb) 2
  have fs : ∀ w', Below w3.drew.heap.size w3.drew w' → w'.cell? ⟨bT, n, none⟩ = some (.string (strOfNums x)) := fun w' hb => by
    obtain ⟨bT2, hbT2, hcT2⟩ := (hL3.below hb).t1.get HP.out
    obtain rfl : bT = bT2 := by injection hbT2 with h; injection h
    exact hcT2
  clear hA2 hL2 hnx2 hbel2 hDd
  have hsz : (strOfNums x).size = x.length := strOfNums_size x
  have kb : ∀ W : World, Sem.run Try.prog (convert 9 24 (.string (strOfNums x))) W = Result.ok (.slice (some ⟨W.heap.size, 0, none⟩) x.length (grownCap W x.length 0 5)) (Lib.bytesWorld W 5 (strOfNums x)) := fun W => by
    have h := print_bytes (P := Try.prog) 9 24 5 Try.underlying9 Try.underlying24 Try.underlying5 (strOfNums x) W
    rw [hsz] at h
    exact h
  clear hsz
  refine start_ (n := 9) (S := fun w' => w'.cell? ⟨gw, 1, none⟩ = some (.slice (some ⟨bT, 0, none⟩) rs.length d1) ∧ w'.cell? ⟨gx, 2, none⟩ = some (.int .i64 n) ∧ w'.cell? ⟨bT, n, none⟩ = some (.string (strOfNums x))) (ds := []) #[false, false, false, false, false, false, false, false, false] (by kernel_rfl) rfl rfl ⟨(fw _ (Below.refl _ _)), (fx _ (Below.refl _ _)), (fs _ (Below.refl _ _))⟩ (fun hHeld => ?_)
  generalize w3.drew = wd at *
  refine pure_ (i := 0) (N := some 185) (v := ?_) (a' := ?_) #[true, false, false, false, false, false, false, false, false] rfl rfl (by kernel_rfl) (fun _ _ _ h => h) (Or.inl ⟨by rfl, ?_⟩) ?_ ?_
  rotate_left
  · intro w'
    go_simp
    with_reducible rfl
  rotate_left
  · simp only [Act.put, List.setIfInBounds_toArray, List.set_cons_zero, List.set_cons_succ, i64_w, i32_w]
    rfl
  refine pure_ (i := 1) (N := some 186) (v := ?_) (a' := ?_) #[true, true, false, false, false, false, false, false, false] rfl rfl (by kernel_rfl) (fun _ _ _ h => h) (Or.inl ⟨by rfl, ?_⟩) ?_ ?_
  rotate_left
  · intro w'
    go_simp
    with_reducible rfl
  rotate_left
  · simp only [Act.put, List.setIfInBounds_toArray, List.set_cons_zero, List.set_cons_succ, i64_w, i32_w]
    rfl
  refine pure_ (i := 3) (N := some 188) (v := ?_) (a' := ?_) #[true, true, false, true, false, false, false, false, false] rfl rfl (by kernel_rfl) (fun _ _ _ h => h) (Or.inl ⟨by rfl, ?_⟩) ?_ ?_
  rotate_left
  · intro w'
    go_simp
    with_reducible rfl
  rotate_left
  · simp only [Act.put, List.setIfInBounds_toArray, List.set_cons_zero, List.set_cons_succ, i64_w, i32_w]
    rfl
  refine take_ (i := 2) (N := some 187) (v := ?_) (a' := ?_) #[true, true, true, true, false, false, false, false, false] rfl rfl (by kernel_rfl) (fun _ _ _ h => h) (Or.inl ⟨by rfl, ?_⟩) hHeld ?_ ?_
  rotate_left
  · rintro w' ⟨s0, s1, s2⟩
    go_simp
    with_reducible rfl
  rotate_left
  · simp only [Act.put, List.setIfInBounds_toArray, List.set_cons_zero, List.set_cons_succ, i64_w, i32_w]
    rfl
  refine take_ (i := 4) (N := some 189) (v := ?_) (a' := ?_) #[true, true, true, true, true, false, false, false, false] rfl rfl (by kernel_rfl) (fun _ _ _ h => h) (Or.inl ⟨by rfl, ?_⟩) hHeld ?_ ?_
  rotate_left
  · rintro w' ⟨s0, s1, s2⟩
    go_simp
    with_reducible rfl
  rotate_left
  · simp only [Act.put, List.setIfInBounds_toArray, List.set_cons_zero, List.set_cons_succ, i64_w, i32_w]
    rfl
  refine pure_ (i := 5) (N := some 190) (v := ?_) (a' := ?_) #[true, true, true, true, true, true, false, false, false] rfl rfl (by kernel_rfl) (fun _ _ _ h => h) (Or.inl ⟨by rfl, ?_⟩) ?_ ?_
  rotate_left
  · intro w'
    go_simp
    with_reducible rfl
  rotate_left
  · simp only [Act.put, List.setIfInBounds_toArray, List.set_cons_zero, List.set_cons_succ, i64_w, i32_w]
    rfl
  refine take_ (i := 6) (N := some 191) (v := ?_) (a' := ?_) #[true, true, true, true, true, true, true, false, false] rfl rfl (by kernel_rfl) (fun _ _ _ h => h) (Or.inl ⟨by rfl, ?_⟩) hHeld ?_ ?_
  rotate_left
  · rintro w' ⟨s0, s1, s2⟩
    go_simp
    with_reducible rfl
  rotate_left
  · simp only [Act.put, List.setIfInBounds_toArray, List.set_cons_zero, List.set_cons_succ, i64_w, i32_w]
    rfl
  refine one_ (i := 7) (N := some 192) #[true, true, true, true, true, true, true, true, false] rfl rfl (by kernel_rfl) (by decide) (fun K hK => ?_)
  refine value_ (w1 := ?_) (v := ?_) (by rfl) rfl ?_ ?_
  rotate_left 2
  · go_simp
    constructor
    · rfl
    · rfl
  have hbm := bytes_below (Below.refl wd.heap.size wd) (Nat.le_refl _) 5 (strOfNums x)
  refine hK.out _ _ ⟨(fw _ hbm), (fx _ hbm), (fs _ hbm)⟩ (fun hHeld => ?_)
  clear hK K
  refine norm_ (a' := ?_) ?_ ?_
  rotate_left
  · show Act.put _ (some 192) _ = _
    simp only [Act.put, List.setIfInBounds_toArray, List.set_cons_zero, List.set_cons_succ, i64_w, i32_w]
    rfl
  refine pure_ (i := 8) (N := some 16) (v := ?_) (a' := ?_) #[true, true, true, true, true, true, true, true, true] rfl rfl (by kernel_rfl) (fun _ _ _ h => h) (Or.inl ⟨by rfl, ?_⟩) ?_ ?_
  rotate_left
  · intro w'
    go_simp
    with_reducible rfl
  rotate_left
  · simp only [Act.put, List.setIfInBounds_toArray, List.set_cons_zero, List.set_cons_succ, i64_w, i32_w]
    rfl
  refine done_ (by kernel_rfl) ?_
  clear hHeld kb
  have hcc := fun j hj => made_cell (W := wd) hxls.2 j hj
  generalize grownCap wd x.length 0 5 = cm
  have hbsz := Lib.bytesWorld_size wd 5 (strOfNums x)
  have hbnw := Lib.bytesWorld_at_new wd 5 (strOfNums x)
  have hcs : x.length ≤ (Lib.bytesCells wd 5 (strOfNums x)).size := by
    have h1 : (strOfNums x).data.size = x.length := strOfNums_size x
    unfold Lib.bytesCells
    rw [Array.size_append, Array.size_map, h1]
    omega
  generalize Lib.bytesWorld wd 5 (strOfNums x) = wb at *
  generalize Lib.bytesCells wd 5 (strOfNums x) = cells_ at *
  have hLb := hL3.below hbm
  have hnb := blk_below hnx3 hbm
  have w0 := blk_cell hLb.hw 0
  have w1 := blk_cell hLb.hw 1
  have x0 := blk_cell hnb 0
  have x1 := blk_cell hnb 1
  have x2 := blk_cell hnb 2
  have x3 := blk_cell hnb 3
  have x4 := blk_cell hnb 4
  have x5 := blk_cell hnb 5
  simp only [List.getElem?_toArray, List.getElem?_cons_zero, List.getElem?_cons_succ] at w0 w1 x0 x1 x2 x3 x4 x5
  go_wp2_with (fail)
  refine HK.out _ _ _ _ _ _ _ _ _ _ _ _ _ _ _ _ _ _ _ _ _ _ _ _ _ _ _ _ _ _ _ _ _ _ _ _ _ _ _ _ _ _ _ _ _ _ _ _ _ _ _ _ _ _ _ _ _ _ _ _ _ _ _ _ _ _ _ _ _ _ _ _ _ _ _ _ _ _ _ _ _ _ _ _ _ _ _ _ _ _ _ _ _ _ _ _ _ _ _ _ _ _ _ _ _ _ _ _ _ _ _ _ _ _ _ _ _ _ _ _ _ _ _ _ _ _ _ _ _ _ _ _ _ _ _ _ _ _ _ _ _ _ _ _ _ _ _ _ _ _ _ _ _ _ _ _ _ _ _ _ _ _ _ _ _ _ _ _ _ _ _ _ _ _ _ _ _ _ _ _ _ _ _ _ _ _ _ _ _ _ _ _ _ _ _ _ _ _ _ _ _ _ _ _ _ _ _ _ _ _ _ _ _ _ _ _ _ _ _ ⟨qs, rs, c, d, _, _, hA3.below hbm, hbel3.trans (hbm.mono hbel3.size), hLb, hl0.out, hl1.out, s0, s1, hg0, hlw⟩
set_option maxHeartbeats 16000000 in
set_option maxRecDepth 100000 in
theorem op4_1 (hlb : xb.length ≤ cb) (hCb : (Kd.int .u8).C w Ab xb.length xb) (hxs : Sm xb) (hyw : 0 ≤ xy ∧ xy < 256)
    (HI : Aside0 (Iv w wc g gw (gw + 1) qs rs c d v0 v1)) (HN : Aside0 (wc.heap[gx]? = some (.cells #[.int .i64 xo, .int .i64 xt, .int .i64 xi, .int .i64 xa, .int .u8 xy, .slice Ab xb.length cb] 52 (0, 0))))
    (HG : Aside0 (gb = decide (xt = 0 ∨ xt = 1)))
    (hK : Meet w g gw gx xt gb K u0 u1 u6 u17 u18 u19 u20 u21 u22 u23 u24 u25 u26 u27 u28 u29 u30 u31 u32 u33 u34 u35 u36 u37 u38 u39 u40 u41 u42 u43 u44 u45 u46 u47 u48 u49 u50 u51 u52 u53 (.bool false) u265 u266 u267 u268 u269 u270 u271 u272 u273 u274 u275 u276 u277 u278 u279 u280 u281 u282 u283 u284 u285 u286 u287 u288 u289 u290 u291 u292 u293 u294 u295 u296 u297 u298 u299 u300 u301 u302 u303 u304 u305 u306 u307 u308 u309 u310 u311 u312 u313) (ht : xt = 1) (oc : xo = 4) (i0 : ¬ xi < 0) (i1 : ¬ (rs.length : Int) ≤ xi) (u : Value) (x : List Int) (hpx : rs[xi.toNat]? = some (u, x)) (ha0 : ¬ xa < 0) (ha1 : ¬ (x.length : Int) ≤ xa) :
    Code.wp Try.prog condCode (Exit.then K (Exit.inBlock 1 (Exit.then K1 (Exit.then K2 (Exit.inBlock 0 (Exit.then K3 (bodyPost Try.prog Try.f12 fun e w' => e = .returned (.bool true) ∧ Below w.heap.size w w'))))))) ⟨#[u0, u1, u2, .pointer (some ⟨g, 0, none⟩), .pointer (some ⟨gw, 0, none⟩), .pointer (some ⟨gw + 1, 0, none⟩), u6, .pointer (some ⟨gx, 0, none⟩), .int .i64 xt, .bool gb, u10, u11, u12, u13, u14, u15, u16, u17, u18, u19, u20, u21, u22, u23, u24, u25, u26, u27, u28, u29, u30, u31, u32, u33, u34, u35, u36, u37, u38, u39, u40, u41, u42, u43, u44, u45, u46, u47, u48, u49, u50, u51, u52, u53, .bool false, u55, u56, u57, u58, u59, u60, u61, u62, u63, u64, u65, u66, u67, u68, u69, u70, u71, u72, u73, u74, u75, u76, u77, u78, u79, u80, u81, u82, u83, u84, u85, u86, u87, u88, u89, u90, u91, u92, u93, u94, u95, u96, u97, u98, u99, u100, u101, u102, u103, u104, u105, u106, u107, u108, u109, u110, u111, u112, u113, u114, u115, u116, u117, u118, u119, u120, u121, u122, u123, u124, u125, u126, u127, u128, u129, u130, u131, u132, u133, u134, u135, u136, u137, u138, u139, u140, u141, u142, u143, u144, u145, u146, u147, u148, u149, u150, u151, u152, u153, u154, u155, u156, u157, u158, u159, u160, u161, u162, u163, u164, u165, u166, u167, u168, u169, u170, u171, u172, u173, u174, u175, u176, u177, u178, u179, u180, u181, u182, u183, u184, u185, u186, u187, u188, u189, u190, u191, u192, u193, u194, u195, u196, u197, u198, u199, u200, u201, u202, u203, u204, u205, u206, u207, u208, u209, u210, u211, u212, u213, u214, u215, u216, u217, u218, u219, u220, u221, u222, u223, u224, u225, u226, u227, u228, u229, u230, u231, u232, u233, u234, u235, u236, u237, u238, u239, u240, u241, u242, u243, u244, u245, u246, u247, u248, u249, u250, u251, u252, u253, u254, u255, u256, u257, u258, u259, u260, u261, u262, u263, u264, u265, u266, u267, u268, u269, u270, u271, u272, u273, u274, u275, u276, u277, u278, u279, u280, u281, u282, u283, u284, u285, u286, u287, u288, u289, u290, u291, u292, u293, u294, u295, u296, u297, u298, u299, u300, u301, u302, u303, u304, u305, u306, u307, u308, u309, u310, u311, u312, u313], []⟩ wc := by
  have b01 : Go.bits .and .i64 0 1 = 0 := by decide
  have b11 : Go.bits .and .i64 1 1 = 1 := by decide
  have HK := Aside0.mk hK
  clear hK
  subst ht
  obtain rfl : gb = true := by rw [HG.out]; rfl
  clear HG
  subst oc
  have hxb := hxs.1
  obtain ⟨hat, hbel, hla, n0, n1, s0, s1, hg0, hlw⟩ := HI.out
  have hnx := HN.out
  clear HI HN
  obtain ⟨T0, d0, rfl⟩ := hla.t0.slice
  obtain ⟨T1, d1, rfl⟩ := hla.t1.slice
  have hCbw := Kd.C_below hCb hbel
  have hl0 := Aside0.mk n0
  have hl1 := Aside0.mk n1
  clear n0 n1
  unfold condCode doCode
  obtain ⟨n, rfl⟩ : ∃ n : Nat, xi = n := ⟨xi.toNat, by omega⟩
  have hp : rs[n]? = some (u, x) := hpx
  clear hpx
  have hxls : Sm x := s1 _ (List.mem_of_getElem? hp)
  have hxl := hxls.1
  obtain ⟨bT, rfl, hcT⟩ := hla.t1.get hp
  have hTr0 := Kd.R_reads' hla.t1
  rw [List.length_map] at hTr0
  have hnd : rs.length ≤ d1 := hTr0.2.1
  clear hTr0
  dsimp only at hcT
  have hnl : n < rs.length := by omega
  have hnlZ : (n : Int) < (rs.length : Int) := by omega
  have hn0Z : (0 : Int) ≤ (n : Int) := by omega
  have i0b : decide ((0 : Int) ≤ (n : Int)) = true := decide_eq_true hn0Z
  have i1b : decide ((n : Int) < (rs.length : Int)) = true := decide_eq_true hnlZ
  have HP := Aside0.mk hp
  clear hp
  obtain ⟨s, rfl⟩ : ∃ s : Nat, xa = s := ⟨xa.toNat, by omega⟩
  have hsl : s < x.length := by omega
  have hslZ : (s : Int) < (x.length : Int) := by omega
  have hs0Z : (0 : Int) ≤ (s : Int) := by omega
  have a0b : decide ((s : Int) < 0) = false := decide_eq_false (by omega)
  have a1b : decide ((x.length : Int) ≤ (s : Int)) = false := decide_eq_false (by omega)
  have hnil : ∀ W : World, Sem.run Try.prog (convert 24 9 (.slice none 0 0)) W = Result.ok (.string { data := #[] }) W := fun W => by
    have h := Kd.C_string (P := Try.prog) (w := W) (A := none) (c := 0) (xs := []) Try.underlying24 Try.underlying5 Try.underlying9 (Kd.C_nil _ _)
    exact h
  have w0 := blk_cell hla.hw 0
  have w1 := blk_cell hla.hw 1
  have x0 := blk_cell hnx 0
  have x1 := blk_cell hnx 1
  have x2 := blk_cell hnx 2
  have x3 := blk_cell hnx 3
  have x4 := blk_cell hnx 4
  have x5 := blk_cell hnx 5
  simp only [List.getElem?_toArray, List.getElem?_cons_zero, List.getElem?_cons_succ] at w0 w1 x0 x1 x2 x3 x4 x5
  go_wp2_with (fail)
  have hT := Spoil1 g g qs rs c d n s u x xy Ab xb.length cb wc hat HP.out hsl
  refine hT.mono ?_
  rintro e w2 ⟨rfl, hA2, hb2, hf2⟩
  have hL2 := hla.fr hf2
  have hnx2 := (hf2 gx _ _ hnx (by decide) (by decide) (by decide)).trans hnx
  have hbel2 := hbel.trans (hb2.mono hg0)
  have hrd : rd x (s : Int) = x.getD s 0 := by
    unfold rd
    first | rfl | simp
  rw [hrd] at hA2
  clear hrd hT hf2 hb2 hCbw hnx hla hat hbel w0 w1 x0 x1 x2 x3 x4 x5 hcT
  dsimp only
  obtain ⟨bT2, hbT2, hcT2⟩ := hL2.t1.get HP.out
  obtain rfl : bT = bT2 := by injection hbT2 with h; injection h
  clear hbT2 hcT2
  have w0 := blk_cell hL2.hw 0
  have w1 := blk_cell hL2.hw 1
  have x0 := blk_cell hnx2 0
  have x1 := blk_cell hnx2 1
  have x2 := blk_cell hnx2 2
  have x3 := blk_cell hnx2 3
  have x4 := blk_cell hnx2 4
  have x5 := blk_cell hnx2 5
  simp only [List.getElem?_toArray, List.getElem?_cons_zero, List.getElem?_cons_succ] at w0 w1 x0 x1 x2 x3 x4 x5
  have hbq := fun n => hbel2.trans ((pw_below_drewN (Below.refl w2.heap.size w2) n).mono hbel2.size)
  have haq := fun n => hA2.below (pw_below_drewN (Below.refl w2.heap.size w2) n)
  have hlq := fun n => hL2.below (pw_below_drewN (Below.refl w2.heap.size w2) n)
  have hxq := fun n => blk_below hnx2 (pw_below_drewN (Below.refl w2.heap.size w2) n)
  clear hA2 hL2 hnx2 hbel2
  go_wp2_with (fail)
  go_quiet (fail)
  go_wp2_with (fail)
  clear b01 b11
  clear w0 w1 x0 x1 x2 x3 x4 x5
  generalize hq : World.drewN w2 _ = w3
  have hbel2 := via hq (P := fun W => Below w.heap.size w W) hbq
  have hA2 := via hq (P := fun W => At W g g _ _ _ _) haq
  have hL2 := via hq (P := fun W => La W g gw (gw + 1) _ _ _ _ _ _) hlq
  have hnx2 := via hq (P := fun W => W.heap[gx]? = _) hxq
  clear hq hbq haq hlq hxq
  have hDd := below_drew (Below.refl w3.heap.size w3)
  have hA3 := hA2.below hDd
  have hL3 := hL2.below hDd
  have hnx3 := blk_drew hnx2
  have hbel3 := hbel2.trans (hDd.mono hbel2.size)
  have hTC := (Kd.R_reads' hL3.t1).2.2
  rw [List.length_map] at hTC
  have fw : ∀ w', Below w3.drew.heap.size w3.drew w' → w'.cell? ⟨gw, 1, none⟩ = some (.slice (some ⟨bT, 0, none⟩) rs.length d1) := fun w' hb => blk_cell (hL3.below hb).hw 1
  have fx : ∀ w', Below w3.drew.heap.size w3.drew w' → w'.cell? ⟨gx, 2, none⟩ = some (.int .i64 n) := fun w' hb => blk_cell (blk_below hnx3 hb) 2
  have fs : ∀ w', Below w3.drew.heap.size w3.drew w' → w'.cell? ⟨bT, n, none⟩ = some (.string (strOfNums x)) := fun w' hb => by
    obtain ⟨bT2, hbT2, hcT2⟩ := (hL3.below hb).t1.get HP.out
    obtain rfl : bT = bT2 := by injection hbT2 with h; injection h
    exact hcT2
  clear hA2 hL2 hnx2 hbel2 hDd
  have hsz : (strOfNums x).size = x.length := strOfNums_size x
  have kb : ∀ W : World, Sem.run Try.prog (convert 9 24 (.string (strOfNums x))) W = Result.ok (.slice (some ⟨W.heap.size, 0, none⟩) x.length (grownCap W x.length 0 5)) (Lib.bytesWorld W 5 (strOfNums x)) := fun W => by
    have h := print_bytes (P := Try.prog) 9 24 5 Try.underlying9 Try.underlying24 Try.underlying5 (strOfNums x) W
    rw [hsz] at h
    exact h
  clear hsz
  refine start_ (n := 9) (S := fun w' => w'.cell? ⟨gw, 1, none⟩ = some (.slice (some ⟨bT, 0, none⟩) rs.length d1) ∧ w'.cell? ⟨gx, 2, none⟩ = some (.int .i64 n) ∧ w'.cell? ⟨bT, n, none⟩ = some (.string (strOfNums x))) (ds := []) #[false, false, false, false, false, false, false, false, false] (by kernel_rfl) rfl rfl ⟨(fw _ (Below.refl _ _)), (fx _ (Below.refl _ _)), (fs _ (Below.refl _ _))⟩ (fun hHeld => ?_)
  generalize w3.drew = wd at *
  refine pure_ (i := 0) (N := some 185) (v := ?_) (a' := ?_) #[true, false, false, false, false, false, false, false, false] rfl rfl (by kernel_rfl) (fun _ _ _ h => h) (Or.inl ⟨by rfl, ?_⟩) ?_ ?_
  rotate_left
  · intro w'
    go_simp
    with_reducible rfl
  rotate_left
  · simp only [Act.put, List.setIfInBounds_toArray, List.set_cons_zero, List.set_cons_succ, i64_w, i32_w]
    rfl
  refine pure_ (i := 1) (N := some 186) (v := ?_) (a' := ?_) #[true, true, false, false, false, false, false, false, false] rfl rfl (by kernel_rfl) (fun _ _ _ h => h) (Or.inl ⟨by rfl, ?_⟩) ?_ ?_
  rotate_left
  · intro w'
    go_simp
    with_reducible rfl
  rotate_left
  · simp only [Act.put, List.setIfInBounds_toArray, List.set_cons_zero, List.set_cons_succ, i64_w, i32_w]
    rfl
  refine pure_ (i := 3) (N := some 188) (v := ?_) (a' := ?_) #[true, true, false, true, false, false, false, false, false] rfl rfl (by kernel_rfl) (fun _ _ _ h => h) (Or.inl ⟨by rfl, ?_⟩) ?_ ?_
  rotate_left
  · intro w'
    go_simp
    with_reducible rfl
  rotate_left
  · simp only [Act.put, List.setIfInBounds_toArray, List.set_cons_zero, List.set_cons_succ, i64_w, i32_w]
    rfl
  refine take_ (i := 2) (N := some 187) (v := ?_) (a' := ?_) #[true, true, true, true, false, false, false, false, false] rfl rfl (by kernel_rfl) (fun _ _ _ h => h) (Or.inl ⟨by rfl, ?_⟩) hHeld ?_ ?_
  rotate_left
  · rintro w' ⟨s0, s1, s2⟩
    go_simp
    with_reducible rfl
  rotate_left
  · simp only [Act.put, List.setIfInBounds_toArray, List.set_cons_zero, List.set_cons_succ, i64_w, i32_w]
    rfl
  refine take_ (i := 4) (N := some 189) (v := ?_) (a' := ?_) #[true, true, true, true, true, false, false, false, false] rfl rfl (by kernel_rfl) (fun _ _ _ h => h) (Or.inl ⟨by rfl, ?_⟩) hHeld ?_ ?_
  rotate_left
  · rintro w' ⟨s0, s1, s2⟩
    go_simp
    with_reducible rfl
  rotate_left
  · simp only [Act.put, List.setIfInBounds_toArray, List.set_cons_zero, List.set_cons_succ, i64_w, i32_w]
    rfl
  refine pure_ (i := 5) (N := some 190) (v := ?_) (a' := ?_) #[true, true, true, true, true, true, false, false, false] rfl rfl (by kernel_rfl) (fun _ _ _ h => h) (Or.inl ⟨by rfl, ?_⟩) ?_ ?_
  rotate_left
  · intro w'
    go_simp
    with_reducible rfl
  rotate_left
  · simp only [Act.put, List.setIfInBounds_toArray, List.set_cons_zero, List.set_cons_succ, i64_w, i32_w]
    rfl
  refine take_ (i := 6) (N := some 191) (v := ?_) (a' := ?_) #[true, true, true, true, true, true, true, false, false] rfl rfl (by kernel_rfl) (fun _ _ _ h => h) (Or.inl ⟨by rfl, ?_⟩) hHeld ?_ ?_
  rotate_left
  · rintro w' ⟨s0, s1, s2⟩
    go_simp
    with_reducible rfl
  rotate_left
  · simp only [Act.put, List.setIfInBounds_toArray, List.set_cons_zero, List.set_cons_succ, i64_w, i32_w]
    rfl
  refine one_ (i := 7) (N := some 192) #[true, true, true, true, true, true, true, true, false] rfl rfl (by kernel_rfl) (by decide) (fun K hK => ?_)
  refine value_ (w1 := ?_) (v := ?_) (by rfl) rfl ?_ ?_
  rotate_left 2
  · go_simp
    constructor
    · rfl
    · rfl
  have hbm := bytes_below (Below.refl wd.heap.size wd) (Nat.le_refl _) 5 (strOfNums x)
  refine hK.out _ _ ⟨(fw _ hbm), (fx _ hbm), (fs _ hbm)⟩ (fun hHeld => ?_)
  clear hK K
  refine norm_ (a' := ?_) ?_ ?_
  rotate_left
  · show Act.put _ (some 192) _ = _
    simp only [Act.put, List.setIfInBounds_toArray, List.set_cons_zero, List.set_cons_succ, i64_w, i32_w]
    rfl
  refine pure_ (i := 8) (N := some 16) (v := ?_) (a' := ?_) #[true, true, true, true, true, true, true, true, true] rfl rfl (by kernel_rfl) (fun _ _ _ h => h) (Or.inl ⟨by rfl, ?_⟩) ?_ ?_
  rotate_left
  · intro w'
    go_simp
    with_reducible rfl
  rotate_left
  · simp only [Act.put, List.setIfInBounds_toArray, List.set_cons_zero, List.set_cons_succ, i64_w, i32_w]
    rfl
  refine done_ (by kernel_rfl) ?_
  clear hHeld kb
  have hcc := fun j hj => made_cell (W := wd) hxls.2 j hj
  generalize grownCap wd x.length 0 5 = cm
  have hbsz := Lib.bytesWorld_size wd 5 (strOfNums x)
  have hbnw := Lib.bytesWorld_at_new wd 5 (strOfNums x)
  have hcs : x.length ≤ (Lib.bytesCells wd 5 (strOfNums x)).size := by
    have h1 : (strOfNums x).data.size = x.length := strOfNums_size x
    unfold Lib.bytesCells
    rw [Array.size_append, Array.size_map, h1]
    omega
  generalize Lib.bytesWorld wd 5 (strOfNums x) = wb at *
  generalize Lib.bytesCells wd 5 (strOfNums x) = cells_ at *
  have hLb := hL3.below hbm
  have hnb := blk_below hnx3 hbm
  have w0 := blk_cell hLb.hw 0
  have w1 := blk_cell hLb.hw 1
  have x0 := blk_cell hnb 0
  have x1 := blk_cell hnb 1
  have x2 := blk_cell hnb 2
  have x3 := blk_cell hnb 3
  have x4 := blk_cell hnb 4
  have x5 := blk_cell hnb 5
  simp only [List.getElem?_toArray, List.getElem?_cons_zero, List.getElem?_cons_succ] at w0 w1 x0 x1 x2 x3 x4 x5
  obtain ⟨vx, hvx⟩ : ∃ vx, x.getD s 0 = vx := ⟨_, rfl⟩
  have xs_ := hcc s hsl
  rw [hvx] at xs_ hA3
  clear hvx
  have HCC : Aside0 (∀ j, j < x.length → wb.drew.cell? ⟨wd.heap.size, j, none⟩ = some (.int .u8 (x.getD j 0))) := Aside0.mk hcc
  clear hcc
  have xz_ : wb.frozen? ⟨wd.heap.size, s, none⟩ = false := by
    rw [World.frozen?, hbnw]
    simp
    omega
  go_wp2_with (fail)
  replace x3 : wb.drew.cell? ⟨gx, 3, none⟩ = some (.int .i64 s) := x3
  replace x4 : wb.drew.cell? ⟨gx, 4, none⟩ = some (.int .u8 xy) := x4
  replace xs_ : wb.drew.cell? ⟨wd.heap.size, s, none⟩ = some (.int .u8 vx) := xs_
  replace xz_ : wb.drew.frozen? ⟨wd.heap.size, s, none⟩ = false := xz_
  have hbd := below_drew hbm
  have hbnd : wb.drew.heap[wd.heap.size]? = some (.cells cells_ 5 (cells_.size, cells_.size + 1)) := hbnw
  refine start_ (n := 13) (S := fun w' => w'.cell? ⟨gx, 3, none⟩ = some (.int .i64 s) ∧ w'.cell? ⟨gx, 4, none⟩ = some (.int .u8 xy) ∧ w'.cell? ⟨wd.heap.size, s, none⟩ = some (.int .u8 vx)) (ds := [12]) #[false, false, false, false, false, false, false, false, false, false, false, false, false] (by kernel_rfl) rfl rfl ⟨x3, x4, xs_⟩ (fun hHeld => ?_)
  generalize wb.drew = we at *
  refine pure_ (i := 0) (N := some 203) (v := ?_) (a' := ?_) #[true, false, false, false, false, false, false, false, false, false, false, false, false] rfl rfl (by kernel_rfl) (fun _ _ _ h => h) (Or.inl ⟨by rfl, ?_⟩) ?_ ?_
  rotate_left
  · intro w'
    go_simp
    with_reducible rfl
  rotate_left
  · simp only [Act.put, List.setIfInBounds_toArray, List.set_cons_zero, List.set_cons_succ, i64_w, i32_w]
    rfl
  refine pure_ (i := 1) (N := some 204) (v := ?_) (a' := ?_) #[true, true, false, false, false, false, false, false, false, false, false, false, false] rfl rfl (by kernel_rfl) (fun _ _ _ h => h) (Or.inl ⟨by rfl, ?_⟩) ?_ ?_
  rotate_left
  · intro w'
    go_simp
    with_reducible rfl
  rotate_left
  · simp only [Act.put, List.setIfInBounds_toArray, List.set_cons_zero, List.set_cons_succ, i64_w, i32_w]
    rfl
  refine pure_ (i := 3) (N := some 206) (v := ?_) (a' := ?_) #[true, true, false, true, false, false, false, false, false, false, false, false, false] rfl rfl (by kernel_rfl) (fun _ _ _ h => h) (Or.inl ⟨by rfl, ?_⟩) ?_ ?_
  rotate_left
  · intro w'
    go_simp
    with_reducible rfl
  rotate_left
  · simp only [Act.put, List.setIfInBounds_toArray, List.set_cons_zero, List.set_cons_succ, i64_w, i32_w]
    rfl
  refine pure_ (i := 4) (N := some 207) (v := ?_) (a' := ?_) #[true, true, false, true, true, false, false, false, false, false, false, false, false] rfl rfl (by kernel_rfl) (fun _ _ _ h => h) (Or.inl ⟨by rfl, ?_⟩) ?_ ?_
  rotate_left
  · intro w'
    go_simp
    with_reducible rfl
  rotate_left
  · simp only [Act.put, List.setIfInBounds_toArray, List.set_cons_zero, List.set_cons_succ, i64_w, i32_w]
    rfl
  refine pure_ (i := 8) (N := some 211) (v := ?_) (a' := ?_) #[true, true, false, true, true, false, false, false, true, false, false, false, false] rfl rfl (by kernel_rfl) (fun _ _ _ h => h) (Or.inl ⟨by rfl, ?_⟩) ?_ ?_
  rotate_left
  · intro w'
    go_simp
    with_reducible rfl
  rotate_left
  · simp only [Act.put, List.setIfInBounds_toArray, List.set_cons_zero, List.set_cons_succ, i64_w, i32_w]
    rfl
  refine take_ (i := 2) (N := some 205) (v := ?_) (a' := ?_) #[true, true, true, true, true, false, false, false, true, false, false, false, false] rfl rfl (by kernel_rfl) (fun _ _ _ h => h) (Or.inl ⟨by rfl, ?_⟩) hHeld ?_ ?_
  rotate_left
  · rintro w' ⟨s0, s1, s2⟩
    go_simp
    with_reducible rfl
  rotate_left
  · simp only [Act.put, List.setIfInBounds_toArray, List.set_cons_zero, List.set_cons_succ, i64_w, i32_w]
    rfl
  refine take_ (i := 5) (N := some 208) (v := ?_) (a' := ?_) #[true, true, true, true, true, true, false, false, true, false, false, false, false] rfl rfl (by kernel_rfl) (fun _ _ _ h => h) (Or.inl ⟨by rfl, ?_⟩) hHeld ?_ ?_
  rotate_left
  · rintro w' ⟨s0, s1, s2⟩
    go_simp
    with_reducible rfl
  rotate_left
  · simp only [Act.put, List.setIfInBounds_toArray, List.set_cons_zero, List.set_cons_succ, i64_w, i32_w]
    rfl
  refine pure_ (i := 6) (N := some 209) (v := ?_) (a' := ?_) #[true, true, true, true, true, true, true, false, true, false, false, false, false] rfl rfl (by kernel_rfl) (fun _ _ _ h => h) (Or.inl ⟨by rfl, ?_⟩) ?_ ?_
  rotate_left
  · intro w'
    go_simp
    with_reducible rfl
  rotate_left
  · simp only [Act.put, List.setIfInBounds_toArray, List.set_cons_zero, List.set_cons_succ, i64_w, i32_w]
    rfl
  refine take_ (i := 7) (N := some 210) (v := ?_) (a' := ?_) #[true, true, true, true, true, true, true, true, true, false, false, false, false] rfl rfl (by kernel_rfl) (fun _ _ _ h => h) (Or.inl ⟨by rfl, ?_⟩) hHeld ?_ ?_
  rotate_left
  · rintro w' ⟨s0, s1, s2⟩
    go_simp
    with_reducible rfl
  rotate_left
  · simp only [Act.put, List.setIfInBounds_toArray, List.set_cons_zero, List.set_cons_succ, i64_w, i32_w]
    rfl
  refine take_ (i := 9) (N := some 212) (v := ?_) (a' := ?_) #[true, true, true, true, true, true, true, true, true, true, false, false, false] rfl rfl (by kernel_rfl) (fun _ _ _ h => h) (Or.inl ⟨by rfl, ?_⟩) hHeld ?_ ?_
  rotate_left
  · rintro w' ⟨s0, s1, s2⟩
    go_simp
    with_reducible rfl
  rotate_left
  · simp only [Act.put, List.setIfInBounds_toArray, List.set_cons_zero, List.set_cons_succ, i64_w, i32_w]
    rfl
  refine pure_ (i := 10) (N := some 213) (v := ?_) (a' := ?_) #[true, true, true, true, true, true, true, true, true, true, true, false, false] rfl rfl (by kernel_rfl) (fun _ _ _ h => h) (Or.inl ⟨by rfl, ?_⟩) ?_ ?_
  rotate_left
  · intro w'
    go_simp
    with_reducible rfl
  rotate_left
  · simp only [Act.put, List.setIfInBounds_toArray, List.set_cons_zero, List.set_cons_succ, i64_w, i32_w]
    rfl
  refine pure_ (i := 11) (N := some 214) (v := ?_) (a' := ?_) #[true, true, true, true, true, true, true, true, true, true, true, true, false] rfl rfl (by kernel_rfl) (fun _ _ _ h => h) (Or.inl ⟨by rfl, ?_⟩) ?_ ?_
  rotate_left
  · intro w'
    go_simp
    with_reducible rfl
  rotate_left
  · simp only [Act.put, List.setIfInBounds_toArray, List.set_cons_zero, List.set_cons_succ, i64_w, i32_w]
    rfl
  refine last_ (i := 12) (N := none) #[true, true, true, true, true, true, true, true, true, true, true, true, true] rfl rfl (by kernel_rfl) (by decide) (fun K hK => ?_)
  refine skip_ (w1 := ?_) (by rfl) rfl ?_ ?_
  rotate_left
  · go_simp
    rfl
  refine hK.out _ _ ?_
  clear hK K
  refine done_ (by kernel_rfl) ?_
  have hccd : ∀ j, j < x.length → we.cell? ⟨wd.heap.size, j, none⟩ = some (.int .u8 (x.getD j 0)) := HCC.out
  clear HCC
  have hbs := hbd.setCell (p := ⟨wd.heap.size, s, none⟩) (Nat.le_refl _) (.int .u8 (Go.bits .xor .u8 vx xy))
  have hccs : ∀ j, j < (x.set s (Go.bits .xor .u8 vx xy)).length → (we.setCell ⟨wd.heap.size, s, none⟩ (.int .u8 (Go.bits .xor .u8 vx xy))).cell? ⟨wd.heap.size, j, none⟩ = some (.int .u8 ((x.set s (Go.bits .xor .u8 vx xy)).getD j 0)) := fun j hj => by
    rw [List.length_set] at hj
    rw [List.getD_eq_getElem?_getD, List.getElem?_set]
    by_cases hjs : s = j
    · subst hjs
      rw [if_pos rfl, if_pos hj, Option.getD_some]
      exact World.cell?_setCell_same _ _ _ (hccd s hsl)
    · rw [if_neg hjs, ← List.getD_eq_getElem?_getD]
      exact (World.cell?_setCell_other _ _ _ _ (by intro he; injection he with _ he _; exact hjs he)).trans (hccd j hj)
  have HCC := Aside0.mk hccs
  clear hccs
  clear w0 w1 x0 x1 x2 x3 x4 x5 xs_ xz_ hbd hbnd hccd hbnw hbsz hcs hLb hnb hbm hHeld
  generalize hws : we.setCell ⟨wd.heap.size, s, none⟩ (.int .u8 (Go.bits .xor .u8 vx xy)) = ws at *
  clear hws
  have hTs := Kd.C_below hTC hbs
  have hLs := hL3.below hbs
  have hns := blk_below hnx3 hbs
  have y0 := blk_cell hLs.hw 0
  have y1 := blk_cell hLs.hw 1
  have hEs := newS ws (Nat.le_refl _)
  have hbE := below_alloc (Below.refl ws.heap.size ws) (.cells #[] 9)
  have hTE := Kd.C_below hTs hbE
  have hgl_ := blk_lt hLs.hw
  have hgn_ : gw ≠ ws.heap.size := Nat.ne_of_lt hgl_
  have yE0 : (ws.alloc (.cells #[] 9)).cell? ⟨gw, 0, none⟩ = some _ := blk_cell (hLs.below hbE).hw 0
  have yE1 : (ws.alloc (.cells #[] 9)).cell? ⟨gw, 1, none⟩ = some _ := blk_cell (hLs.below hbE).hw 1
  have hlt_ : ([] : List ByteArray).length + rs.length ≤ 1000 := by have := hl1.out; simp; omega
  go_wp2_with ((with_reducible refine gate_builtin (b := .append) (xs := #[.tmp 216, .tmp 219]) rfl ?_); at_builtin; refine catW (wd := ws) rfl (.tmp 216) (.tmp 219) rfl (v := .slice (some ⟨ws.heap.size, 0, none⟩) 0 0) (A := some ⟨bT, 0, none⟩) (m := rs.length) (c := d1) (ys := []) (xs := (rs.map fun p : Value × List Int => strOfNums p.2)) rfl rfl hEs hTE hbE hlt_ ?_; intro v7 w7 hR7 hb7 hg7; rw [List.nil_append] at hR7; obtain ⟨T7, n7, d7, rfl⟩ : ∃ A n c, v7 = .slice A n c := (by obtain ⟨A, c, e, _, _⟩ := Kd.R_reads hR7; exact ⟨_, _, _, e⟩); have hL7 := hLs.below hb7; have z7 := frz hL7.hw 1; have q7 := blk_cell hL7.hw 1)
  have hA7 := (hA3.below hbs).below hb7
  have hgs : g ≤ ws.heap.size := Nat.le_of_lt (hA3.below hbs).lt
  have hbel7 := (hbel3.trans (hbs.mono hbel3.size)).trans (hb7.mono (Nat.le_trans hbel3.size hbs.size))
  have ht7 : Tx w7 g (.slice T7 n7 d7) rs := Kd.R_lower hR7 hgs
  have hn7 := (Kd.R_reads' hR7).1
  rw [List.length_map] at hn7
  obtain ⟨b7, rfl⟩ : ∃ b7, T7 = some ⟨b7, 0, none⟩ := by
    obtain ⟨ad7, e7, _⟩ := (Kd.R_reads' hR7).2.2.2.2 (by rw [List.length_map]; omega)
    subst e7
    obtain ⟨b7, rfl⟩ := Kd.R_head hR7
    exact ⟨b7, rfl⟩
  have hL8 := hL7.put1 ht7
  have hR8 : Kd.R Kd.string 9 (w7.setCell ⟨gw, 1, none⟩ (.slice (some ⟨b7, 0, none⟩) n7 d7)) ws.heap.size (fun _ => True) (.slice (some ⟨b7, 0, none⟩) n7 d7) (rs.map fun p : Value × List Int => strOfNums p.2) := Kd.R_set hR7 hL7.hw (by
    intro q hq
    have h_ : q = 9 := by simpa [Kd.string, Kd.scalar] using hq
    rw [h_]
    decide) 1 _
  have hA8 := hA7.set (j := 1) (u := .slice (some ⟨b7, 0, none⟩) n7 d7) hL7.hw (by decide) (by decide) (by decide)
  have hbel8 := hbel7.setCell (p := ⟨gw, 1, none⟩) hlw (.slice (some ⟨b7, 0, none⟩) n7 d7)
  have hns8 : (w7.setCell ⟨gw, 1, none⟩ (.slice (some ⟨b7, 0, none⟩) n7 d7)).heap[gx]? = _ := (Below.heap_setCell w7 ⟨gw, 1, none⟩ _ gx (fun he => cells_ne (blk_below hns hb7) hL7.hw (by decide) he)).trans (blk_below hns hb7)
  have hgwd : gw < wd.heap.size := blk_lt hL3.hw
  have hcc8 : ∀ j, j < (x.set s (Go.bits .xor .u8 vx xy)).length → (w7.setCell ⟨gw, 1, none⟩ (.slice (some ⟨b7, 0, none⟩) n7 d7)).cell? ⟨wd.heap.size, j, none⟩ = some (.int .u8 ((x.set s (Go.bits .xor .u8 vx xy)).getD j 0)) := fun j hj => by
    have h1 := HCC.out j hj
    have h2 := (Below.cell hb7 (cell_lt h1)).trans h1
    exact (World.cell?_setCell_far w7 _ _ _ (by show gw ≠ wd.heap.size; omega)).trans h2
  clear HCC
  generalize hw8 : (w7.setCell ⟨gw, 1, none⟩ (.slice (some ⟨b7, 0, none⟩) n7 d7)) = w8 at *
  have hmv : ∀ k, k < ws.heap.size → (∃ cs, ws.heap[k]? = some (.cells cs 9 (0, 0))) → w8.heap[k]? = ws.heap[k]? := fun k hk ⟨cs, hcs⟩ => by
    rw [← hw8]
    exact (Below.heap_setCell w7 ⟨gw, 1, none⟩ _ k (fun he => cells_ne hcs hLs.hw (by decide) he)).trans (hb7.block k hk)
  obtain ⟨hb7a, hb7c, hb7t⟩ : ws.heap.size ≤ b7 ∧ b7 < w8.heap.size ∧ ∃ cells, w8.heap[b7]? = some (.cells cells 9 (0, 0)) := by
    obtain ⟨_, h1, h2, q, hq, hc⟩ := (Kd.R_bound hR8).1 b7 rfl
    have h_ : q = 9 := by simpa [Kd.string, Kd.scalar] using hq
    rw [h_] at hc
    exact ⟨h1, h2, hc⟩
  obtain ⟨cs7, hb7t⟩ := hb7t
  obtain ⟨b9, hb9, hc9⟩ := hL8.t1.get HP.out
  obtain rfl : b7 = b9 := by injection hb9 with h; injection h
  clear hb9
  have i7 : (n : Int) < (n7 : Int) := by rw [hn7]; exact hnlZ
  have i7b : decide ((n : Int) < (n7 : Int)) = true := decide_eq_true i7
  clear hw8 y0 y1 yE0 yE1 hgl_ hgn_ hTE hbE hEs hlt_ hg7 q7 z7 ht7 hL7 hA7 hbel7 hR7
  have y0 : w8.drew.cell? ⟨gw, 1, none⟩ = some (.slice (some ⟨b7, 0, none⟩) n7 d7) := blk_cell hL8.hw 1
  have y1 : w8.drew.cell? ⟨gx, 2, none⟩ = some (.int .i64 n) := blk_cell hns8 2
  have y2 : Sem.run Try.prog (convert 24 9 (.slice (some ⟨wd.heap.size, 0, none⟩) x.length cm)) w8.drew = Result.ok (.string (strOfNums (x.set s (Go.bits .xor .u8 vx xy)))) w8.drew := by
    have hC := C_cells (W := w8.drew) (b := wd.heap.size) (x := x.set s (Go.bits .xor .u8 vx xy)) (by rw [List.length_set]; exact hxl) hcc8
    rw [List.length_set] at hC
    exact Kd.C_string Try.underlying24 Try.underlying5 Try.underlying9 hC
  have y3 : w8.drew.cell? ⟨b7, n, none⟩ = some (.string (strOfNums x)) := hc9
  have y4 : w8.drew.frozen? ⟨b7, n, none⟩ = false := frz hb7t n
  clear hcc8
  have hA9 := hA8.below (below_drew (Below.refl w8.heap.size w8))
  have hbel9 := hbel8.trans (below_drew (Below.refl w.heap.size w8))
  have hR9 := Kd.R_below hR8 (below_drew (Below.refl w8.heap.size w8))
  have hb9t := blk_drew hb7t
  have hmv9 : ∀ k, k < ws.heap.size → (∃ cs, ws.heap[k]? = some (.cells cs 9 (0, 0))) → w8.drew.heap[k]? = ws.heap[k]? := hmv
  have hL9 := hL8.below (below_drew (Below.refl w8.heap.size w8))
  clear hA8 hbel8 hR8 hb7t hmv hL8 hns8 hc9
  refine start_ (n := 9) (S := fun w' => w'.cell? ⟨gw, 1, none⟩ = some (.slice (some ⟨b7, 0, none⟩) n7 d7) ∧ w'.cell? ⟨gx, 2, none⟩ = some (.int .i64 n) ∧ Sem.run Try.prog (convert 24 9 (.slice (some ⟨wd.heap.size, 0, none⟩) x.length cm)) w' = Result.ok (.string (strOfNums (x.set s (Go.bits .xor .u8 vx xy)))) w') (ds := [8]) #[false, false, false, false, false, false, false, false, false] (by kernel_rfl) rfl rfl ⟨y0, y1, y2⟩ (fun hHeld => ?_)
  generalize w8.drew = w9 at *
  refine pure_ (i := 0) (N := some 222) (v := ?_) (a' := ?_) #[true, false, false, false, false, false, false, false, false] rfl rfl (by kernel_rfl) (fun _ _ _ h => h) (Or.inl ⟨by rfl, ?_⟩) ?_ ?_
  rotate_left
  · intro w'
    go_simp
    with_reducible rfl
  rotate_left
  · simp only [Act.put, List.setIfInBounds_toArray, List.set_cons_zero, List.set_cons_succ, i64_w, i32_w]
    rfl
  refine pure_ (i := 1) (N := some 223) (v := ?_) (a' := ?_) #[true, true, false, false, false, false, false, false, false] rfl rfl (by kernel_rfl) (fun _ _ _ h => h) (Or.inl ⟨by rfl, ?_⟩) ?_ ?_
  rotate_left
  · intro w'
    go_simp
    with_reducible rfl
  rotate_left
  · simp only [Act.put, List.setIfInBounds_toArray, List.set_cons_zero, List.set_cons_succ, i64_w, i32_w]
    rfl
  refine pure_ (i := 3) (N := some 225) (v := ?_) (a' := ?_) #[true, true, false, true, false, false, false, false, false] rfl rfl (by kernel_rfl) (fun _ _ _ h => h) (Or.inl ⟨by rfl, ?_⟩) ?_ ?_
  rotate_left
  · intro w'
    go_simp
    with_reducible rfl
  rotate_left
  · simp only [Act.put, List.setIfInBounds_toArray, List.set_cons_zero, List.set_cons_succ, i64_w, i32_w]
    rfl
  refine pure_ (i := 5) (N := some 227) (v := ?_) (a' := ?_) #[true, true, false, true, false, true, false, false, false] rfl rfl (by kernel_rfl) (fun _ _ _ h => h) (Or.inl ⟨by rfl, ?_⟩) ?_ ?_
  rotate_left
  · intro w'
    go_simp
    with_reducible rfl
  rotate_left
  · simp only [Act.put, List.setIfInBounds_toArray, List.set_cons_zero, List.set_cons_succ, i64_w, i32_w]
    rfl
  refine take_ (i := 2) (N := some 224) (v := ?_) (a' := ?_) #[true, true, true, true, false, true, false, false, false] rfl rfl (by kernel_rfl) (fun _ _ _ h => h) (Or.inl ⟨by rfl, ?_⟩) hHeld ?_ ?_
  rotate_left
  · rintro w' ⟨s0, s1, s2⟩
    go_simp
    with_reducible rfl
  rotate_left
  · simp only [Act.put, List.setIfInBounds_toArray, List.set_cons_zero, List.set_cons_succ, i64_w, i32_w]
    rfl
  refine take_ (i := 4) (N := some 226) (v := ?_) (a' := ?_) #[true, true, true, true, true, true, false, false, false] rfl rfl (by kernel_rfl) (fun _ _ _ h => h) (Or.inl ⟨by rfl, ?_⟩) hHeld ?_ ?_
  rotate_left
  · rintro w' ⟨s0, s1, s2⟩
    go_simp
    with_reducible rfl
  rotate_left
  · simp only [Act.put, List.setIfInBounds_toArray, List.set_cons_zero, List.set_cons_succ, i64_w, i32_w]
    rfl
  refine take_ (i := 6) (N := some 228) (v := ?_) (a' := ?_) #[true, true, true, true, true, true, true, false, false] rfl rfl (by kernel_rfl) (fun _ _ _ h => h) (Or.inl ⟨by rfl, ?_⟩) hHeld ?_ ?_
  rotate_left
  · rintro w' ⟨s0, s1, s2⟩
    go_simp
    with_reducible rfl
  rotate_left
  · simp only [Act.put, List.setIfInBounds_toArray, List.set_cons_zero, List.set_cons_succ, i64_w, i32_w]
    rfl
  refine pure_ (i := 7) (N := some 229) (v := ?_) (a' := ?_) #[true, true, true, true, true, true, true, true, false] rfl rfl (by kernel_rfl) (fun _ _ _ h => h) (Or.inl ⟨by rfl, ?_⟩) ?_ ?_
  rotate_left
  · intro w'
    go_simp
    with_reducible rfl
  rotate_left
  · simp only [Act.put, List.setIfInBounds_toArray, List.set_cons_zero, List.set_cons_succ, i64_w, i32_w]
    rfl
  refine last_ (i := 8) (N := none) #[true, true, true, true, true, true, true, true, true] rfl rfl (by kernel_rfl) (by decide) (fun K hK => ?_)
  refine skip_ (w1 := ?_) (by rfl) rfl ?_ ?_
  rotate_left
  · go_simp
    rfl
  refine hK.out _ _ ?_
  clear hK K
  refine done_ (by kernel_rfl) ?_
  have hLw := hL9.hw
  have hLc := hL9.hc
  clear y0 y1 y2 y3 y4 hHeld
  go_wp2_with (fail)
  have hwf : ∀ b ∈ x.set s (Go.bits .xor .u8 vx xy), 0 ≤ b ∧ b < 256 := fun b hb => by
    rcases List.mem_or_eq_of_mem_set hb with h | h
    · exact hxls.2 b h
    · rw [h]
      have h1 := bits_lo_u8 .xor vx xy
      have h2 := bits_hi_u8 .xor vx xy
      omega
  have hsm : ∀ p ∈ rs.set n (u, x.set s (Go.bits .xor .u8 vx xy)), Sm p.2 := fun p hp => by
    rcases List.mem_or_eq_of_mem_set hp with h | h
    · exact s1 p h
    · rw [h]
      exact ⟨by rw [List.length_set]; exact hxl, hwf⟩
  have htk : Tx (w9.setCell ⟨b7, n, none⟩ (.string (strOfNums (x.set s (Go.bits .xor .u8 vx xy))))) g (.slice (some ⟨b7, 0, none⟩) n7 d7) (rs.set n (u, x.set s (Go.bits .xor .u8 vx xy))) := by
    unfold Tx
    rw [List.map_set]
    have h := Kd.R_putn (Kd.R_lower hR9 hgs) (n : Int) (strOfNums (x.set s (Go.bits .xor .u8 vx xy)))
    rw [Int.toNat_natCast] at h
    exact h
  have hto : Tx (w9.setCell ⟨b7, n, none⟩ (.string (strOfNums (x.set s (Go.bits .xor .u8 vx xy))))) g (.slice T0 qs.length d0) qs := (hLs.t0).moved (fun k hk hc => by
    have h1 := hmv9 k hk hc
    exact (Below.heap_setCell w9 ⟨b7, n, none⟩ _ k (fun he => by have : k = b7 := he; omega)).trans h1)
  refine HK.out _ _ _ _ _ _ _ _ _ _ _ _ _ _ _ _ _ _ _ _ _ _ _ _ _ _ _ _ _ _ _ _ _ _ _ _ _ _ _ _ _ _ _ _ _ _ _ _ _ _ _ _ _ _ _ _ _ _ _ _ _ _ _ _ _ _ _ _ _ _ _ _ _ _ _ _ _ _ _ _ _ _ _ _ _ _ _ _ _ _ _ _ _ _ _ _ _ _ _ _ _ _ _ _ _ _ _ _ _ _ _ _ _ _ _ _ _ _ _ _ _ _ _ _ _ _ _ _ _ _ _ _ _ _ _ _ _ _ _ _ _ _ _ _ _ _ _ _ _ _ _ _ _ _ _ _ _ _ _ _ _ _ _ _ _ _ _ _ _ _ _ _ _ _ _ _ _ _ _ _ _ _ _ _ _ _ _ _ _ _ _ _ _ _ _ _ _ _ _ _ _ _ _ _ _ _ _ _ _ _ _ _ _ _ _ _ _ _ _ ⟨qs, (rs.set n (u, x.set s (Go.bits .xor .u8 vx xy))), c, d, _, _, hA9.set hb9t (by decide) (by decide) (by decide), hbel9.setCell (by show w.heap.size ≤ b7; have := hbel3.size; have := hbs.size; omega) _, ⟨(Below.heap_setCell w9 ⟨b7, n, none⟩ _ gw (fun he => cells_ne hLw hb9t (by decide) he)).trans hLw, (Below.heap_setCell w9 ⟨b7, n, none⟩ _ (gw + 1) (fun he => cells_ne hLc hb9t (by decide) he)).trans hLc, hto, htk⟩, hl0.out, (by rw [List.length_set]; exact hl1.out), s0, hsm, hg0, hlw⟩
set_option maxHeartbeats 16000000 in
set_option maxRecDepth 100000 in
theorem sendbad (hlb : xb.length ≤ cb) (hCb : (Kd.int .u8).C w Ab xb.length xb) (hxs : Sm xb) (hyw : 0 ≤ xy ∧ xy < 256)
    (HI : Aside0 (Iv w wc g gw (gw + 1) qs rs c d v0 v1)) (HN : Aside0 (wc.heap[gx]? = some (.cells #[.int .i64 xo, .int .i64 xt, .int .i64 xi, .int .i64 xa, .int .u8 xy, .slice Ab xb.length cb] 52 (0, 0))))
    (HG : Aside0 (gb = decide (xt = 0 ∨ xt = 1)))
    (hK : Meet w g gw gx xt gb K u0 u1 u6 u17 u18 u19 u20 u21 u22 u23 u24 u25 u26 u27 u28 u29 u30 u31 u32 u33 u34 u35 u36 u37 u38 u39 u40 u41 u42 u43 u44 u45 u46 u47 u48 u49 u50 u51 u52 u53 (.bool true) u265 u266 u267 u268 u269 u270 u271 u272 u273 u274 u275 u276 u277 u278 u279 u280 u281 u282 u283 u284 u285 u286 u287 u288 u289 u290 u291 u292 u293 u294 u295 u296 u297 u298 u299 u300 u301 u302 u303 u304 u305 u306 u307 u308 u309 u310 u311 u312 u313) (k0 : ¬ xt = 0) (k1 : ¬ xt = 1) :
    Code.wp Try.prog condCode (Exit.then K (Exit.inBlock 1 (Exit.then K1 (Exit.then K2 (Exit.inBlock 0 (Exit.then K3 (bodyPost Try.prog Try.f12 fun e w' => e = .returned (.bool true) ∧ Below w.heap.size w w'))))))) ⟨#[u0, u1, u2, .pointer (some ⟨g, 0, none⟩), .pointer (some ⟨gw, 0, none⟩), .pointer (some ⟨gw + 1, 0, none⟩), u6, .pointer (some ⟨gx, 0, none⟩), .int .i64 xt, .bool gb, u10, u11, u12, u13, u14, u15, u16, u17, u18, u19, u20, u21, u22, u23, u24, u25, u26, u27, u28, u29, u30, u31, u32, u33, u34, u35, u36, u37, u38, u39, u40, u41, u42, u43, u44, u45, u46, u47, u48, u49, u50, u51, u52, u53, .bool true, u55, u56, u57, u58, u59, u60, u61, u62, u63, u64, u65, u66, u67, u68, u69, u70, u71, u72, u73, u74, u75, u76, u77, u78, u79, u80, u81, u82, u83, u84, u85, u86, u87, u88, u89, u90, u91, u92, u93, u94, u95, u96, u97, u98, u99, u100, u101, u102, u103, u104, u105, u106, u107, u108, u109, u110, u111, u112, u113, u114, u115, u116, u117, u118, u119, u120, u121, u122, u123, u124, u125, u126, u127, u128, u129, u130, u131, u132, u133, u134, u135, u136, u137, u138, u139, u140, u141, u142, u143, u144, u145, u146, u147, u148, u149, u150, u151, u152, u153, u154, u155, u156, u157, u158, u159, u160, u161, u162, u163, u164, u165, u166, u167, u168, u169, u170, u171, u172, u173, u174, u175, u176, u177, u178, u179, u180, u181, u182, u183, u184, u185, u186, u187, u188, u189, u190, u191, u192, u193, u194, u195, u196, u197, u198, u199, u200, u201, u202, u203, u204, u205, u206, u207, u208, u209, u210, u211, u212, u213, u214, u215, u216, u217, u218, u219, u220, u221, u222, u223, u224, u225, u226, u227, u228, u229, u230, u231, u232, u233, u234, u235, u236, u237, u238, u239, u240, u241, u242, u243, u244, u245, u246, u247, u248, u249, u250, u251, u252, u253, u254, u255, u256, u257, u258, u259, u260, u261, u262, u263, u264, u265, u266, u267, u268, u269, u270, u271, u272, u273, u274, u275, u276, u277, u278, u279, u280, u281, u282, u283, u284, u285, u286, u287, u288, u289, u290, u291, u292, u293, u294, u295, u296, u297, u298, u299, u300, u301, u302, u303, u304, u305, u306, u307, u308, u309, u310, u311, u312, u313], []⟩ wc := by
  have b01 : Go.bits .and .i64 0 1 = 0 := by decide
  have b11 : Go.bits .and .i64 1 1 = 1 := by decide
  have HK := Aside0.mk hK
  clear hK
  have hbad : (decide (0 ≤ xt) && decide (xt < 2)) = false := by
    rw [Bool.and_eq_false_iff, decide_eq_false_iff_not, decide_eq_false_iff_not]
    omega
  obtain rfl : gb = false := by rw [HG.out]; exact decide_eq_false (by rintro (h | h) <;> contradiction)
  clear HG
  have hxb := hxs.1
  obtain ⟨hat, hbel, hla, n0, n1, s0, s1, hg0, hlw⟩ := HI.out
  have hnx := HN.out
  clear HI HN
  obtain ⟨T0, d0, rfl⟩ := hla.t0.slice
  obtain ⟨T1, d1, rfl⟩ := hla.t1.slice
  have hCbw := Kd.C_below hCb hbel
  have hl0 := Aside0.mk n0
  have hl1 := Aside0.mk n1
  clear n0 n1
  unfold condCode sendCode
  have w0 := blk_cell hla.hw 0
  have w1 := blk_cell hla.hw 1
  have x0 := blk_cell hnx 0
  have x1 := blk_cell hnx 1
  have x2 := blk_cell hnx 2
  have x3 := blk_cell hnx 3
  have x4 := blk_cell hnx 4
  have x5 := blk_cell hnx 5
  simp only [List.getElem?_toArray, List.getElem?_cons_zero, List.getElem?_cons_succ] at w0 w1 x0 x1 x2 x3 x4 x5
  go_wp2_with (fail)
  have hT := SendBad (.pointer (some ⟨g, 0, none⟩)) xt hbad Ab xb.length cb wc
  refine hT.mono ?_
  rintro e w2 ⟨rfl, rfl⟩
  clear hT
  dsimp only
  go_wp2_with (fail)
  refine HK.out _ _ _ _ _ _ _ _ _ _ _ _ _ _ _ _ _ _ _ _ _ _ _ _ _ _ _ _ _ _ _ _ _ _ _ _ _ _ _ _ _ _ _ _ _ _ _ _ _ _ _ _ _ _ _ _ _ _ _ _ _ _ _ _ _ _ _ _ _ _ _ _ _ _ _ _ _ _ _ _ _ _ _ _ _ _ _ _ _ _ _ _ _ _ _ _ _ _ _ _ _ _ _ _ _ _ _ _ _ _ _ _ _ _ _ _ _ _ _ _ _ _ _ _ _ _ _ _ _ _ _ _ _ _ _ _ _ _ _ _ _ _ _ _ _ _ _ _ _ _ _ _ _ _ _ _ _ _ _ _ _ _ _ _ _ _ _ _ _ _ _ _ _ _ _ _ _ _ _ _ _ _ _ _ _ _ _ _ _ _ _ _ _ _ _ _ _ _ _ _ _ _ _ _ _ _ _ _ _ _ _ _ _ _ _ _ _ _ _ ⟨qs, rs, c, d, _, _, hat, hbel, hla, hl0.out, hl1.out, s0, s1, hg0, hlw⟩
set_option maxHeartbeats 16000000 in
set_option maxRecDepth 100000 in
theorem bad_lt (hlb : xb.length ≤ cb) (hCb : (Kd.int .u8).C w Ab xb.length xb) (hxs : Sm xb) (hyw : 0 ≤ xy ∧ xy < 256)
    (HI : Aside0 (Iv w wc g gw (gw + 1) qs rs c d v0 v1)) (HN : Aside0 (wc.heap[gx]? = some (.cells #[.int .i64 xo, .int .i64 xt, .int .i64 xi, .int .i64 xa, .int .u8 xy, .slice Ab xb.length cb] 52 (0, 0))))
    (HG : Aside0 (gb = decide (xt = 0 ∨ xt = 1)))
    (hK : Meet w g gw gx xt gb K u0 u1 u6 u17 u18 u19 u20 u21 u22 u23 u24 u25 u26 u27 u28 u29 u30 u31 u32 u33 u34 u35 u36 u37 u38 u39 u40 u41 u42 u43 u44 u45 u46 u47 u48 u49 u50 u51 u52 u53 (.bool false) u265 u266 u267 u268 u269 u270 u271 u272 u273 u274 u275 u276 u277 u278 u279 u280 u281 u282 u283 u284 u285 u286 u287 u288 u289 u290 u291 u292 u293 u294 u295 u296 u297 u298 u299 u300 u301 u302 u303 u304 u305 u306 u307 u308 u309 u310 u311 u312 u313) (k0 : ¬ xt = 0) (k1 : ¬ xt = 1) (oa : xo < 1) :
    Code.wp Try.prog condCode (Exit.then K (Exit.inBlock 1 (Exit.then K1 (Exit.then K2 (Exit.inBlock 0 (Exit.then K3 (bodyPost Try.prog Try.f12 fun e w' => e = .returned (.bool true) ∧ Below w.heap.size w w'))))))) ⟨#[u0, u1, u2, .pointer (some ⟨g, 0, none⟩), .pointer (some ⟨gw, 0, none⟩), .pointer (some ⟨gw + 1, 0, none⟩), u6, .pointer (some ⟨gx, 0, none⟩), .int .i64 xt, .bool gb, u10, u11, u12, u13, u14, u15, u16, u17, u18, u19, u20, u21, u22, u23, u24, u25, u26, u27, u28, u29, u30, u31, u32, u33, u34, u35, u36, u37, u38, u39, u40, u41, u42, u43, u44, u45, u46, u47, u48, u49, u50, u51, u52, u53, .bool false, u55, u56, u57, u58, u59, u60, u61, u62, u63, u64, u65, u66, u67, u68, u69, u70, u71, u72, u73, u74, u75, u76, u77, u78, u79, u80, u81, u82, u83, u84, u85, u86, u87, u88, u89, u90, u91, u92, u93, u94, u95, u96, u97, u98, u99, u100, u101, u102, u103, u104, u105, u106, u107, u108, u109, u110, u111, u112, u113, u114, u115, u116, u117, u118, u119, u120, u121, u122, u123, u124, u125, u126, u127, u128, u129, u130, u131, u132, u133, u134, u135, u136, u137, u138, u139, u140, u141, u142, u143, u144, u145, u146, u147, u148, u149, u150, u151, u152, u153, u154, u155, u156, u157, u158, u159, u160, u161, u162, u163, u164, u165, u166, u167, u168, u169, u170, u171, u172, u173, u174, u175, u176, u177, u178, u179, u180, u181, u182, u183, u184, u185, u186, u187, u188, u189, u190, u191, u192, u193, u194, u195, u196, u197, u198, u199, u200, u201, u202, u203, u204, u205, u206, u207, u208, u209, u210, u211, u212, u213, u214, u215, u216, u217, u218, u219, u220, u221, u222, u223, u224, u225, u226, u227, u228, u229, u230, u231, u232, u233, u234, u235, u236, u237, u238, u239, u240, u241, u242, u243, u244, u245, u246, u247, u248, u249, u250, u251, u252, u253, u254, u255, u256, u257, u258, u259, u260, u261, u262, u263, u264, u265, u266, u267, u268, u269, u270, u271, u272, u273, u274, u275, u276, u277, u278, u279, u280, u281, u282, u283, u284, u285, u286, u287, u288, u289, u290, u291, u292, u293, u294, u295, u296, u297, u298, u299, u300, u301, u302, u303, u304, u305, u306, u307, u308, u309, u310, u311, u312, u313], []⟩ wc := by
  have b01 : Go.bits .and .i64 0 1 = 0 := by decide
  have b11 : Go.bits .and .i64 1 1 = 1 := by decide
  have HK := Aside0.mk hK
  clear hK
  have hbad : (decide (0 ≤ xt) && decide (xt < 2)) = false := by
    rw [Bool.and_eq_false_iff, decide_eq_false_iff_not, decide_eq_false_iff_not]
    omega
  obtain rfl : gb = false := by rw [HG.out]; exact decide_eq_false (by rintro (h | h) <;> contradiction)
  clear HG
  have hxb := hxs.1
  obtain ⟨hat, hbel, hla, n0, n1, s0, s1, hg0, hlw⟩ := HI.out
  have hnx := HN.out
  clear HI HN
  obtain ⟨T0, d0, rfl⟩ := hla.t0.slice
  obtain ⟨T1, d1, rfl⟩ := hla.t1.slice
  have hCbw := Kd.C_below hCb hbel
  have hl0 := Aside0.mk n0
  have hl1 := Aside0.mk n1
  clear n0 n1
  unfold condCode doCode
  have o1 : decide (xo < 1) = true := decide_eq_true (by omega)
  have hnil : ∀ W : World, Sem.run Try.prog (convert 24 9 (.slice none 0 0)) W = Result.ok (.string { data := #[] }) W := fun W => by
    have h := Kd.C_string (P := Try.prog) (w := W) (A := none) (c := 0) (xs := []) Try.underlying24 Try.underlying5 Try.underlying9 (Kd.C_nil _ _)
    exact h
  have w0 := blk_cell hla.hw 0
  have w1 := blk_cell hla.hw 1
  have x0 := blk_cell hnx 0
  have x1 := blk_cell hnx 1
  have x2 := blk_cell hnx 2
  have x3 := blk_cell hnx 3
  have x4 := blk_cell hnx 4
  have x5 := blk_cell hnx 5
  simp only [List.getElem?_toArray, List.getElem?_cons_zero, List.getElem?_cons_succ] at w0 w1 x0 x1 x2 x3 x4 x5
  go_wp2_with (fail)
  have hT := DoBad0 (.pointer (some ⟨g, 0, none⟩)) xo xt hbad xi xa xy Ab xb.length cb wc
  refine hT.mono ?_
  rintro e w2 ⟨rfl, hb2⟩
  have hat2 := hat.below hb2
  have hla2 := hla.below hb2
  have hnx2 := blk_below hnx hb2
  have hbel2 := hbel.trans (hb2.mono hbel.size)
  clear hT hnx hb2 w0 w1 x0 x1 x2 x3 x4 x5 hat hla hbel
  dsimp only
  have w0 := blk_cell hla2.hw 0
  have w1 := blk_cell hla2.hw 1
  have x0 := blk_cell hnx2 0
  have x1 := blk_cell hnx2 1
  have x2 := blk_cell hnx2 2
  have x3 := blk_cell hnx2 3
  have x4 := blk_cell hnx2 4
  have x5 := blk_cell hnx2 5
  simp only [List.getElem?_toArray, List.getElem?_cons_zero, List.getElem?_cons_succ] at w0 w1 x0 x1 x2 x3 x4 x5
  clear hnx2
  have hbq := fun n => hbel2.trans ((pw_below_drewN (Below.refl w2.heap.size w2) n).mono hbel2.size)
  have haq := fun n => hat2.below (pw_below_drewN (Below.refl w2.heap.size w2) n)
  have hlq := fun n => hla2.below (pw_below_drewN (Below.refl w2.heap.size w2) n)
  clear hat2 hla2 hbel2
  go_wp2_with (fail)
  go_quiet (fail)
  go_wp2_with (fail)
  refine HK.out _ _ _ _ _ _ _ _ _ _ _ _ _ _ _ _ _ _ _ _ _ _ _ _ _ _ _ _ _ _ _ _ _ _ _ _ _ _ _ _ _ _ _ _ _ _ _ _ _ _ _ _ _ _ _ _ _ _ _ _ _ _ _ _ _ _ _ _ _ _ _ _ _ _ _ _ _ _ _ _ _ _ _ _ _ _ _ _ _ _ _ _ _ _ _ _ _ _ _ _ _ _ _ _ _ _ _ _ _ _ _ _ _ _ _ _ _ _ _ _ _ _ _ _ _ _ _ _ _ _ _ _ _ _ _ _ _ _ _ _ _ _ _ _ _ _ _ _ _ _ _ _ _ _ _ _ _ _ _ _ _ _ _ _ _ _ _ _ _ _ _ _ _ _ _ _ _ _ _ _ _ _ _ _ _ _ _ _ _ _ _ _ _ _ _ _ _ _ _ _ _ _ _ _ _ _ _ _ _ _ _ _ _ _ _ _ _ _ _ ⟨qs, rs, c, d, _, _, haq _, hbq _, hlq _, hl0.out, hl1.out, s0, s1, hg0, hlw⟩
set_option maxHeartbeats 16000000 in
set_option maxRecDepth 100000 in
theorem bad_gt (hlb : xb.length ≤ cb) (hCb : (Kd.int .u8).C w Ab xb.length xb) (hxs : Sm xb) (hyw : 0 ≤ xy ∧ xy < 256)
    (HI : Aside0 (Iv w wc g gw (gw + 1) qs rs c d v0 v1)) (HN : Aside0 (wc.heap[gx]? = some (.cells #[.int .i64 xo, .int .i64 xt, .int .i64 xi, .int .i64 xa, .int .u8 xy, .slice Ab xb.length cb] 52 (0, 0))))
    (HG : Aside0 (gb = decide (xt = 0 ∨ xt = 1)))
    (hK : Meet w g gw gx xt gb K u0 u1 u6 u17 u18 u19 u20 u21 u22 u23 u24 u25 u26 u27 u28 u29 u30 u31 u32 u33 u34 u35 u36 u37 u38 u39 u40 u41 u42 u43 u44 u45 u46 u47 u48 u49 u50 u51 u52 u53 (.bool false) u265 u266 u267 u268 u269 u270 u271 u272 u273 u274 u275 u276 u277 u278 u279 u280 u281 u282 u283 u284 u285 u286 u287 u288 u289 u290 u291 u292 u293 u294 u295 u296 u297 u298 u299 u300 u301 u302 u303 u304 u305 u306 u307 u308 u309 u310 u311 u312 u313) (k0 : ¬ xt = 0) (k1 : ¬ xt = 1) (oa : ¬ xo < 1) (ob : 5 < xo) :
    Code.wp Try.prog condCode (Exit.then K (Exit.inBlock 1 (Exit.then K1 (Exit.then K2 (Exit.inBlock 0 (Exit.then K3 (bodyPost Try.prog Try.f12 fun e w' => e = .returned (.bool true) ∧ Below w.heap.size w w'))))))) ⟨#[u0, u1, u2, .pointer (some ⟨g, 0, none⟩), .pointer (some ⟨gw, 0, none⟩), .pointer (some ⟨gw + 1, 0, none⟩), u6, .pointer (some ⟨gx, 0, none⟩), .int .i64 xt, .bool gb, u10, u11, u12, u13, u14, u15, u16, u17, u18, u19, u20, u21, u22, u23, u24, u25, u26, u27, u28, u29, u30, u31, u32, u33, u34, u35, u36, u37, u38, u39, u40, u41, u42, u43, u44, u45, u46, u47, u48, u49, u50, u51, u52, u53, .bool false, u55, u56, u57, u58, u59, u60, u61, u62, u63, u64, u65, u66, u67, u68, u69, u70, u71, u72, u73, u74, u75, u76, u77, u78, u79, u80, u81, u82, u83, u84, u85, u86, u87, u88, u89, u90, u91, u92, u93, u94, u95, u96, u97, u98, u99, u100, u101, u102, u103, u104, u105, u106, u107, u108, u109, u110, u111, u112, u113, u114, u115, u116, u117, u118, u119, u120, u121, u122, u123, u124, u125, u126, u127, u128, u129, u130, u131, u132, u133, u134, u135, u136, u137, u138, u139, u140, u141, u142, u143, u144, u145, u146, u147, u148, u149, u150, u151, u152, u153, u154, u155, u156, u157, u158, u159, u160, u161, u162, u163, u164, u165, u166, u167, u168, u169, u170, u171, u172, u173, u174, u175, u176, u177, u178, u179, u180, u181, u182, u183, u184, u185, u186, u187, u188, u189, u190, u191, u192, u193, u194, u195, u196, u197, u198, u199, u200, u201, u202, u203, u204, u205, u206, u207, u208, u209, u210, u211, u212, u213, u214, u215, u216, u217, u218, u219, u220, u221, u222, u223, u224, u225, u226, u227, u228, u229, u230, u231, u232, u233, u234, u235, u236, u237, u238, u239, u240, u241, u242, u243, u244, u245, u246, u247, u248, u249, u250, u251, u252, u253, u254, u255, u256, u257, u258, u259, u260, u261, u262, u263, u264, u265, u266, u267, u268, u269, u270, u271, u272, u273, u274, u275, u276, u277, u278, u279, u280, u281, u282, u283, u284, u285, u286, u287, u288, u289, u290, u291, u292, u293, u294, u295, u296, u297, u298, u299, u300, u301, u302, u303, u304, u305, u306, u307, u308, u309, u310, u311, u312, u313], []⟩ wc := by
  have b01 : Go.bits .and .i64 0 1 = 0 := by decide
  have b11 : Go.bits .and .i64 1 1 = 1 := by decide
  have HK := Aside0.mk hK
  clear hK
  have hbad : (decide (0 ≤ xt) && decide (xt < 2)) = false := by
    rw [Bool.and_eq_false_iff, decide_eq_false_iff_not, decide_eq_false_iff_not]
    omega
  obtain rfl : gb = false := by rw [HG.out]; exact decide_eq_false (by rintro (h | h) <;> contradiction)
  clear HG
  have hxb := hxs.1
  obtain ⟨hat, hbel, hla, n0, n1, s0, s1, hg0, hlw⟩ := HI.out
  have hnx := HN.out
  clear HI HN
  obtain ⟨T0, d0, rfl⟩ := hla.t0.slice
  obtain ⟨T1, d1, rfl⟩ := hla.t1.slice
  have hCbw := Kd.C_below hCb hbel
  have hl0 := Aside0.mk n0
  have hl1 := Aside0.mk n1
  clear n0 n1
  unfold condCode doCode
  have o1 : decide (xo < 1) = false := decide_eq_false (by omega)
  have o5 : decide (5 < xo) = true := decide_eq_true (by omega)
  have hnil : ∀ W : World, Sem.run Try.prog (convert 24 9 (.slice none 0 0)) W = Result.ok (.string { data := #[] }) W := fun W => by
    have h := Kd.C_string (P := Try.prog) (w := W) (A := none) (c := 0) (xs := []) Try.underlying24 Try.underlying5 Try.underlying9 (Kd.C_nil _ _)
    exact h
  have w0 := blk_cell hla.hw 0
  have w1 := blk_cell hla.hw 1
  have x0 := blk_cell hnx 0
  have x1 := blk_cell hnx 1
  have x2 := blk_cell hnx 2
  have x3 := blk_cell hnx 3
  have x4 := blk_cell hnx 4
  have x5 := blk_cell hnx 5
  simp only [List.getElem?_toArray, List.getElem?_cons_zero, List.getElem?_cons_succ] at w0 w1 x0 x1 x2 x3 x4 x5
  go_wp2_with (fail)
  have hT := DoBad0 (.pointer (some ⟨g, 0, none⟩)) xo xt hbad xi xa xy Ab xb.length cb wc
  refine hT.mono ?_
  rintro e w2 ⟨rfl, hb2⟩
  have hat2 := hat.below hb2
  have hla2 := hla.below hb2
  have hnx2 := blk_below hnx hb2
  have hbel2 := hbel.trans (hb2.mono hbel.size)
  clear hT hnx hb2 w0 w1 x0 x1 x2 x3 x4 x5 hat hla hbel
  dsimp only
  have w0 := blk_cell hla2.hw 0
  have w1 := blk_cell hla2.hw 1
  have x0 := blk_cell hnx2 0
  have x1 := blk_cell hnx2 1
  have x2 := blk_cell hnx2 2
  have x3 := blk_cell hnx2 3
  have x4 := blk_cell hnx2 4
  have x5 := blk_cell hnx2 5
  simp only [List.getElem?_toArray, List.getElem?_cons_zero, List.getElem?_cons_succ] at w0 w1 x0 x1 x2 x3 x4 x5
  clear hnx2
  have hbq := fun n => hbel2.trans ((pw_below_drewN (Below.refl w2.heap.size w2) n).mono hbel2.size)
  have haq := fun n => hat2.below (pw_below_drewN (Below.refl w2.heap.size w2) n)
  have hlq := fun n => hla2.below (pw_below_drewN (Below.refl w2.heap.size w2) n)
  clear hat2 hla2 hbel2
  go_wp2_with (fail)
  go_quiet (fail)
  go_wp2_with (fail)
  refine HK.out _ _ _ _ _ _ _ _ _ _ _ _ _ _ _ _ _ _ _ _ _ _ _ _ _ _ _ _ _ _ _ _ _ _ _ _ _ _ _ _ _ _ _ _ _ _ _ _ _ _ _ _ _ _ _ _ _ _ _ _ _ _ _ _ _ _ _ _ _ _ _ _ _ _ _ _ _ _ _ _ _ _ _ _ _ _ _ _ _ _ _ _ _ _ _ _ _ _ _ _ _ _ _ _ _ _ _ _ _ _ _ _ _ _ _ _ _ _ _ _ _ _ _ _ _ _ _ _ _ _ _ _ _ _ _ _ _ _ _ _ _ _ _ _ _ _ _ _ _ _ _ _ _ _ _ _ _ _ _ _ _ _ _ _ _ _ _ _ _ _ _ _ _ _ _ _ _ _ _ _ _ _ _ _ _ _ _ _ _ _ _ _ _ _ _ _ _ _ _ _ _ _ _ _ _ _ _ _ _ _ _ _ _ _ _ _ _ _ _ ⟨qs, rs, c, d, _, _, haq _, hbq _, hlq _, hl0.out, hl1.out, s0, s1, hg0, hlw⟩
set_option maxHeartbeats 16000000 in
set_option maxRecDepth 100000 in
theorem bad_in (hlb : xb.length ≤ cb) (hCb : (Kd.int .u8).C w Ab xb.length xb) (hxs : Sm xb) (hyw : 0 ≤ xy ∧ xy < 256)
    (HI : Aside0 (Iv w wc g gw (gw + 1) qs rs c d v0 v1)) (HN : Aside0 (wc.heap[gx]? = some (.cells #[.int .i64 xo, .int .i64 xt, .int .i64 xi, .int .i64 xa, .int .u8 xy, .slice Ab xb.length cb] 52 (0, 0))))
    (HG : Aside0 (gb = decide (xt = 0 ∨ xt = 1)))
    (hK : Meet w g gw gx xt gb K u0 u1 u6 u17 u18 u19 u20 u21 u22 u23 u24 u25 u26 u27 u28 u29 u30 u31 u32 u33 u34 u35 u36 u37 u38 u39 u40 u41 u42 u43 u44 u45 u46 u47 u48 u49 u50 u51 u52 u53 (.bool false) u265 u266 u267 u268 u269 u270 u271 u272 u273 u274 u275 u276 u277 u278 u279 u280 u281 u282 u283 u284 u285 u286 u287 u288 u289 u290 u291 u292 u293 u294 u295 u296 u297 u298 u299 u300 u301 u302 u303 u304 u305 u306 u307 u308 u309 u310 u311 u312 u313) (k0 : ¬ xt = 0) (k1 : ¬ xt = 1) (oa : ¬ xo < 1) (ob : ¬ 5 < xo) :
    Code.wp Try.prog condCode (Exit.then K (Exit.inBlock 1 (Exit.then K1 (Exit.then K2 (Exit.inBlock 0 (Exit.then K3 (bodyPost Try.prog Try.f12 fun e w' => e = .returned (.bool true) ∧ Below w.heap.size w w'))))))) ⟨#[u0, u1, u2, .pointer (some ⟨g, 0, none⟩), .pointer (some ⟨gw, 0, none⟩), .pointer (some ⟨gw + 1, 0, none⟩), u6, .pointer (some ⟨gx, 0, none⟩), .int .i64 xt, .bool gb, u10, u11, u12, u13, u14, u15, u16, u17, u18, u19, u20, u21, u22, u23, u24, u25, u26, u27, u28, u29, u30, u31, u32, u33, u34, u35, u36, u37, u38, u39, u40, u41, u42, u43, u44, u45, u46, u47, u48, u49, u50, u51, u52, u53, .bool false, u55, u56, u57, u58, u59, u60, u61, u62, u63, u64, u65, u66, u67, u68, u69, u70, u71, u72, u73, u74, u75, u76, u77, u78, u79, u80, u81, u82, u83, u84, u85, u86, u87, u88, u89, u90, u91, u92, u93, u94, u95, u96, u97, u98, u99, u100, u101, u102, u103, u104, u105, u106, u107, u108, u109, u110, u111, u112, u113, u114, u115, u116, u117, u118, u119, u120, u121, u122, u123, u124, u125, u126, u127, u128, u129, u130, u131, u132, u133, u134, u135, u136, u137, u138, u139, u140, u141, u142, u143, u144, u145, u146, u147, u148, u149, u150, u151, u152, u153, u154, u155, u156, u157, u158, u159, u160, u161, u162, u163, u164, u165, u166, u167, u168, u169, u170, u171, u172, u173, u174, u175, u176, u177, u178, u179, u180, u181, u182, u183, u184, u185, u186, u187, u188, u189, u190, u191, u192, u193, u194, u195, u196, u197, u198, u199, u200, u201, u202, u203, u204, u205, u206, u207, u208, u209, u210, u211, u212, u213, u214, u215, u216, u217, u218, u219, u220, u221, u222, u223, u224, u225, u226, u227, u228, u229, u230, u231, u232, u233, u234, u235, u236, u237, u238, u239, u240, u241, u242, u243, u244, u245, u246, u247, u248, u249, u250, u251, u252, u253, u254, u255, u256, u257, u258, u259, u260, u261, u262, u263, u264, u265, u266, u267, u268, u269, u270, u271, u272, u273, u274, u275, u276, u277, u278, u279, u280, u281, u282, u283, u284, u285, u286, u287, u288, u289, u290, u291, u292, u293, u294, u295, u296, u297, u298, u299, u300, u301, u302, u303, u304, u305, u306, u307, u308, u309, u310, u311, u312, u313], []⟩ wc := by
  have b01 : Go.bits .and .i64 0 1 = 0 := by decide
  have b11 : Go.bits .and .i64 1 1 = 1 := by decide
  have HK := Aside0.mk hK
  clear hK
  have hbad : (decide (0 ≤ xt) && decide (xt < 2)) = false := by
    rw [Bool.and_eq_false_iff, decide_eq_false_iff_not, decide_eq_false_iff_not]
    omega
  obtain rfl : gb = false := by rw [HG.out]; exact decide_eq_false (by rintro (h | h) <;> contradiction)
  clear HG
  have hxb := hxs.1
  obtain ⟨hat, hbel, hla, n0, n1, s0, s1, hg0, hlw⟩ := HI.out
  have hnx := HN.out
  clear HI HN
  obtain ⟨T0, d0, rfl⟩ := hla.t0.slice
  obtain ⟨T1, d1, rfl⟩ := hla.t1.slice
  have hCbw := Kd.C_below hCb hbel
  have hl0 := Aside0.mk n0
  have hl1 := Aside0.mk n1
  clear n0 n1
  unfold condCode doCode
  have o1 : decide (xo < 1) = false := decide_eq_false (by omega)
  have o5 : decide (5 < xo) = false := decide_eq_false (by omega)
  have hnil : ∀ W : World, Sem.run Try.prog (convert 24 9 (.slice none 0 0)) W = Result.ok (.string { data := #[] }) W := fun W => by
    have h := Kd.C_string (P := Try.prog) (w := W) (A := none) (c := 0) (xs := []) Try.underlying24 Try.underlying5 Try.underlying9 (Kd.C_nil _ _)
    exact h
  have w0 := blk_cell hla.hw 0
  have w1 := blk_cell hla.hw 1
  have x0 := blk_cell hnx 0
  have x1 := blk_cell hnx 1
  have x2 := blk_cell hnx 2
  have x3 := blk_cell hnx 3
  have x4 := blk_cell hnx 4
  have x5 := blk_cell hnx 5
  simp only [List.getElem?_toArray, List.getElem?_cons_zero, List.getElem?_cons_succ] at w0 w1 x0 x1 x2 x3 x4 x5
  go_wp2_with (fail)
  have hT := DoBad0 (.pointer (some ⟨g, 0, none⟩)) xo xt hbad xi xa xy Ab xb.length cb wc
  refine hT.mono ?_
  rintro e w2 ⟨rfl, hb2⟩
  have hat2 := hat.below hb2
  have hla2 := hla.below hb2
  have hnx2 := blk_below hnx hb2
  have hbel2 := hbel.trans (hb2.mono hbel.size)
  clear hT hnx hb2 w0 w1 x0 x1 x2 x3 x4 x5 hat hla hbel
  dsimp only
  have w0 := blk_cell hla2.hw 0
  have w1 := blk_cell hla2.hw 1
  have x0 := blk_cell hnx2 0
  have x1 := blk_cell hnx2 1
  have x2 := blk_cell hnx2 2
  have x3 := blk_cell hnx2 3
  have x4 := blk_cell hnx2 4
  have x5 := blk_cell hnx2 5
  simp only [List.getElem?_toArray, List.getElem?_cons_zero, List.getElem?_cons_succ] at w0 w1 x0 x1 x2 x3 x4 x5
  clear hnx2
  have hbq := fun n => hbel2.trans ((pw_below_drewN (Below.refl w2.heap.size w2) n).mono hbel2.size)
  have haq := fun n => hat2.below (pw_below_drewN (Below.refl w2.heap.size w2) n)
  have hlq := fun n => hla2.below (pw_below_drewN (Below.refl w2.heap.size w2) n)
  clear hat2 hla2 hbel2
  go_wp2_with (fail)
  go_quiet (fail)
  go_wp2_with (fail)
  refine HK.out _ _ _ _ _ _ _ _ _ _ _ _ _ _ _ _ _ _ _ _ _ _ _ _ _ _ _ _ _ _ _ _ _ _ _ _ _ _ _ _ _ _ _ _ _ _ _ _ _ _ _ _ _ _ _ _ _ _ _ _ _ _ _ _ _ _ _ _ _ _ _ _ _ _ _ _ _ _ _ _ _ _ _ _ _ _ _ _ _ _ _ _ _ _ _ _ _ _ _ _ _ _ _ _ _ _ _ _ _ _ _ _ _ _ _ _ _ _ _ _ _ _ _ _ _ _ _ _ _ _ _ _ _ _ _ _ _ _ _ _ _ _ _ _ _ _ _ _ _ _ _ _ _ _ _ _ _ _ _ _ _ _ _ _ _ _ _ _ _ _ _ _ _ _ _ _ _ _ _ _ _ _ _ _ _ _ _ _ _ _ _ _ _ _ _ _ _ _ _ _ _ _ _ _ _ _ _ _ _ _ _ _ _ _ _ _ _ _ _ ⟨qs, rs, c, d, _, _, haq _, hbq _, hlq _, hl0.out, hl1.out, s0, s1, hg0, hlw⟩
end Go.Proofs.Ytlaojndlelcdaaa.Nets
