/- Put together by pack2.py: TreeK -/
import Derived.Test.YtidlldfghkaeeaaDoorZtTreeClnEtc
import Derived.Test.YtidlldfghkaeeaaDoorZtW0
namespace Go.Proofs.YtidlldfghkaeeaaDoor.P
open Go.RowKit Go.Proofs.YtidlldfghkaeeaaDoorW.PrintWords Go.Proofs.YtidlldfghkaeeaaDoorW.PrintLast Go.Proofs.YtidlldfghkaeeaaDoorW.PrintMore
set_option linter.unusedVariables false
set_option linter.unusedSimpArgs false
theorem C_nil1 {α : Type} (d : Kd α) (W : World) : Kd.C d W none ([] : List α).length [] := ⟨rfl, by simp, fun h => absurd h (by simp)⟩
theorem V_nil1 (W : World) (ok : Nat → Prop) (B : Nat) : Kd.V k30 30 W B ok (.slice none 0 0) [] := Kd.N_V (Kd.N_nil k30 _ W B ok)
theorem C_strs {W : World} {b : Nat} {ty : TypeId} (xs : List ByteArray) {cs : Array Value} (h : W.heap[b]? = some (.cells cs ty (0, 0))) (hx : cs = (xs.map Value.string).toArray) (hl : xs.length ≤ 1000) : Kd.C Kd.string W (some ⟨b, 0, none⟩) xs.length xs := by
 refine Kd.C_of_reads (d := ⟨#[]⟩) ⟨rfl, by omega, fun _ => ⟨_, rfl, fun j hj => ?_⟩⟩
 rw [add_plain, blk_cell h, hx, List.getElem?_toArray, List.getElem?_map, List.getD_eq_getElem?_getD, List.getElem?_eq_getElem hj]
 rfl
/-- A tree in a box; what it leads to lies in P. -/
structure TB (W : World) (P : Nat → Prop) (b : Nat) (v : Value) (l : List S30) : Prop where
 hb : W.heap[b]? = some (.cells #[v] 26 (0, 0))
 hv : Kd.V k30 30 W 0 P v l
section
variable {W W' : World} {P P' S : Nat → Prop} {b : Nat} {v : Value} {l : List S30}
theorem TB.below (h : TB W P b v l) (hb : Below W.heap.size W W') : TB W' P b v l := ⟨(hb.block _ (blk_lt h.hb)).trans h.hb, Kd.V_below h.hv hb⟩
theorem TB.kept (h : TB W P b v l) (hK : Kept W W' S) (h1 : ¬ S b) (h2 : ∀ k, P k → ¬ S k) : TB W' P b v l := ⟨(hK.2 b (blk_lt h.hb) h1).trans h.hb, Kd.V_kept h.hv hK h2⟩
theorem TB.bound (h : TB W P b v l) : TB W (fun k => k < W.heap.size) b v l := ⟨h.hb, Kd.V_mono (Kd.V_bound h.hv) fun k hk => hk.2⟩
theorem TB.lt (h : TB W P b v l) : b < W.heap.size := blk_lt h.hb
/-- Anew in the box. -/
theorem TB.put {v' : Value} {l' : List S30} (h : TB W P b v l) (hv : Kd.V k30 30 W 0 (fun k => k ≠ b) v' l') : TB (W.setCell ⟨b, 0, none⟩ v') (fun k => k ≠ b) b v' l' :=
 ⟨blk_put h.hb 0 v' rfl, Kd.V_far (p := ⟨b, 0, none⟩) hv (fun k hk => hk) v'⟩
end
/-- An entry in a box. -/
structure XB (W : World) (P : Nat → Prop) (b : Nat) (A : Option Addr) (c : Nat) : Prop where
 hb : W.heap[b]? = some (.cells #[.string ⟨#[97, 47, 98]⟩, .bool false, .slice A 1 c] 30 (0, 0))
 hv : Kd.V (Kd.int .u8) 5 W 0 P (.slice A 1 c) [120]
section
variable {W W' : World} {P S : Nat → Prop} {b c : Nat} {A : Option Addr}
theorem XB.below (h : XB W P b A c) (hb : Below W.heap.size W W') : XB W' P b A c := ⟨(hb.block _ (blk_lt h.hb)).trans h.hb, Kd.V_below h.hv hb⟩
theorem XB.kept (h : XB W P b A c) (hK : Kept W W' S) (h1 : ¬ S b) (h2 : ∀ k, P k → ¬ S k) : XB W' P b A c := ⟨(hK.2 b (blk_lt h.hb) h1).trans h.hb, Kd.V_kept h.hv hK h2⟩
theorem XB.bound (h : XB W P b A c) : XB W (fun k => k < W.heap.size) b A c := ⟨h.hb, Kd.V_mono (Kd.V_bound h.hv) fun k hk => hk.2⟩
theorem XB.lt (h : XB W P b A c) : b < W.heap.size := blk_lt h.hb
end
/-- A box that is not there yet, or stands. -/
structure MkB (wd W : World) (bx : Option Nat) : Prop where
 hb : Below wd.heap.size wd W
 hx : ∀ b, bx = some b → W.heap[b]? = some (.cells #[.slice none 0 0] 26 (0, 0)) ∧ wd.heap.size ≤ b
theorem MkB.zero (wd : World) : MkB wd wd none := ⟨Below.refl _ _, fun b hb => by cases hb⟩
theorem MkB.alloc {wd W : World} (h : MkB wd W Option.none) : MkB wd (W.alloc (.cells #[.slice none 0 0] 26)) (some W.heap.size) :=
 ⟨h.hb.trans ((below_alloc (Below.refl W.heap.size W) _).mono h.hb.size), fun b hb => by
  injection hb with hb
  subst hb
  exact ⟨blk_new W _, h.hb.size⟩⟩
theorem MkB.below {wd W W' : World} {bx : Option Nat} (h : MkB wd W bx) (hb : Below W.heap.size W W') : MkB wd W' bx :=
 ⟨h.hb.trans (hb.mono h.hb.size), fun b hbx => ⟨(hb.block _ (blk_lt (h.hx b hbx).1)).trans (h.hx b hbx).1, (h.hx b hbx).2⟩⟩
/-- The tree that was made; the box of it is not there yet, or stands. -/
structure MkV (P : Nat → Prop) (wd W : World) (bx : Option Nat) (v : Value) (l : List S30) : Prop where
 hV : Kd.V k30 30 W 0 (fun k => P k ∧ bx ≠ some k) v l
 hb : Below wd.heap.size wd W
 hx : ∀ b, bx = some b → W.heap[b]? = some (.cells #[.slice none 0 0] 26 (0, 0)) ∧ wd.heap.size ≤ b
section
variable {P : Nat → Prop} {wd W : World} {v : Value} {l l0 : List S30} {A0 : Option Addr} {c0 : Nat} {p : ByteArray}
theorem MkV.alloc (h : MkV P wd W none v l) : MkV P wd (W.alloc (.cells #[.slice none 0 0] 26)) (some W.heap.size) v l :=
 ⟨Kd.V_mono (Kd.V_alloc (Kd.V_bound h.hV) _) fun k hk => ⟨hk.1.1, fun e => by injection e with e; have := hk.2; omega⟩, h.hb.trans ((below_alloc (Below.refl W.heap.size W) _).mono h.hb.size), fun b hb => by
  injection hb with hb
  subst hb
  exact ⟨blk_new W _, h.hb.size⟩⟩
theorem Mk0 {T1 : List S30} {E1 : Int} (hT : tree_Make.f l0 p = some (T1, E1)) (hP : ∀ k, wd.heap.size ≤ k → P k) (hV : Kd.V k30 30 wd 0 (fun k => P k ∧ k < wd.heap.size) (.slice A0 l0.length c0) l0) :
  Calls Tryd.prog 18 #[.agg #[.slice A0 l0.length c0], .string p] wd fun e w' => ∃ v' : Value, e = .returned (.tuple #[.agg #[v'], .int .i64 E1]) ∧ MkV P wd w' none v' T1 := by
 refine (tree_Make.calls (fun k => P k ∧ k < wd.heap.size) A0 c0 l0 p T1 E1 wd hV hT).mono ?_
 rintro e w' ⟨v', h1, h2, h3⟩
 exact ⟨v', h1, ⟨Kd.V_mono h2 fun k hk => ⟨hk.elim (fun h => h.1) (hP k), fun e => by cases e⟩, h3, fun b hb => by cases hb⟩⟩
theorem Mk1 {T1 : List S30} {E1 : Int} (hT : tree_Make.f l0 p = some (T1, E1)) (hP : ∀ k, wd.heap.size ≤ k → P k) (hV : Kd.V k30 30 wd 0 (fun k => P k ∧ k < wd.heap.size) (.slice A0 l0.length c0) l0) :
  Calls Tryd.prog 18 #[.agg #[.slice A0 l0.length c0], .string p] (wd.alloc (.cells #[.slice none 0 0] 26)) fun e w' => ∃ v' : Value, e = .returned (.tuple #[.agg #[v'], .int .i64 E1]) ∧ MkV P wd w' (some wd.heap.size) v' T1 := by
 have hs : (wd.alloc (.cells #[.slice none 0 0] 26)).heap.size = wd.heap.size + 1 := World.size_alloc _ _
 have hb := below_alloc (Below.refl wd.heap.size wd) (.cells #[.slice none 0 0] 26)
 have hx := blk_new wd (.cells #[.slice none 0 0] 26)
 refine (tree_Make.calls (fun k => P k ∧ k < wd.heap.size) A0 c0 l0 p T1 E1 _ (Kd.V_alloc hV _) hT).mono ?_
 generalize wd.alloc (.cells #[.slice none 0 0] 26) = W at *
 rintro e w' ⟨v', h1, h2, h3⟩
 refine ⟨v', h1, ⟨Kd.V_mono h2 fun k hk => ⟨hk.elim (fun h => h.1) (fun h => hP k (by omega)), fun e => ?_⟩, hb.trans (h3.mono hb.size), fun b hb => ?_⟩⟩
 ·injection e with e
  rcases hk with hk | hk
  ·have := hk.2
   omega
  ·omega
 ·injection hb with hb
  subst hb
  exact ⟨(h3.block _ (blk_lt hx)).trans hx, Nat.le_refl _⟩
end
theorem C_kB {W : World} {b : Nat} (h : W.heap[b]? = some (.cells #[.string ⟨#[98]⟩, .bool false, .slice none 0 0, .string ⟨#[97]⟩, .bool false, .slice none 0 0] 30 (0, 0))) : Kd.C k30 W (some ⟨b, 0, none⟩) kTB.length kTB := by
 refine ⟨rfl, by decide, fun _ => ⟨_, rfl, fun j p hj => ?_⟩⟩
 match j, hj with
 | 0, hj =>
  obtain rfl : (⟨⟨#[98]⟩, false, []⟩ : S30) = p := Option.some.inj hj
  refine ⟨[.string ⟨#[98]⟩, .bool false, .slice none 0 0], rfl, k30_mk _ _ (A2 := none) (c2 := 0) (Nat.le_refl _) (C_nil1 _ _), fun i u hu => ?_⟩
  rw [add_plain, blk_cell h]
  match i, hu with
  | 0, hu => exact hu
  | 1, hu => exact hu
  | 2, hu => exact hu
  | i + 3, hu => simp at hu
 | 1, hj =>
  obtain rfl : (⟨⟨#[97]⟩, false, []⟩ : S30) = p := Option.some.inj hj
  refine ⟨[.string ⟨#[97]⟩, .bool false, .slice none 0 0], rfl, k30_mk _ _ (A2 := none) (c2 := 0) (Nat.le_refl _) (C_nil1 _ _), fun i u hu => ?_⟩
  rw [add_plain, blk_cell h]
  match i, hu with
  | 0, hu => exact hu
  | 1, hu => exact hu
  | 2, hu => exact hu
  | i + 3, hu => simp at hu
 | j + 2, hj => simp [kTB] at hj
theorem V_kB {W : World} {b : Nat} (h : W.heap[b]? = some (.cells #[.string ⟨#[98]⟩, .bool false, .slice none 0 0, .string ⟨#[97]⟩, .bool false, .slice none 0 0] 30 (0, 0))) : Kd.V k30 30 W 0 (fun _ => True) (.slice (some ⟨b, 0, none⟩) kTB.length 2) kTB :=
 Kd.V_mk (Nat.le_refl 2) fun W' hW => C_kB ((hW b trivial (blk_lt h)).trans h)
theorem PutZ {w : World} {P : Nat → Prop} {A AS : Option Addr} {c cS : Nat} (hV : Kd.V k30 30 w 0 P (.slice A 3 c) kTT) (hC : Kd.C (Kd.int .u8) w AS (List.replicate 2049 (0 : Int)).length (List.replicate 2049 (0 : Int))) (hc : 2049 ≤ cS) :
  Calls Tryd.prog 17 #[.agg #[.slice A 3 c], .string ⟨#[113]⟩, .slice AS 2049 cS] w fun e w' => ∃ A' c', e = .returned (.tuple #[.agg #[.slice A' 3 c'], .int .i64 9]) ∧ Below w.heap.size w w' := by
 have h := tree_Put.calls P A c kTT ⟨#[113]⟩ AS cS (List.replicate 2049 0) kTT 9 w hV hC (by rw [List.length_replicate]; exact hc) k_p6
 rw [List.length_replicate] at h
 refine Calls.mono (show Calls Tryd.prog 17 #[.agg #[.slice A 3 c], .string ⟨#[113]⟩, .slice AS 2049 cS] w _ from h) ?_
 rintro e w' ⟨v', h1, h2, h3⟩
 obtain ⟨A', c', rfl⟩ : ∃ A c, v' = .slice A 3 c := Kd.V_slice h2
 exact ⟨A', c', h1, h3⟩
theorem nm_cut : ∀ i < 38, nmS.extract i (i + 1) = nmI i := by decide +kernel
def tKn.T12 : Bool × List (List Nat × List Nat) := (true, [([], []), ([], []), ([0, 1], [0, 1]), ([2], [2]), ([3], [3]), ([3], [3]), ([], []), ([6, 4, 2, 0, 1, 2, 3, 4, 6], [4, 6]), ([5, 7, 0, 1, 2, 3, 4, 5, 6, 7], [5])])
def tKn.B12 : List Nat := [0, 0, 3, 7, 15, 15, 0, 95, 255]
theorem tKn.tab12 : rtab .any (opsOf Tryd.f7 12) = tKn.T12 := by kernel_rfl
theorem tKn.bits12 : waitsOk tKn.T12.2 tKn.B12 = true := by kernel_rfl
def tKn.T28 : Bool × List (List Nat × List Nat) := (true, [([], []), ([], []), ([], []), ([], []), ([3], [3]), ([1, 2, 4], [1, 2, 4]), ([0, 5], [0, 5]), ([6], [6]), ([7], [7]), ([7], [7]), ([], []), ([10, 8, 6, 0, 1, 2, 3, 4, 5, 6, 7, 8, 10], [8, 10]), ([9, 11, 0, 1, 2, 3, 4, 5, 6, 7, 8, 9, 10, 11], [9])])
def tKn.B28 : List Nat := [0, 0, 0, 0, 8, 30, 63, 127, 255, 255, 0, 1535, 4095]
theorem tKn.tab28 : rtab .any (opsOf Tryd.f7 28) = tKn.T28 := by kernel_rfl
theorem tKn.bits28 : waitsOk tKn.T28.2 tKn.B28 = true := by kernel_rfl
def tKn.T37 : Bool × List (List Nat × List Nat) := (true, [([], []), ([0], [0]), ([1], [1]), ([2], [2]), ([3, 2], [2, 3]), ([2, 4], [2, 4]), ([5, 2], [5]), ([6], [6]), ([7, 6], [6, 7]), ([6, 8], [6, 8]), ([9, 6], [9]), ([10], [10]), ([11, 10], [10, 11]), ([12, 10], [10, 12]), ([13, 10], [10, 13]), ([10, 14], [10, 14]), ([15, 10], [15]), ([16], [16]), ([17, 16], [16, 17]), ([16, 18], [16, 18]), ([19, 16], [19]), ([20], [20]), ([21, 20], [20, 21]), ([20, 22], [20, 22]), ([23, 20], [23]), ([24], [24]), ([25, 24], [24, 25]), ([24, 26], [24, 26]), ([27, 24], [27]), ([28], [28]), ([29, 28], [28, 29]), ([28, 30], [28, 30]), ([31, 28], [31]), ([32], [32]), ([33, 32], [32, 33]), ([32, 34], [32, 34]), ([35, 32], [35]), ([36], [36]), ([37, 36], [36, 37]), ([36, 38], [36, 38]), ([39, 36], [39]), ([40], [40]), ([41, 40], [40, 41]), ([40, 42], [40, 42]), ([43, 40], [43]), ([44], [44]), ([45, 44], [44, 45]), ([44, 46], [44, 46]), ([47, 44], [47]), ([48], [48]), ([49, 48], [48, 49]), ([48, 50], [48, 50]), ([51, 48], [51]), ([52], [52]), ([53, 52], [52, 53]), ([54, 52], [52, 54]), ([55, 52], [52, 55]), ([52, 56], [52, 56]), ([57, 52], [57]), ([58], [58]), ([59, 58], [58, 59]), ([58, 60], [58, 60]), ([61, 58], [61]), ([62], [62]), ([63, 62], [62, 63]), ([62, 64], [62, 64]), ([65, 62], [65]), ([66], [66]), ([67, 66], [66, 67]), ([66, 68], [66, 68]), ([69, 66], [69]), ([70], [70]), ([71, 70], [70, 71]), ([72, 70], [70, 72]), ([73, 70], [70, 73]), ([70, 74], [70, 74]), ([75, 70], [75]), ([76], [76]), ([77, 76], [76, 77]), ([78, 76], [76, 78]), ([79, 76], [76, 79]), ([80, 76], [76, 80]), ([81, 76], [76, 81]), ([82, 76], [76, 82]), ([76, 83], [76, 83]), ([84, 76], [84]), ([85], [85]), ([86, 85], [85, 86]), ([85, 87], [85, 87]), ([88, 85], [88]), ([89], [89]), ([89], [89]), ([90, 91, 89, 89], [89, 90, 91]), ([89, 92], [89, 92]), ([93, 92], [93]), ([94], [94]), ([95, 94], [94, 95]), ([94, 96], [94, 96]), ([97, 94], [97]), ([98], [98]), ([99, 98], [98, 99]), ([100, 98], [98, 100]), ([101, 98], [98, 101]), ([98, 102], [98, 102]), ([103, 98], [103]), ([104], [104]), ([105, 104], [104, 105]), ([104, 106], [104, 106]), ([107, 104], [107]), ([108], [108]), ([109, 108], [108, 109]), ([110, 108], [108, 110]), ([111, 108], [108, 111]), ([108, 112], [108, 112]), ([113, 108], [113]), ([114], [114]), ([115, 114, 114], [114, 115]), ([114], [114]), ([116, 117, 116, 114], [114, 116, 117]), ([114, 118], [114, 118]), ([119, 118], [119]), ([120], [120]), ([121, 120, 120], [120, 121]), ([120], [120]), ([122, 123, 122, 120], [120, 122, 123]), ([120, 124], [120, 124]), ([125, 124], [125]), ([126], [126]), ([127, 126, 126], [126, 127]), ([126], [126]), ([128, 129, 128, 126], [126, 128, 129]), ([126, 130], [126, 130]), ([131, 130], [131]), ([132], [132]), ([133, 132, 132], [132, 133]), ([134, 132], [132, 134]), ([132, 135], [132, 135]), ([136, 134], [136]), ([137], [137]), ([138, 137, 137], [137, 138]), ([139, 137], [137, 139]), ([140, 137], [137, 140]), ([137, 141], [137, 141]), ([142, 139, 0, 1, 2, 3, 4, 5, 6, 7, 8, 9, 10, 11, 12, 13, 14, 15, 16, 17, 18, 19, 20, 21, 22, 23, 24, 25, 26, 27, 28, 29, 30, 31, 32, 33, 34, 35, 36, 37, 38, 39, 40, 41, 42, 43, 44, 45, 46, 47, 48, 49, 50, 51, 52, 53, 54, 55, 56, 57, 58, 59, 60, 61, 62, 63, 64, 65, 66, 67, 68, 69, 70, 71, 72, 73, 74, 75, 76, 77, 78, 79, 80, 81, 82, 83, 84, 85, 86, 87, 88, 89, 90, 91, 92, 93, 94, 95, 96, 97, 98, 99, 100, 101, 102, 103, 104, 105, 106, 107, 108, 109, 110, 111, 112, 113, 114, 115, 116, 117, 118, 119, 120, 121, 122, 123, 124, 125, 126, 127, 128, 129, 130, 131, 132, 133, 134, 135, 136, 137, 138, 139, 140, 141, 142], [142])])
def tKn.B37 : List Nat := [0, 1, 3, 7, 15, 31, 63, 127, 255, 511, 1023, 2047, 4095, 8191, 16383, 32767, 65535, 131071, 262143, 524287, 1048575, 2097151, 4194303, 8388607, 16777215, 33554431, 67108863, 134217727, 268435455, 536870911, 1073741823, 2147483647, 4294967295, 8589934591, 17179869183, 34359738367, 68719476735, 137438953471, 274877906943, 549755813887, 1099511627775, 2199023255551, 4398046511103, 8796093022207, 17592186044415, 35184372088831, 70368744177663, 140737488355327, 281474976710655, 562949953421311, 1125899906842623, 2251799813685247, 4503599627370495, 9007199254740991, 18014398509481983, 36028797018963967, 72057594037927935, 144115188075855871, 288230376151711743, 576460752303423487, 1152921504606846975, 2305843009213693951, 4611686018427387903, 9223372036854775807, 18446744073709551615, 36893488147419103231, 73786976294838206463, 147573952589676412927, 295147905179352825855, 590295810358705651711, 1180591620717411303423, 2361183241434822606847, 4722366482869645213695, 9444732965739290427391, 18889465931478580854783, 37778931862957161709567, 75557863725914323419135, 151115727451828646838271, 302231454903657293676543, 604462909807314587353087, 1208925819614629174706175, 2417851639229258349412351, 4835703278458516698824703, 9671406556917033397649407, 19342813113834066795298815, 38685626227668133590597631, 77371252455336267181195263, 154742504910672534362390527, 309485009821345068724781055, 618970019642690137449562111, 1237940039285380274899124223, 1237940039285380274899124223, 4951760157141521099596496895, 9903520314283042199192993791, 19807040628566084398385987583, 39614081257132168796771975167, 79228162514264337593543950335, 158456325028528675187087900671, 316912650057057350374175801343, 633825300114114700748351602687, 1267650600228229401496703205375, 2535301200456458802993406410751, 5070602400912917605986812821503, 10141204801825835211973625643007, 20282409603651670423947251286015, 40564819207303340847894502572031, 81129638414606681695789005144063, 162259276829213363391578010288127, 324518553658426726783156020576255, 649037107316853453566312041152511, 1298074214633706907132624082305023, 2596148429267413814265248164610047, 5192296858534827628530496329220095, 10384593717069655257060992658440191, 20769187434139310514121985316880383, 41538374868278621028243970633760767, 83076749736557242056487941267521535, 41538374868278621028243970633760767, 332306998946228968225951765070086143, 664613997892457936451903530140172287, 1329227995784915872903807060280344575, 2658455991569831745807614120560689151, 5316911983139663491615228241121378303, 2658455991569831745807614120560689151, 21267647932558653966460912964485513215, 42535295865117307932921825928971026431, 85070591730234615865843651857942052863, 170141183460469231731687303715884105727, 340282366920938463463374607431768211455, 170141183460469231731687303715884105727, 1361129467683753853853498429727072845823, 2722258935367507707706996859454145691647, 5444517870735015415413993718908291383295, 10889035741470030830827987437816582766591, 21778071482940061661655974875633165533183, 43556142965880123323311949751266331066367, 87112285931760246646623899502532662132735, 174224571863520493293247799005065324265471, 348449143727040986586495598010130648530943, 696898287454081973172991196020261297061887, 1393796574908163946345982392040522594123775, 2787593149816327892691964784081045188247551, 5575186299632655785383929568162090376495103, 11150372599265311570767859136324180752990207]
theorem tKn.tab37 : rtab .any (opsOf Tryd.f7 37) = tKn.T37 := by kernel_rfl
theorem tKn.bits37 : waitsOk tKn.T37.2 tKn.B37 = true := by kernel_rfl
set_option maxHeartbeats 8000000 in
set_option maxRecDepth 100000 in
theorem TreeKnown_calls (W : World) :
  Calls Tryd.prog 7 #[] W fun e w' => e = .returned (.bool true) ∧ Below W.heap.size W w' := by
 have hu26 := Tryd.underlying26
 have hu30 := Tryd.underlying30
 go_enter Tryd.func7, Tryd.ntmps7
 simp only [List.append_eq, List.cons_append, List.nil_append]
 go_wp2_with (fail)
 refine (tallymanlaw8_awake.calls true W rfl).mono ?_
 rintro e W0 ⟨rfl, hb0⟩
 have HB := Aside0.mk hb0
 clear hb0
 dsimp only
 go_wp2_with (fail)
 have HB0_ := Aside0.mk HB.out
 refine (tree_Make.calls (fun _ => False) none 0 [] ⟨#[97]⟩ kT0 0 W0 (V_nil1 _ _ _) k_m0).mono ?_
 rintro e W1 ⟨v_, rfl, hv, hb⟩
 obtain ⟨A1, c1, rfl⟩ : ∃ A c, v_ = .slice A 1 c := Kd.V_slice hv
 have ha := below_alloc (Below.refl W1.heap.size W1) (.cells #[.slice A1 1 c1] 26)
 have hba := hb.trans (ha.mono hb.size)
 have HB := Aside0.mk (HB.out.trans (hba.mono HB.out.size))
 have hk := blk_new W1 (.cells #[.slice A1 1 c1] 26)
 obtain ⟨bT, hbT⟩ : ∃ b, b = W1.heap.size := ⟨_, rfl⟩
 have HT : Aside0 (TB (W1.alloc (.cells #[.slice A1 1 c1] 26)) (fun k => k ≠ bT) bT (.slice A1 1 c1) kT0) := ⟨⟨by rw [hbT]; exact hk, Kd.V_mono (Kd.V_alloc (Kd.V_elderB (Kd.V_lower hv (Nat.zero_le _)) W1.heap.size (Nat.le_refl _)) _) fun k h => by rw [hbT]; exact h.2⟩⟩
 have HWT : Aside0 (W.heap.size ≤ bT) := ⟨by rw [hbT]; exact (HB0_.out.trans (hb.mono HB0_.out.size)).size⟩
 clear hk
 clear hv hb ha hba
 dsimp only
 have m1 := blk_cell HT.out.hb 0
 rw [hbT] at m1
 go_wp2_with ((with_reducible refine gate_dst (N := 55) rfl ?_); refine Stop.out ?_)
 rw [← hbT]
 clear hbT
 generalize W1.alloc (.cells #[.slice A1 1 c1] 26) = W1a at *
 constructor
 go_wp2_with ((with_reducible refine gate_dst (N := 56) rfl ?_); refine V_mlit (xs := [120]) (n := 1) (N := 56) ?hg ?hd (.tmp 55) (t := 23) (e := 5) rfl rfl Tryd.underlying23 Tryd.underlying5 rfl rfl (by decide) ?_; (case hd => rfl); (case hg => rfl); intro v_ W2 hv bx hg_ hnew; refine Stop.out ?_)
 obtain ⟨AL, cL, rfl⟩ : ∃ A c, v_ = .slice A 1 c := Kd.V_slice hv
 have HLC := Aside0.mk (Kd.V_reads' hv)
 have HB := Aside0.mk (HB.out.trans (bx.mono HB.out.size))
 have HT := Aside0.mk (HT.out.below bx)
 clear hv bx hg_ hnew m1
 have m1 := blk_cell HT.out.hb 0
 constructor
 go_wp2_with (fail)
 refine (tree_Put.calls (fun k => k ≠ bT) A1 c1 kT0 ⟨#[97, 47, 98]⟩ AL cL [120] kT1 0 W2 HT.out.hv HLC.out.2.2 HLC.out.2.1 k_p1).mono ?_
 rintro e W3 ⟨v_, rfl, hv, hb⟩
 obtain ⟨A3, c3, rfl⟩ : ∃ A c, v_ = .slice A 2 c := Kd.V_slice hv
 have hlt := HT.out.lt
 clear m1
 have HB := Aside0.mk ((HB.out.trans (hb.mono HB.out.size)).setCell (p := ⟨bT, 0, none⟩) HWT.out (.slice A3 2 c3))
 have hX := HT.out.below hb
 have f1 := blk_frozen hX.hb 0
 have m0 := blk_cell hX.hb 0
 have HT := Aside0.mk (hX.put (Kd.V_mono (Kd.V_lower hv (Nat.zero_le _)) fun k h => h.elim id fun h => by omega : Kd.V k30 30 _ 0 (fun k => k ≠ bT) (.slice A3 2 c3) kT1))
 have m1 := blk_cell HT.out.hb 0
 clear hX hv hb hlt
 dsimp only
 go_wp2_with (fail)
 generalize W3.setCell ⟨bT, 0, none⟩ (.slice A3 2 c3) = W3a at *
 clear f1 m0
 refine (tree_Put.calls (fun k => k ≠ bT) A3 c3 kT1 ⟨#[99]⟩ none 0 [] kTT 0 W3a HT.out.hv (C_nil1 _ _) (Nat.le_refl _) k_p2).mono ?_
 rintro e W4 ⟨v_, rfl, hv, hb⟩
 obtain ⟨A4, c4, rfl⟩ : ∃ A c, v_ = .slice A 3 c := Kd.V_slice hv
 have hlt := HT.out.lt
 clear m1
 have HB := Aside0.mk ((HB.out.trans (hb.mono HB.out.size)).setCell (p := ⟨bT, 0, none⟩) HWT.out (.slice A4 3 c4))
 have hX := HT.out.below hb
 have f1 := blk_frozen hX.hb 0
 have m0 := blk_cell hX.hb 0
 have HT := Aside0.mk (hX.put (Kd.V_mono (Kd.V_lower hv (Nat.zero_le _)) fun k h => h.elim id fun h => by omega : Kd.V k30 30 _ 0 (fun k => k ≠ bT) (.slice A4 3 c4) kTT))
 have m1 := blk_cell HT.out.hb 0
 clear hX hv hb hlt
 dsimp only
 go_wp2_with (fail)
 generalize W4.setCell ⟨bT, 0, none⟩ (.slice A4 3 c4) = W4a at *
 clear f1 m0
 refine (tree_Find.calls A4 c4 kTT ⟨#[65]⟩ (⟨#[]⟩ : ByteArray) false [] 4 W4a (Kd.V_reads' HT.out.hv).2.2 (Kd.V_reads' HT.out.hv).2.1 k_f1).mono ?_
 rintro e W5 ⟨v_, rfl, hR, hb⟩
 obtain ⟨A5, c5, rfl⟩ : ∃ A c, v_ = .slice A 0 c := Kd.R_slice hR
 have ha := below_alloc (Below.refl W5.heap.size W5) (.cells #[.string (⟨#[]⟩ : ByteArray), .bool false, .slice A5 0 c5] 30)
 have hba := hb.trans (ha.mono hb.size)
 have HB := Aside0.mk (HB.out.trans (hba.mono HB.out.size))
 have HT := Aside0.mk (HT.out.below hba)
 clear m1
 have m1 := blk_cell HT.out.hb 0
 clear hR hb ha hba
 dsimp only
 go_wp2_with (fail)
 generalize W5.alloc (.cells #[.string (⟨#[]⟩ : ByteArray), .bool false, .slice A5 0 c5] 30) = W5a at *
 refine (tree_Find.calls A4 c4 kTT ⟨#[122]⟩ (⟨#[]⟩ : ByteArray) false [] 5 W5a (Kd.V_reads' HT.out.hv).2.2 (Kd.V_reads' HT.out.hv).2.1 k_f2).mono ?_
 rintro e W6 ⟨v_, rfl, hR, hb⟩
 obtain ⟨A6, c6, rfl⟩ : ∃ A c, v_ = .slice A 0 c := Kd.R_slice hR
 have ha := below_alloc (Below.refl W6.heap.size W6) (.cells #[.string (⟨#[]⟩ : ByteArray), .bool false, .slice A6 0 c6] 30)
 have hba := hb.trans (ha.mono hb.size)
 have HB := Aside0.mk (HB.out.trans (hba.mono HB.out.size))
 have HT := Aside0.mk (HT.out.below hba)
 clear m1
 have m1 := blk_cell HT.out.hb 0
 clear hR hb ha hba
 dsimp only
 go_wp2_with (fail)
 generalize W6.alloc (.cells #[.string (⟨#[]⟩ : ByteArray), .bool false, .slice A6 0 c6] 30) = W6a at *
 refine (tree_Find.calls A4 c4 kTT ⟨#[97, 47, 98]⟩ ⟨#[97, 47, 98]⟩ false [120] 0 W6a (Kd.V_reads' HT.out.hv).2.2 (Kd.V_reads' HT.out.hv).2.1 k_f3).mono ?_
 rintro e W7 ⟨v_, rfl, hR, hb⟩
 obtain ⟨A7, c7, rfl⟩ : ∃ A c, v_ = .slice A 1 c := Kd.R_slice hR
 have ha := below_alloc (Below.refl W7.heap.size W7) (.cells #[.string ⟨#[97, 47, 98]⟩, .bool false, .slice A7 1 c7] 30)
 have hba := hb.trans (ha.mono hb.size)
 have HB := Aside0.mk (HB.out.trans (hba.mono HB.out.size))
 have HT := Aside0.mk (HT.out.below hba)
 clear m1
 have m1 := blk_cell HT.out.hb 0
 have hk := blk_new W7 (.cells #[.string ⟨#[97, 47, 98]⟩, .bool false, .slice A7 1 c7] 30)
 obtain ⟨bX, hbX⟩ : ∃ b, b = W7.heap.size := ⟨_, rfl⟩
 have HX : Aside0 (XB (W7.alloc (.cells #[.string ⟨#[97, 47, 98]⟩, .bool false, .slice A7 1 c7] 30)) (fun _ => True) bX A7 c7) := ⟨⟨by rw [hbX]; exact hk, Kd.V_mono (Kd.V_alloc (Kd.V_lower (Kd.R_V hR : Kd.V (Kd.int .u8) _ _ 0 _ _ _) (Nat.zero_le _)) _) fun _ _ => trivial⟩⟩
 clear hk
 clear hR hb ha hba
 dsimp only
 go_wp2_with (fail)
 rw [← hbX]
 clear hbX
 generalize W7.alloc (.cells #[.string ⟨#[97, 47, 98]⟩, .bool false, .slice A7 1 c7] 30) = W7a at *
 refine (tree_Put.calls (fun k => k ≠ bT) A4 c4 kTT ⟨#[122, 47, 121]⟩ none 0 [] kTT 5 W7a HT.out.hv (C_nil1 _ _) (Nat.le_refl _) k_p3).mono ?_
 rintro e W8 ⟨v_, rfl, hv, hb⟩
 obtain ⟨A8, c8, rfl⟩ : ∃ A c, v_ = .slice A 3 c := Kd.V_slice hv
 clear m1
 have ha := below_alloc (Below.refl W8.heap.size W8) (.cells #[.slice A8 3 c8] 26)
 have hba := hb.trans (ha.mono hb.size)
 have HB := Aside0.mk (HB.out.trans (hba.mono HB.out.size))
 have HT := Aside0.mk (HT.out.below hba)
 have HX := Aside0.mk (HX.out.below hba)
 have m1 := blk_cell HT.out.hb 0
 clear hv hb ha hba
 dsimp only
 go_wp2_with (fail)
 generalize W8.alloc (.cells #[.slice A8 3 c8] 26) = W8a at *
 refine (tree_Put.calls (fun k => k ≠ bT) A4 c4 kTT ⟨#[99, 47, 121]⟩ none 0 [] kTT 7 W8a HT.out.hv (C_nil1 _ _) (Nat.le_refl _) k_p4).mono ?_
 rintro e W9 ⟨v_, rfl, hv, hb⟩
 obtain ⟨A9, c9, rfl⟩ : ∃ A c, v_ = .slice A 3 c := Kd.V_slice hv
 clear m1
 have ha := below_alloc (Below.refl W9.heap.size W9) (.cells #[.slice A9 3 c9] 26)
 have hba := hb.trans (ha.mono hb.size)
 have HB := Aside0.mk (HB.out.trans (hba.mono HB.out.size))
 have HT := Aside0.mk (HT.out.below hba)
 have HX := Aside0.mk (HX.out.below hba)
 have m1 := blk_cell HT.out.hb 0
 clear hv hb ha hba
 dsimp only
 go_wp2_with (fail)
 generalize W9.alloc (.cells #[.slice A9 3 c9] 26) = W9a at *
 refine (tree_Put.calls (fun k => k ≠ bT) A4 c4 kTT ⟨#[97]⟩ none 0 [] kTT 7 W9a HT.out.hv (C_nil1 _ _) (Nat.le_refl _) k_p5).mono ?_
 rintro e W10 ⟨v_, rfl, hv, hb⟩
 obtain ⟨A10, c10, rfl⟩ : ∃ A c, v_ = .slice A 3 c := Kd.V_slice hv
 clear m1
 have ha := below_alloc (Below.refl W10.heap.size W10) (.cells #[.slice A10 3 c10] 26)
 have hba := hb.trans (ha.mono hb.size)
 have HB := Aside0.mk (HB.out.trans (hba.mono HB.out.size))
 have HT := Aside0.mk (HT.out.below hba)
 have HX := Aside0.mk (HX.out.below hba)
 have m1 := blk_cell HT.out.hb 0
 clear hv hb ha hba
 dsimp only
 go_wp2_with (fail)
 generalize W10.alloc (.cells #[.slice A10 3 c10] 26) = W10a at *
 have hd := below_drew (Below.refl W10a.heap.size W10a)
 have HB := Aside0.mk (HB.out.trans (hd.mono HB.out.size))
 have HT := Aside0.mk (HT.out.below hd)
 have HX := Aside0.mk (HX.out.below hd)
 clear hd m1
 have m1 := blk_cell HT.out.hb 0
 have hW0 := MkB.zero W10a.drew
 refine start_ (n := 9) (S := fun w' => w'.cell? ⟨bT, 0, none⟩ = some (.slice A4 3 c4)) (ds := [7]) #[false, false, false, false, false, false, false, false, false] (by kernel_rfl) rfl rfl (m1) (fun hHeld => ?_)
 refine with_tabW tKn.tab12 tKn.bits12 (fun HT_ HW_ => ?_)
 generalize W10a.drew = wd at HT HX HB m1 hW0 hHeld ⊢
 refine take_ (i := 0) (N := some 96) (v := ?_) (a' := ?_) #[true, false, false, false, false, false, false, false, false] rfl rfl (take_ofW HT_.out HW_.out (by kernel_rfl)) (fun _ _ _ h => h) (Or.inl ⟨by rfl, ?_⟩) hHeld ?_ ?_
 rotate_left
 ·intro w' s0
  go_simp
  with_reducible rfl
 rotate_left
 ·simp only [Act.put, List.setIfInBounds_toArray, List.set_cons_zero, List.set_cons_succ, i64_w, i32_w]
  rfl
 refine join_ (σ := Option Addr × Nat × Option Addr × Nat × Nat) 2 #[true, true, true, true, true, true, true, false, false] (fun s_ => [(97, .slice s_.1 2049 s_.2.1), (98, (.tuple #[(.agg #[.slice s_.2.2.1 3 s_.2.2.2.1]), .int .i64 9])), (15, .pointer (some ⟨s_.2.2.2.2, 0, none⟩)), (95, (.tuple #[(.agg #[.slice s_.2.2.1 3 s_.2.2.2.1]), .int .i64 9])), (99, (.agg #[.slice s_.2.2.1 3 s_.2.2.2.1])), (100, .int .i64 9)]) (fun s_ w' => MkB wd w' (some s_.2.2.2.2)) ?_ ?_
 rotate_left
 ·intro hCont
  refine two_ (i := 1) (j := 6) (Ni := some 97) (Nj := some 15) #[true, true, false, false, false, false, false, false, false] #[true, false, false, false, false, false, true, false, false] rfl rfl rfl rfl (two_of HT_.out (by kernel_rfl)) (by decide) (by decide) (fun K hK => ?_) (fun K hK => ?_)
  ·skip
   refine Kd.R_make_step (Kd.int .u8) _ 5 (by rfl) (N := 97) rfl 23 _ _ rfl 2049 rfl rfl Tryd.underlying23 (.int .u8 0) 1 info5 rfl (by decide) (by omega) 0 (ok := fun _ => True) (okp := fun _ => True) rfl (fun _ hk => hk) trivial (by omega) (by omega) (Below.refl _ _) (Nat.le_refl _) ?_
   intro vS wS hRs hbS _ _
   simp only [Int.reduceToNat] at hRs
   obtain ⟨AS, cS, rfl⟩ : ∃ A c, vS = .slice A 2049 c := by obtain ⟨A, c, h⟩ := Kd.R_slice hRs; rw [List.length_replicate] at h; exact ⟨A, c, h⟩
   have hW := hW0.below hbS
   have hC : Kd.C (Kd.int .u8) wS AS (List.replicate 2049 (0 : Int)).length (List.replicate 2049 (0 : Int)) := (Kd.R_reads' hRs).2.2
   have hCl := (Kd.R_reads' hRs).2.1
   refine hK.out _ _ ((Below.cell hW.hb (cell_lt2 m1)).trans m1) (fun hHeld => ?_)
   clear hK K
   refine norm_ (a' := ?_) ?_ ?_
   rotate_left
   ·show Act.put _ (some 97) _ = _
    simp only [Act.put, List.setIfInBounds_toArray, List.set_cons_zero, List.set_cons_succ, i64_w, i32_w]
    rfl
   refine two_ (i := 2) (j := 6) (Ni := some 98) (Nj := some 15) #[true, true, true, false, false, false, false, false, false] #[true, true, false, false, false, false, true, false, false] rfl rfl rfl rfl (two_of HT_.out (by kernel_rfl)) (by decide) (by decide) (fun K hK => ?_) (fun K hK => ?_)
   ·skip
    refine goes_ Tryd.func17 (by kernel_rfl) rfl #[.agg #[.slice A4 3 c4], .string ⟨#[113]⟩, .slice AS 2049 cS] (by rfl) rfl rfl (by simp only [List.map_toArray, List.map_cons, List.map_nil]; rfl) ?_
    with_reducible refine (PutZ (P := fun _ => True) (Kd.V_mono (Kd.V_below HT.out.hv hW.hb) fun _ _ => trivial) hC hCl).mono ?_
    rintro e wP ⟨AP, cP, rfl, hbP⟩
    refine ⟨_, rfl, ?_⟩
    have hW := hW.below hbP
    refine hK.out _ _ ((Below.cell hW.hb (cell_lt2 m1)).trans m1) (fun hHeld => ?_)
    clear hK K
    refine norm_ (a' := ?_) ?_ ?_
    rotate_left
    ·show Act.put _ (some 98) _ = _
     simp only [Act.put, List.setIfInBounds_toArray, List.set_cons_zero, List.set_cons_succ, i64_w, i32_w]
     rfl
    refine pure_ (i := 3) (N := some 95) (v := ?_) (a' := ?_) #[true, true, true, true, false, false, false, false, false] rfl rfl (any_of HT_.out (by kernel_rfl)) (fun _ _ _ h => h) (Or.inl ⟨by rfl, ?_⟩) ?_ ?_
    rotate_left
    ·intro w'
     go_simp
     with_reducible rfl
    rotate_left
    ·simp only [Act.put, List.setIfInBounds_toArray, List.set_cons_zero, List.set_cons_succ, i64_w, i32_w]
     rfl
    refine pure_ (i := 4) (N := some 99) (v := ?_) (a' := ?_) #[true, true, true, true, true, false, false, false, false] rfl rfl (any_of HT_.out (by kernel_rfl)) (fun _ _ _ h => h) (Or.inl ⟨by rfl, ?_⟩) ?_ ?_
    rotate_left
    ·intro w'
     go_simp
     with_reducible rfl
    rotate_left
    ·simp only [Act.put, List.setIfInBounds_toArray, List.set_cons_zero, List.set_cons_succ, i64_w, i32_w]
     rfl
    refine pure_ (i := 5) (N := some 100) (v := ?_) (a' := ?_) #[true, true, true, true, true, true, false, false, false] rfl rfl (any_of HT_.out (by kernel_rfl)) (fun _ _ _ h => h) (Or.inl ⟨by rfl, ?_⟩) ?_ ?_
    rotate_left
    ·intro w'
     go_simp
     with_reducible rfl
    rotate_left
    ·simp only [Act.put, List.setIfInBounds_toArray, List.set_cons_zero, List.set_cons_succ, i64_w, i32_w]
     rfl
    refine one_ (i := 6) (N := some 15) #[true, true, true, true, true, true, true, false, false] rfl rfl (one_of HT_.out (by kernel_rfl)) (by decide) (fun K hK => ?_)
    refine value_ (w1 := ?_) (v := ?_) (by rfl) rfl ?_ ?_
    rotate_left 2
    ·go_simp
     constructor
     ·rfl
     ·rfl
    replace hW := hW.alloc
    refine hK.out _ _ ((Below.cell hW.hb (cell_lt2 m1)).trans m1) (fun hHeld => ?_)
    clear hK K
    refine norm_ (a' := ?_) ?_ ?_
    rotate_left
    ·show Act.put _ (some 15) _ = _
     simp only [Act.put, List.setIfInBounds_toArray, List.set_cons_zero, List.set_cons_succ, i64_w, i32_w]
     rfl
    exact norm_ (by simp only [putAll, Act.put, List.setIfInBounds_toArray, List.set_cons_zero, List.set_cons_succ]) (hCont (AS, cS, AP, cP, wP.heap.size) _ hW)
   ·skip
    refine value_ (w1 := ?_) (v := ?_) (by rfl) rfl ?_ ?_
    rotate_left 2
    ·go_simp
     constructor
     ·rfl
     ·rfl
    replace hW := hW.alloc
    have hC := Kd.C_alloc hC (.cells #[.slice none 0 0] 26)
    refine hK.out _ _ ((Below.cell hW.hb (cell_lt2 m1)).trans m1) (fun hHeld => ?_)
    clear hK K
    refine norm_ (a' := ?_) ?_ ?_
    rotate_left
    ·show Act.put _ (some 15) _ = _
     simp only [Act.put, List.setIfInBounds_toArray, List.set_cons_zero, List.set_cons_succ, i64_w, i32_w]
     rfl
    refine one_ (i := 2) (N := some 98) #[true, true, true, false, false, false, true, false, false] rfl rfl (one_of HT_.out (by kernel_rfl)) (by decide) (fun K hK => ?_)
    refine goes_ Tryd.func17 (by kernel_rfl) rfl #[.agg #[.slice A4 3 c4], .string ⟨#[113]⟩, .slice AS 2049 cS] (by rfl) rfl rfl (by simp only [List.map_toArray, List.map_cons, List.map_nil]; rfl) ?_
    with_reducible refine (PutZ (P := fun _ => True) (Kd.V_mono (Kd.V_below HT.out.hv hW.hb) fun _ _ => trivial) hC hCl).mono ?_
    rintro e wP ⟨AP, cP, rfl, hbP⟩
    refine ⟨_, rfl, ?_⟩
    have hW := hW.below hbP
    refine hK.out _ _ ((Below.cell hW.hb (cell_lt2 m1)).trans m1) (fun hHeld => ?_)
    clear hK K
    refine norm_ (a' := ?_) ?_ ?_
    rotate_left
    ·show Act.put _ (some 98) _ = _
     simp only [Act.put, List.setIfInBounds_toArray, List.set_cons_zero, List.set_cons_succ, i64_w, i32_w]
     rfl
    refine pure_ (i := 3) (N := some 95) (v := ?_) (a' := ?_) #[true, true, true, true, false, false, true, false, false] rfl rfl (any_of HT_.out (by kernel_rfl)) (fun _ _ _ h => h) (Or.inl ⟨by rfl, ?_⟩) ?_ ?_
    rotate_left
    ·intro w'
     go_simp
     with_reducible rfl
    rotate_left
    ·simp only [Act.put, List.setIfInBounds_toArray, List.set_cons_zero, List.set_cons_succ, i64_w, i32_w]
     rfl
    refine pure_ (i := 4) (N := some 99) (v := ?_) (a' := ?_) #[true, true, true, true, true, false, true, false, false] rfl rfl (any_of HT_.out (by kernel_rfl)) (fun _ _ _ h => h) (Or.inl ⟨by rfl, ?_⟩) ?_ ?_
    rotate_left
    ·intro w'
     go_simp
     with_reducible rfl
    rotate_left
    ·simp only [Act.put, List.setIfInBounds_toArray, List.set_cons_zero, List.set_cons_succ, i64_w, i32_w]
     rfl
    refine pure_ (i := 5) (N := some 100) (v := ?_) (a' := ?_) #[true, true, true, true, true, true, true, false, false] rfl rfl (any_of HT_.out (by kernel_rfl)) (fun _ _ _ h => h) (Or.inl ⟨by rfl, ?_⟩) ?_ ?_
    rotate_left
    ·intro w'
     go_simp
     with_reducible rfl
    rotate_left
    ·simp only [Act.put, List.setIfInBounds_toArray, List.set_cons_zero, List.set_cons_succ, i64_w, i32_w]
     rfl
    exact norm_ (by simp only [putAll, Act.put, List.setIfInBounds_toArray, List.set_cons_zero, List.set_cons_succ]) (hCont (AS, cS, AP, cP, wS.heap.size) _ hW)
  ·skip
   refine value_ (w1 := ?_) (v := ?_) (by rfl) rfl ?_ ?_
   rotate_left 2
   ·go_simp
    constructor
    ·rfl
    ·rfl
   have hW := hW0.alloc
   refine hK.out _ _ ((Below.cell hW.hb (cell_lt2 m1)).trans m1) (fun hHeld => ?_)
   clear hK K
   refine norm_ (a' := ?_) ?_ ?_
   rotate_left
   ·show Act.put _ (some 15) _ = _
    simp only [Act.put, List.setIfInBounds_toArray, List.set_cons_zero, List.set_cons_succ, i64_w, i32_w]
    rfl
   refine one_ (i := 1) (N := some 97) #[true, true, false, false, false, false, true, false, false] rfl rfl (one_of HT_.out (by kernel_rfl)) (by decide) (fun K hK => ?_)
   refine Kd.R_make_step (Kd.int .u8) _ 5 (by rfl) (N := 97) rfl 23 _ _ rfl 2049 rfl rfl Tryd.underlying23 (.int .u8 0) 1 info5 rfl (by decide) (by omega) 0 (ok := fun _ => True) (okp := fun _ => True) rfl (fun _ hk => hk) trivial (by omega) (by omega) (Below.refl _ _) (Nat.le_refl _) ?_
   intro vS wS hRs hbS _ _
   simp only [Int.reduceToNat] at hRs
   obtain ⟨AS, cS, rfl⟩ : ∃ A c, vS = .slice A 2049 c := by obtain ⟨A, c, h⟩ := Kd.R_slice hRs; rw [List.length_replicate] at h; exact ⟨A, c, h⟩
   have hW := hW.below hbS
   have hC : Kd.C (Kd.int .u8) wS AS (List.replicate 2049 (0 : Int)).length (List.replicate 2049 (0 : Int)) := (Kd.R_reads' hRs).2.2
   have hCl := (Kd.R_reads' hRs).2.1
   refine hK.out _ _ ((Below.cell hW.hb (cell_lt2 m1)).trans m1) (fun hHeld => ?_)
   clear hK K
   refine norm_ (a' := ?_) ?_ ?_
   rotate_left
   ·show Act.put _ (some 97) _ = _
    simp only [Act.put, List.setIfInBounds_toArray, List.set_cons_zero, List.set_cons_succ, i64_w, i32_w]
    rfl
   refine one_ (i := 2) (N := some 98) #[true, true, true, false, false, false, true, false, false] rfl rfl (one_of HT_.out (by kernel_rfl)) (by decide) (fun K hK => ?_)
   refine goes_ Tryd.func17 (by kernel_rfl) rfl #[.agg #[.slice A4 3 c4], .string ⟨#[113]⟩, .slice AS 2049 cS] (by rfl) rfl rfl (by simp only [List.map_toArray, List.map_cons, List.map_nil]; rfl) ?_
   with_reducible refine (PutZ (P := fun _ => True) (Kd.V_mono (Kd.V_below HT.out.hv hW.hb) fun _ _ => trivial) hC hCl).mono ?_
   rintro e wP ⟨AP, cP, rfl, hbP⟩
   refine ⟨_, rfl, ?_⟩
   have hW := hW.below hbP
   refine hK.out _ _ ((Below.cell hW.hb (cell_lt2 m1)).trans m1) (fun hHeld => ?_)
   clear hK K
   refine norm_ (a' := ?_) ?_ ?_
   rotate_left
   ·show Act.put _ (some 98) _ = _
    simp only [Act.put, List.setIfInBounds_toArray, List.set_cons_zero, List.set_cons_succ, i64_w, i32_w]
    rfl
   refine pure_ (i := 3) (N := some 95) (v := ?_) (a' := ?_) #[true, true, true, true, false, false, true, false, false] rfl rfl (any_of HT_.out (by kernel_rfl)) (fun _ _ _ h => h) (Or.inl ⟨by rfl, ?_⟩) ?_ ?_
   rotate_left
   ·intro w'
    go_simp
    with_reducible rfl
   rotate_left
   ·simp only [Act.put, List.setIfInBounds_toArray, List.set_cons_zero, List.set_cons_succ, i64_w, i32_w]
    rfl
   refine pure_ (i := 4) (N := some 99) (v := ?_) (a' := ?_) #[true, true, true, true, true, false, true, false, false] rfl rfl (any_of HT_.out (by kernel_rfl)) (fun _ _ _ h => h) (Or.inl ⟨by rfl, ?_⟩) ?_ ?_
   rotate_left
   ·intro w'
    go_simp
    with_reducible rfl
   rotate_left
   ·simp only [Act.put, List.setIfInBounds_toArray, List.set_cons_zero, List.set_cons_succ, i64_w, i32_w]
    rfl
   refine pure_ (i := 5) (N := some 100) (v := ?_) (a' := ?_) #[true, true, true, true, true, true, true, false, false] rfl rfl (any_of HT_.out (by kernel_rfl)) (fun _ _ _ h => h) (Or.inl ⟨by rfl, ?_⟩) ?_ ?_
   rotate_left
   ·intro w'
    go_simp
    with_reducible rfl
   rotate_left
   ·simp only [Act.put, List.setIfInBounds_toArray, List.set_cons_zero, List.set_cons_succ, i64_w, i32_w]
    rfl
   exact norm_ (by simp only [putAll, Act.put, List.setIfInBounds_toArray, List.set_cons_zero, List.set_cons_succ]) (hCont (AS, cS, AP, cP, wd.heap.size) _ hW)
 rintro ⟨AS, cS, AP, cP, b⟩ wz hW
 dsimp only at hW ⊢
 obtain ⟨hbx, hbl⟩ := hW.hx b rfl
 have hbc0 := blk_cell hbx 0
 have hbf := blk_frozen hbx
 have hHeld : wz.cell? ⟨bT, 0, none⟩ = some (.slice A4 3 c4) := (Below.cell hW.hb (cell_lt2 m1)).trans m1
 refine norm_ (a' := ?_) ?_ ?_
 rotate_left
 ·simp only [putAll, Act.put, List.setIfInBounds_toArray, List.set_cons_zero, List.set_cons_succ]
  rfl
 refine last_ (i := 7) (N := none) #[true, true, true, true, true, true, true, true, false] rfl rfl (one_of HT_.out (by kernel_rfl)) (by decide) (fun K hK => ?_)
 refine skip_ (w1 := ?_) (by rfl) rfl ?_ ?_
 rotate_left
 ·go_simp
  rfl
 refine hK.out _ _ ?_
 clear hK K
 refine pure_ (i := 8) (N := some 16) (v := ?_) (a' := ?_) #[true, true, true, true, true, true, true, true, true] rfl rfl (any_of HT_.out (by kernel_rfl)) (fun _ _ _ h => h) (Or.inl ⟨by rfl, ?_⟩) ?_ ?_
 rotate_left
 ·intro w'
  go_simp
  with_reducible rfl
 rotate_left
 ·simp only [Act.put, List.setIfInBounds_toArray, List.set_cons_zero, List.set_cons_succ, i64_w, i32_w]
  rfl
 refine done_ (done_of HT_.out (by kernel_rfl)) ?_
 have hby := hW.hb.setCell (p := ⟨b, 0, none⟩) hbl (.slice AP 3 cP)
 generalize wz.setCell ⟨b, 0, none⟩ (.slice AP 3 cP) = wy at *
 have HB := Aside0.mk (HB.out.trans (hby.mono HB.out.size))
 have HT := Aside0.mk (HT.out.below hby)
 have HX := Aside0.mk (HX.out.below hby)
 clear hW hbx hbl hbc0 hbf hby m1 hW0
 (try clear hHeld)
 have m1 := blk_cell HT.out.hb 0
 go_wp2_with (fail)
 refine (tree_Make.calls (fun k => k ≠ bT) A4 c4 kTT ⟨#[97]⟩ kTT 6 wy HT.out.hv k_m1).mono ?_
 rintro e W11 ⟨v_, rfl, hv, hb⟩
 obtain ⟨A11, c11, rfl⟩ : ∃ A c, v_ = .slice A 3 c := Kd.V_slice hv
 clear m1
 have ha := below_alloc (Below.refl W11.heap.size W11) (.cells #[.slice A11 3 c11] 26)
 have hba := hb.trans (ha.mono hb.size)
 have HB := Aside0.mk (HB.out.trans (hba.mono HB.out.size))
 have HT := Aside0.mk (HT.out.below hba)
 have HX := Aside0.mk (HX.out.below hba)
 have m1 := blk_cell HT.out.hb 0
 clear hv hb ha hba
 dsimp only
 go_wp2_with (fail)
 generalize W11.alloc (.cells #[.slice A11 3 c11] 26) = W11a at *
 refine (tree_Make.calls (fun k => k ≠ bT) A4 c4 kTT ⟨#[99, 47, 100]⟩ kTT 7 W11a HT.out.hv k_m2).mono ?_
 rintro e W12 ⟨v_, rfl, hv, hb⟩
 obtain ⟨A12, c12, rfl⟩ : ∃ A c, v_ = .slice A 3 c := Kd.V_slice hv
 clear m1
 have ha := below_alloc (Below.refl W12.heap.size W12) (.cells #[.slice A12 3 c12] 26)
 have hba := hb.trans (ha.mono hb.size)
 have HB := Aside0.mk (HB.out.trans (hba.mono HB.out.size))
 have HT := Aside0.mk (HT.out.below hba)
 have HX := Aside0.mk (HX.out.below hba)
 have m1 := blk_cell HT.out.hb 0
 clear hv hb ha hba
 dsimp only
 go_wp2_with (fail)
 generalize W12.alloc (.cells #[.slice A12 3 c12] 26) = W12a at *
 refine (tree_Remove.calls (fun k => k ≠ bT) A4 c4 kTT ⟨#[97]⟩ kTT 8 W12a HT.out.hv k_r1).mono ?_
 rintro e W13 ⟨v_, rfl, hv, hb⟩
 obtain ⟨A13, c13, rfl⟩ : ∃ A c, v_ = .slice A 3 c := Kd.V_slice hv
 clear m1
 have ha := below_alloc (Below.refl W13.heap.size W13) (.cells #[.slice A13 3 c13] 26)
 have hba := hb.trans (ha.mono hb.size)
 have HB := Aside0.mk (HB.out.trans (hba.mono HB.out.size))
 have HT := Aside0.mk (HT.out.below hba)
 have HX := Aside0.mk (HX.out.below hba)
 have m1 := blk_cell HT.out.hb 0
 clear hv hb ha hba
 dsimp only
 go_wp2_with (fail)
 generalize W13.alloc (.cells #[.slice A13 3 c13] 26) = W13a at *
 refine (tree_Remove.calls (fun k => k ≠ bT) A4 c4 kTT ⟨#[113]⟩ kTT 5 W13a HT.out.hv k_r2).mono ?_
 rintro e W14 ⟨v_, rfl, hv, hb⟩
 obtain ⟨A14, c14, rfl⟩ : ∃ A c, v_ = .slice A 3 c := Kd.V_slice hv
 clear m1
 have ha := below_alloc (Below.refl W14.heap.size W14) (.cells #[.slice A14 3 c14] 26)
 have hba := hb.trans (ha.mono hb.size)
 have HB := Aside0.mk (HB.out.trans (hba.mono HB.out.size))
 have HT := Aside0.mk (HT.out.below hba)
 have HX := Aside0.mk (HX.out.below hba)
 have m1 := blk_cell HT.out.hb 0
 clear hv hb ha hba
 dsimp only
 go_wp2_with (fail)
 generalize W14.alloc (.cells #[.slice A14 3 c14] 26) = W14a at *
 refine (tree_Remove.calls (fun k => k ≠ bT) A4 c4 kTT ⟨#[97, 47, 98]⟩ kTU 0 W14a HT.out.hv k_r3).mono ?_
 rintro e W15 ⟨v_, rfl, hv, hb⟩
 obtain ⟨A15, c15, rfl⟩ : ∃ A c, v_ = .slice A 2 c := Kd.V_slice hv
 clear m1
 have ha := below_alloc (Below.refl W15.heap.size W15) (.cells #[.slice A15 2 c15] 26)
 have hba := hb.trans (ha.mono hb.size)
 have HB := Aside0.mk (HB.out.trans (hba.mono HB.out.size))
 have HT := Aside0.mk (HT.out.below hba)
 have HX := Aside0.mk (HX.out.below hba)
 have m1 := blk_cell HT.out.hb 0
 have hk := blk_new W15 (.cells #[.slice A15 2 c15] 26)
 obtain ⟨bU, hbU⟩ : ∃ b, b = W15.heap.size := ⟨_, rfl⟩
 have HU : Aside0 (TB (W15.alloc (.cells #[.slice A15 2 c15] 26)) (fun _ => True) bU (.slice A15 2 c15) kTU) := ⟨⟨by rw [hbU]; exact hk, Kd.V_mono (Kd.V_alloc (Kd.V_lower hv (Nat.zero_le _)) _) fun _ _ => trivial⟩⟩
 clear hk
 clear hv hb ha hba
 dsimp only
 go_wp2_with (fail)
 rw [← hbU]
 clear hbU
 generalize W15.alloc (.cells #[.slice A15 2 c15] 26) = W15a at *
 refine (tree_Move.calls (fun k => k ≠ bT) A4 c4 kTT ⟨#[97]⟩ ⟨#[113]⟩ kTT 7 W15a HT.out.hv k_v1).mono ?_
 rintro e W16 ⟨v_, rfl, hv, hb⟩
 obtain ⟨A16, c16, rfl⟩ : ∃ A c, v_ = .slice A 3 c := Kd.V_slice hv
 clear m1
 have ha := below_alloc (Below.refl W16.heap.size W16) (.cells #[.slice A16 3 c16] 26)
 have hba := hb.trans (ha.mono hb.size)
 have HB := Aside0.mk (HB.out.trans (hba.mono HB.out.size))
 have HT := Aside0.mk (HT.out.below hba)
 have HX := Aside0.mk (HX.out.below hba)
 have HU := Aside0.mk (HU.out.below hba)
 have m1 := blk_cell HT.out.hb 0
 clear hv hb ha hba
 dsimp only
 go_wp2_with (fail)
 generalize W16.alloc (.cells #[.slice A16 3 c16] 26) = W16a at *
 refine (tree_Move.calls (fun k => k ≠ bT) A4 c4 kTT ⟨#[97, 47, 98]⟩ ⟨#[122, 47, 121]⟩ kTT 5 W16a HT.out.hv k_v2).mono ?_
 rintro e W17 ⟨v_, rfl, hv, hb⟩
 obtain ⟨A17, c17, rfl⟩ : ∃ A c, v_ = .slice A 3 c := Kd.V_slice hv
 clear m1
 have ha := below_alloc (Below.refl W17.heap.size W17) (.cells #[.slice A17 3 c17] 26)
 have hba := hb.trans (ha.mono hb.size)
 have HB := Aside0.mk (HB.out.trans (hba.mono HB.out.size))
 have HT := Aside0.mk (HT.out.below hba)
 have HX := Aside0.mk (HX.out.below hba)
 have HU := Aside0.mk (HU.out.below hba)
 have m1 := blk_cell HT.out.hb 0
 clear hv hb ha hba
 dsimp only
 go_wp2_with (fail)
 generalize W17.alloc (.cells #[.slice A17 3 c17] 26) = W17a at *
 refine (tree_Move.calls (fun k => k ≠ bT) A4 c4 kTT ⟨#[97, 47, 98]⟩ ⟨#[99]⟩ kTO 0 W17a HT.out.hv k_v3).mono ?_
 rintro e W18 ⟨v_, rfl, hv, hb⟩
 obtain ⟨A18, c18, rfl⟩ : ∃ A c, v_ = .slice A 2 c := Kd.V_slice hv
 clear m1
 have ha := below_alloc (Below.refl W18.heap.size W18) (.cells #[.slice A18 2 c18] 26)
 have hba := hb.trans (ha.mono hb.size)
 have HB := Aside0.mk (HB.out.trans (hba.mono HB.out.size))
 have HT := Aside0.mk (HT.out.below hba)
 have HX := Aside0.mk (HX.out.below hba)
 have HU := Aside0.mk (HU.out.below hba)
 have m1 := blk_cell HT.out.hb 0
 have hk := blk_new W18 (.cells #[.slice A18 2 c18] 26)
 obtain ⟨bO, hbO⟩ : ∃ b, b = W18.heap.size := ⟨_, rfl⟩
 have HO : Aside0 (TB (W18.alloc (.cells #[.slice A18 2 c18] 26)) (fun _ => True) bO (.slice A18 2 c18) kTO) := ⟨⟨by rw [hbO]; exact hk, Kd.V_mono (Kd.V_alloc (Kd.V_lower hv (Nat.zero_le _)) _) fun _ _ => trivial⟩⟩
 clear hk
 clear hv hb ha hba
 dsimp only
 go_wp2_with (fail)
 rw [← hbO]
 clear hbO
 generalize W18.alloc (.cells #[.slice A18 2 c18] 26) = W18a at *
 refine (tree_Move.calls (fun k => k ≠ bT) A4 c4 kTT ⟨#[99]⟩ ⟨#[99]⟩ kTT 0 W18a HT.out.hv k_v4).mono ?_
 rintro e W19 ⟨v_, rfl, hv, hb⟩
 obtain ⟨A19, c19, rfl⟩ : ∃ A c, v_ = .slice A 3 c := Kd.V_slice hv
 clear m1
 have ha := below_alloc (Below.refl W19.heap.size W19) (.cells #[.slice A19 3 c19] 26)
 have hba := hb.trans (ha.mono hb.size)
 have HB := Aside0.mk (HB.out.trans (hba.mono HB.out.size))
 have HT := Aside0.mk (HT.out.below hba)
 have HX := Aside0.mk (HX.out.below hba)
 have HU := Aside0.mk (HU.out.below hba)
 have HO := Aside0.mk (HO.out.below hba)
 have m1 := blk_cell HT.out.hb 0
 have hk := blk_new W19 (.cells #[.slice A19 3 c19] 26)
 obtain ⟨bQ, hbQ⟩ : ∃ b, b = W19.heap.size := ⟨_, rfl⟩
 have HQ : Aside0 (TB (W19.alloc (.cells #[.slice A19 3 c19] 26)) (fun _ => True) bQ (.slice A19 3 c19) kTT) := ⟨⟨by rw [hbQ]; exact hk, Kd.V_mono (Kd.V_alloc (Kd.V_lower hv (Nat.zero_le _)) _) fun _ _ => trivial⟩⟩
 clear hk
 clear hv hb ha hba
 dsimp only
 go_wp2_with ((with_reducible refine gate_dst (N := 149) rfl ?_); refine Stop.out ?_)
 rw [← hbQ]
 clear hbQ
 generalize W19.alloc (.cells #[.slice A19 3 c19] 26) = W19a at *
 constructor
 go_wp2_with (fail)
 have hk := blk_new W19a (.cells #[.string ⟨#[98]⟩, .bool false, .slice none 0 0, .string ⟨#[97]⟩, .bool false, .slice none 0 0] 30)
 have ha := below_alloc (Below.refl W19a.heap.size W19a) (.cells #[.string ⟨#[98]⟩, .bool false, .slice none 0 0, .string ⟨#[97]⟩, .bool false, .slice none 0 0] 30)
 have HB := Aside0.mk (HB.out.trans (ha.mono HB.out.size))
 have HT := Aside0.mk (HT.out.below ha)
 have HX := Aside0.mk (HX.out.below ha)
 have HU := Aside0.mk (HU.out.below ha)
 have HO := Aside0.mk (HO.out.below ha)
 have HQ := Aside0.mk (HQ.out.below ha)
 clear m1
 have m1 := blk_cell HT.out.hb 0
 have hVB := V_kB hk
 obtain ⟨bL, hbL⟩ : ∃ b, b = W19a.heap.size := ⟨_, rfl⟩
 rw [← hbL] at hVB ⊢
 generalize W19a.alloc (.cells #[.string ⟨#[98]⟩, .bool false, .slice none 0 0, .string ⟨#[97]⟩, .bool false, .slice none 0 0] 30) = wl at *
 clear hk ha hbL
 refine (tree_Put.calls (fun _ => True) (some ⟨bL, 0, none⟩) 2 kTB ⟨#[113]⟩ none 0 [] kTB 1 wl hVB (C_nil1 _ _) (Nat.le_refl _) k_p7).mono ?_
 rintro e W20 ⟨v_, rfl, hv, hb⟩
 obtain ⟨A20, c20, rfl⟩ : ∃ A c, v_ = .slice A 2 c := Kd.V_slice hv
 have ha := below_alloc (Below.refl W20.heap.size W20) (.cells #[.slice A20 2 c20] 26)
 have hba := hb.trans (ha.mono hb.size)
 have HB := Aside0.mk (HB.out.trans (hba.mono HB.out.size))
 have HT := Aside0.mk (HT.out.below hba)
 have HX := Aside0.mk (HX.out.below hba)
 have HU := Aside0.mk (HU.out.below hba)
 have HO := Aside0.mk (HO.out.below hba)
 have HQ := Aside0.mk (HQ.out.below hba)
 clear m1 hVB hv hb ha hba
 dsimp only
 go_wp2_with ((with_reducible refine gate_dst (N := 37) rfl ?_); refine Stop.out ?_)
 generalize W20.alloc (.cells #[.slice A20 2 c20] 26) = W20a at *
 constructor
 have hk := blk_new W20a (.cells #[.slice none 0 0] 26)
 have ha := below_alloc (Below.refl W20a.heap.size W20a) (.cells #[.slice none 0 0] 26)
 obtain ⟨bF, hbF⟩ : ∃ b, b = W20a.heap.size := ⟨_, rfl⟩
 have HT := Aside0.mk HT.out.bound
 have HX := Aside0.mk HX.out.bound
 have HU := Aside0.mk HU.out.bound
 have HO := Aside0.mk HO.out.bound
 have HQ := Aside0.mk HQ.out.bound
 have HLF_HT : Aside0 (bT < bF) := ⟨by rw [hbF]; exact HT.out.lt⟩
 have HLF_HX : Aside0 (bX < bF) := ⟨by rw [hbF]; exact HX.out.lt⟩
 have HLF_HU : Aside0 (bU < bF) := ⟨by rw [hbF]; exact HU.out.lt⟩
 have HLF_HO : Aside0 (bO < bF) := ⟨by rw [hbF]; exact HO.out.lt⟩
 have HLF_HQ : Aside0 (bQ < bF) := ⟨by rw [hbF]; exact HQ.out.lt⟩
 have HWF : Aside0 (W.heap.size ≤ bF) := ⟨by rw [hbF]; exact HB.out.size⟩
 have HB := Aside0.mk (HB.out.trans (ha.mono HB.out.size))
 have HT := Aside0.mk (HT.out.below ha)
 have HX := Aside0.mk (HX.out.below ha)
 have HU := Aside0.mk (HU.out.below ha)
 have HO := Aside0.mk (HO.out.below ha)
 have HQ := Aside0.mk (HQ.out.below ha)
 have HF : Aside0 (TB (W20a.alloc (.cells #[.slice none 0 0] 26)) (fun k => k ≠ bF) bF (.slice none 0 0) []) := ⟨⟨by rw [hbF]; exact hk, V_nil1 _ _ _⟩⟩
 rw [← hbF] at HT HX HU HO HQ
 clear hk ha
 go_wp2_with (fail)
 rw [← hbF]
 clear hbF
 generalize W20a.alloc (.cells #[.slice none 0 0] 26) = wn at *
 go_loopg [39, 40, 41, 155, 156, 157, 158, 159, 160, 161, 162, 163, 164, 165, 166, 167, 168, 169, 170, 171] 38 (fun gg s39 _ _ _ _ _ _ _ _ _ _ _ _ _ _ _ _ _ _ _ wr => ∃ (i : Nat) (l : List S30) (A : Option Addr) (c : Nat), i ≤ 38 ∧ gg = 38 - i ∧ s39 = .int .i64 i ∧ TB wr (fun k => k ≠ bF) bF (.slice A l.length c) l ∧ Fn i l ∧ Kept wn wr (fun k => k = bF) ∧ Below W.heap.size W wr)
 case atStart => exact ⟨0, [], none, 0, Nat.zero_le _, rfl, rfl, HF.out, Fn_nil, Kept.refl _ _, HB.out⟩
 case round =>
  clear HF
  obtain ⟨i, l, Al, cl, hi, rfl, rfl, hF, hN, hKn, hBn⟩ := hrel
  have HF := Aside0.mk hF
  have HN := Aside0.mk hN
  have HKN := Aside0.mk hKn
  have HBR := Aside0.mk hBn
  clear hF hN hKn hBn
  by_cases a : i < 38
  ·have a1 : decide ((i : Int) < 38) = true := decide_eq_true (by omega)
   have HMS : Aside0 (38 - (i + 1) < 38 - i ∧ i + 1 ≤ 38) := ⟨by omega⟩
   obtain ⟨hmk, hFn⟩ := Fn_step HN.out a
   have hcut : nmS.extract ((i : Int)).toNat (wrap64 ((i : Int) + 1)).toNat = nmI i := by rw [wr1 (by omega), Int.toNat_natCast, Int.toNat_natCast]; exact nm_cut i a
   have q1 : decide (0 ≤ (i : Int)) = true := decide_eq_true (by omega)
   have q2 : decide ((i : Int) ≤ wrap64 ((i : Int) + 1)) = true := decide_eq_true (by rw [wr1 (by omega)]; omega)
   have q3 : decide (wrap64 ((i : Int) + 1) ≤ 38) = true := decide_eq_true (by rw [wr1 (by omega)]; omega)
   have q1' : (0 ≤ (i : Int)) = True := eq_true (by omega)
   have q2' : ((i : Int) ≤ wrap64 ((i : Int) + 1)) = True := eq_true (by rw [wr1 (by omega)]; omega)
   have q3' : (wrap64 ((i : Int) + 1) ≤ 38) = True := eq_true (by rw [wr1 (by omega)]; omega)
   have hwi0 : wrap64 ((i : Int) + 1) = ((i + 1 : Nat) : Int) := wr1 (by omega)
   have HWI := Aside0.mk hwi0
   clear hwi0
   have HMK := Aside0.mk hmk
   have HFN := Aside0.mk hFn
   have HCUT := Aside0.mk hcut
   clear hmk hFn hcut
   go_wp2_with (fail)
   have HFd := Aside0.mk (HF.out.below (below_drew (Below.refl wr.heap.size wr)))
   have HKd : Aside0 (Kept wn wr.drew (fun k => k = bF)) := ⟨HKN.out.drew⟩
   have HBd : Aside0 (Below W.heap.size W wr.drew) := ⟨HBR.out.drew⟩
   have hVd := Kd.V_bound HFd.out.hv
   have hPf : ∀ k, wr.drew.heap.size ≤ k → k ≠ bF := fun k hk => by have := HFd.out.lt; omega
   have m1 := blk_cell HFd.out.hb 0
   refine start_ (n := 13) (S := fun w' => w'.cell? ⟨bF, 0, none⟩ = some (.slice Al l.length cl)) (ds := [11]) #[false, false, false, false, false, false, false, false, false, false, false, false, false] (by kernel_rfl) rfl rfl (m1) (fun hHeld => ?_)
   refine with_tabW tKn.tab28 tKn.bits28 (fun HT_ HW_ => ?_)
   generalize wr.drew = wd at HFd HKd HBd hVd hPf m1 hHeld ⊢
   refine pure_ (i := 1) (N := some 161) (v := ?_) (a' := ?_) #[false, true, false, false, false, false, false, false, false, false, false, false, false] rfl rfl (any_of HT_.out (by kernel_rfl)) (fun _ _ _ h => h) (Or.inl ⟨by rfl, ?_⟩) ?_ ?_
   rotate_left
   ·intro w'
    go_simp
    with_reducible rfl
   rotate_left
   ·simp only [Act.put, List.setIfInBounds_toArray, List.set_cons_zero, List.set_cons_succ, i64_w, i32_w]
    rfl
   refine pure_ (i := 2) (N := some 162) (v := ?_) (a' := ?_) #[false, true, true, false, false, false, false, false, false, false, false, false, false] rfl rfl (any_of HT_.out (by kernel_rfl)) (fun _ _ _ h => h) (Or.inl ⟨by rfl, ?_⟩) ?_ ?_
   rotate_left
   ·intro w'
    go_simp
    with_reducible rfl
   rotate_left
   ·simp only [Act.put, List.setIfInBounds_toArray, List.set_cons_zero, List.set_cons_succ, i64_w, i32_w]
    rfl
   refine pure_ (i := 3) (N := some 163) (v := ?_) (a' := ?_) #[false, true, true, true, false, false, false, false, false, false, false, false, false] rfl rfl (any_of HT_.out (by kernel_rfl)) (fun _ _ _ h => h) (Or.inl ⟨by rfl, ?_⟩) ?_ ?_
   rotate_left
   ·intro w'
    go_simp
    with_reducible rfl
   rotate_left
   ·simp only [Act.put, List.setIfInBounds_toArray, List.set_cons_zero, List.set_cons_succ, i64_w, i32_w]
    rfl
   refine pure_ (i := 4) (N := some 164) (v := ?_) (a' := ?_) #[false, true, true, true, true, false, false, false, false, false, false, false, false] rfl rfl (any_of HT_.out (by kernel_rfl)) (fun _ _ _ h => h) (Or.inl ⟨by rfl, ?_⟩) ?_ ?_
   rotate_left
   ·intro w'
    go_simp
    with_reducible rfl
   rotate_left
   ·simp only [Act.put, List.setIfInBounds_toArray, List.set_cons_zero, List.set_cons_succ, i64_w, i32_w]
    rfl
   refine pure_ (i := 5) (N := some 165) (v := ?_) (a' := ?_) #[false, true, true, true, true, true, false, false, false, false, false, false, false] rfl rfl (any_of HT_.out (by kernel_rfl)) (fun _ _ _ h => h) (Or.inl ⟨by rfl, ?_⟩) ?_ ?_
   rotate_left
   ·intro w'
    go_simp
    with_reducible rfl
   rotate_left
   ·simp only [Act.put, List.setIfInBounds_toArray, List.set_cons_zero, List.set_cons_succ, i64_w, i32_w]
    rfl
   refine take_ (i := 0) (N := some 160) (v := ?_) (a' := ?_) #[true, true, true, true, true, true, false, false, false, false, false, false, false] rfl rfl (take_ofW HT_.out HW_.out (by kernel_rfl)) (fun _ _ _ h => h) (Or.inl ⟨by rfl, ?_⟩) hHeld ?_ ?_
   rotate_left
   ·intro w' s0
    go_simp
    with_reducible rfl
   rotate_left
   ·simp only [Act.put, List.setIfInBounds_toArray, List.set_cons_zero, List.set_cons_succ, i64_w, i32_w]
    rfl
   refine join_ (σ := Value × Nat) 2 #[true, true, true, true, true, true, true, true, true, true, true, false, false] (fun s_ => [(166, .tuple #[.agg #[s_.1], .int .i64 0]), (159, .tuple #[.agg #[s_.1], .int .i64 0]), (167, .agg #[s_.1]), (168, .int .i64 0), (40, .pointer (some ⟨s_.2, 0, none⟩))]) (fun s_ w' => MkV (fun k => k ≠ bF) wd w' (some s_.2) s_.1 (insT l (nmI i) true [])) ?_ ?_
   rotate_left
   ·intro hCont
    refine two_ (i := 6) (j := 10) (Ni := some 166) (Nj := some 40) #[true, true, true, true, true, true, true, false, false, false, false, false, false] #[true, true, true, true, true, true, false, false, false, false, true, false, false] rfl rfl rfl rfl (two_of HT_.out (by kernel_rfl)) (by decide) (by decide) (fun K hK => ?_) (fun K hK => ?_)
    ·skip
     refine goes_ Tryd.func18 (by kernel_rfl) rfl #[.agg #[.slice Al l.length cl], .string (nmS.extract ((i : Int)).toNat (wrap64 ((i : Int) + 1)).toNat)] (by rfl) rfl rfl (by simp only [List.map_toArray, List.map_cons, List.map_nil]; rfl) ?_
     with_reducible refine (Mk0 (P := fun k => k ≠ bF) (p := (nmS.extract ((i : Int)).toNat (wrap64 ((i : Int) + 1)).toNat)) (by rw [show (nmS.extract ((i : Int)).toNat (wrap64 ((i : Int) + 1)).toNat) = nmI i from HCUT.out]; exact HMK.out) hPf hVd).mono ?_
     rintro e wA ⟨vA, rfl, hW⟩
     refine ⟨_, rfl, ?_⟩
     refine hK.out _ _ ((Below.cell hW.hb (cell_lt2 m1)).trans m1) (fun hHeld => ?_)
     clear hK K
     refine norm_ (a' := ?_) ?_ ?_
     rotate_left
     ·show Act.put _ (some 166) _ = _
      simp only [Act.put, List.setIfInBounds_toArray, List.set_cons_zero, List.set_cons_succ, i64_w, i32_w]
      rfl
     refine pure_ (i := 7) (N := some 159) (v := ?_) (a' := ?_) #[true, true, true, true, true, true, true, true, false, false, false, false, false] rfl rfl (any_of HT_.out (by kernel_rfl)) (fun _ _ _ h => h) (Or.inl ⟨by rfl, ?_⟩) ?_ ?_
     rotate_left
     ·intro w'
      go_simp
      with_reducible rfl
     rotate_left
     ·simp only [Act.put, List.setIfInBounds_toArray, List.set_cons_zero, List.set_cons_succ, i64_w, i32_w]
      rfl
     refine pure_ (i := 8) (N := some 167) (v := ?_) (a' := ?_) #[true, true, true, true, true, true, true, true, true, false, false, false, false] rfl rfl (any_of HT_.out (by kernel_rfl)) (fun _ _ _ h => h) (Or.inl ⟨by rfl, ?_⟩) ?_ ?_
     rotate_left
     ·intro w'
      go_simp
      with_reducible rfl
     rotate_left
     ·simp only [Act.put, List.setIfInBounds_toArray, List.set_cons_zero, List.set_cons_succ, i64_w, i32_w]
      rfl
     refine pure_ (i := 9) (N := some 168) (v := ?_) (a' := ?_) #[true, true, true, true, true, true, true, true, true, true, false, false, false] rfl rfl (any_of HT_.out (by kernel_rfl)) (fun _ _ _ h => h) (Or.inl ⟨by rfl, ?_⟩) ?_ ?_
     rotate_left
     ·intro w'
      go_simp
      with_reducible rfl
     rotate_left
     ·simp only [Act.put, List.setIfInBounds_toArray, List.set_cons_zero, List.set_cons_succ, i64_w, i32_w]
      rfl
     refine one_ (i := 10) (N := some 40) #[true, true, true, true, true, true, true, true, true, true, true, false, false] rfl rfl (one_of HT_.out (by kernel_rfl)) (by decide) (fun K hK => ?_)
     refine value_ (w1 := ?_) (v := ?_) (by rfl) rfl ?_ ?_
     rotate_left 2
     ·go_simp
      constructor
      ·rfl
      ·rfl
     replace hW := hW.alloc
     refine hK.out _ _ ((Below.cell hW.hb (cell_lt2 m1)).trans m1) (fun hHeld => ?_)
     clear hK K
     refine norm_ (a' := ?_) ?_ ?_
     rotate_left
     ·show Act.put _ (some 40) _ = _
      simp only [Act.put, List.setIfInBounds_toArray, List.set_cons_zero, List.set_cons_succ, i64_w, i32_w]
      rfl
     exact norm_ (by simp only [putAll, Act.put, List.setIfInBounds_toArray, List.set_cons_zero, List.set_cons_succ]) (hCont (vA, wA.heap.size) _ hW)
    ·skip
     refine value_ (w1 := ?_) (v := ?_) (by rfl) rfl ?_ ?_
     rotate_left 2
     ·go_simp
      constructor
      ·rfl
      ·rfl
     have hb0 := below_alloc (Below.refl wd.heap.size wd) (.cells #[.slice none 0 0] 26)
     refine hK.out _ _ ((Below.cell hb0 (cell_lt2 m1)).trans m1) (fun hHeld => ?_)
     clear hK K
     refine norm_ (a' := ?_) ?_ ?_
     rotate_left
     ·show Act.put _ (some 40) _ = _
      simp only [Act.put, List.setIfInBounds_toArray, List.set_cons_zero, List.set_cons_succ, i64_w, i32_w]
      rfl
     refine one_ (i := 6) (N := some 166) #[true, true, true, true, true, true, true, false, false, false, true, false, false] rfl rfl (one_of HT_.out (by kernel_rfl)) (by decide) (fun K hK => ?_)
     refine goes_ Tryd.func18 (by kernel_rfl) rfl #[.agg #[.slice Al l.length cl], .string (nmS.extract ((i : Int)).toNat (wrap64 ((i : Int) + 1)).toNat)] (by rfl) rfl rfl (by simp only [List.map_toArray, List.map_cons, List.map_nil]; rfl) ?_
     with_reducible refine (Mk1 (P := fun k => k ≠ bF) (p := (nmS.extract ((i : Int)).toNat (wrap64 ((i : Int) + 1)).toNat)) (by rw [show (nmS.extract ((i : Int)).toNat (wrap64 ((i : Int) + 1)).toNat) = nmI i from HCUT.out]; exact HMK.out) hPf hVd).mono ?_
     rintro e wA ⟨vA, rfl, hW⟩
     refine ⟨_, rfl, ?_⟩
     refine hK.out _ _ ((Below.cell hW.hb (cell_lt2 m1)).trans m1) (fun hHeld => ?_)
     clear hK K
     refine norm_ (a' := ?_) ?_ ?_
     rotate_left
     ·show Act.put _ (some 166) _ = _
      simp only [Act.put, List.setIfInBounds_toArray, List.set_cons_zero, List.set_cons_succ, i64_w, i32_w]
      rfl
     refine pure_ (i := 7) (N := some 159) (v := ?_) (a' := ?_) #[true, true, true, true, true, true, true, true, false, false, true, false, false] rfl rfl (any_of HT_.out (by kernel_rfl)) (fun _ _ _ h => h) (Or.inl ⟨by rfl, ?_⟩) ?_ ?_
     rotate_left
     ·intro w'
      go_simp
      with_reducible rfl
     rotate_left
     ·simp only [Act.put, List.setIfInBounds_toArray, List.set_cons_zero, List.set_cons_succ, i64_w, i32_w]
      rfl
     refine pure_ (i := 8) (N := some 167) (v := ?_) (a' := ?_) #[true, true, true, true, true, true, true, true, true, false, true, false, false] rfl rfl (any_of HT_.out (by kernel_rfl)) (fun _ _ _ h => h) (Or.inl ⟨by rfl, ?_⟩) ?_ ?_
     rotate_left
     ·intro w'
      go_simp
      with_reducible rfl
     rotate_left
     ·simp only [Act.put, List.setIfInBounds_toArray, List.set_cons_zero, List.set_cons_succ, i64_w, i32_w]
      rfl
     refine pure_ (i := 9) (N := some 168) (v := ?_) (a' := ?_) #[true, true, true, true, true, true, true, true, true, true, true, false, false] rfl rfl (any_of HT_.out (by kernel_rfl)) (fun _ _ _ h => h) (Or.inl ⟨by rfl, ?_⟩) ?_ ?_
     rotate_left
     ·intro w'
      go_simp
      with_reducible rfl
     rotate_left
     ·simp only [Act.put, List.setIfInBounds_toArray, List.set_cons_zero, List.set_cons_succ, i64_w, i32_w]
      rfl
     exact norm_ (by simp only [putAll, Act.put, List.setIfInBounds_toArray, List.set_cons_zero, List.set_cons_succ]) (hCont (vA, wd.heap.size) _ hW)
   rintro ⟨vA, b⟩ wz hW
   dsimp only at hW ⊢
   obtain ⟨hbx, hbl⟩ := hW.hx b rfl
   have hbc := blk_cell hbx 0
   have hbf := blk_frozen hbx 0
   have hHeld : wz.cell? ⟨bF, 0, none⟩ = some (.slice Al l.length cl) := (Below.cell hW.hb (cell_lt2 m1)).trans m1
   obtain ⟨A6, c6, rfl, hV6⟩ := hW.hV
   refine norm_ (a' := ?_) ?_ ?_
   rotate_left
   ·simp only [putAll, Act.put, List.setIfInBounds_toArray, List.set_cons_zero, List.set_cons_succ]
    rfl
   refine last_ (i := 11) (N := none) #[true, true, true, true, true, true, true, true, true, true, true, true, false] rfl rfl (one_of HT_.out (by kernel_rfl)) (by decide) (fun K hK => ?_)
   refine skip_ (w1 := ?_) (by rfl) rfl ?_ ?_
   rotate_left
   ·go_simp
    rfl
   refine hK.out _ _ ?_
   clear hK K
   refine pure_ (i := 12) (N := some 41) (v := ?_) (a' := ?_) #[true, true, true, true, true, true, true, true, true, true, true, true, true] rfl rfl (any_of HT_.out (by kernel_rfl)) (fun _ _ _ h => h) (Or.inl ⟨by rfl, ?_⟩) ?_ ?_
   rotate_left
   ·intro w'
    go_simp
    with_reducible rfl
   rotate_left
   ·simp only [Act.put, List.setIfInBounds_toArray, List.set_cons_zero, List.set_cons_succ, i64_w, i32_w]
    rfl
   refine done_ (done_of HT_.out (by kernel_rfl)) ?_
   have hby := hW.hb.setCell (p := ⟨b, 0, none⟩) hbl (.slice A6 (insT l (nmI i) true []).length c6)
   have hVy := Kd.V_far (p := ⟨b, 0, none⟩) hW.hV (fun k hk e => hk.2 (by rw [show k = b from e])) (.slice A6 (insT l (nmI i) true []).length c6)
   have hky := blk_put hbx 0 (.slice A6 (insT l (nmI i) true []).length c6) (cs' := #[(.slice A6 (insT l (nmI i) true []).length c6)]) rfl
   generalize wz.setCell ⟨b, 0, none⟩ (.slice A6 (insT l (nmI i) true []).length c6) = wy2 at *
   have hFy := HFd.out.below hby
   have m40 := blk_cell hky 0
   have m37 := blk_cell hFy.hb 0
   have f37 := blk_frozen hFy.hb 0
   have HFz := Aside0.mk (hFy.put (Kd.V_mono hVy fun k hk => hk.1))
   have HKz := Aside0.mk (Kept.setCell (p := ⟨bF, 0, none⟩) (HKd.out.below hby) (.inl rfl) (.slice A6 (insT l (nmI i) true []).length c6))
   have HBz := Aside0.mk ((HBd.out.trans (hby.mono HBd.out.size)).setCell (p := ⟨bF, 0, none⟩) HWF.out (.slice A6 (insT l (nmI i) true []).length c6))
   have hwi := HWI.out
   clear hW hbx hbl hbc hbf hby hVy hky hFy hVd hPf m1 hV6 q1 q2 q3 q1' q2' q3'
   (try clear hHeld)
   go_wp2_with (fail)
   go_roundg (38 - (i + 1))
   case measure => exact HMS.out.1
   case rel => exact ⟨i + 1, _, A6, c6, HMS.out.2, rfl, by first | rfl | rw [hwi], HFz.out, HFN.out, HKz.out, HBz.out⟩
  ·have a1 : decide ((i : Int) < 38) = false := decide_eq_false (by omega)
   obtain rfl : i = 38 := by omega
   obtain ⟨l1, l2, e1, e2, e3, hl2⟩ := Fn_last HN.out
   have HT := Aside0.mk (HT.out.kept HKN.out (Nat.ne_of_lt HLF_HT.out) fun k h => Nat.ne_of_lt h)
   have HX := Aside0.mk (HX.out.kept HKN.out (Nat.ne_of_lt HLF_HX.out) fun k h => Nat.ne_of_lt h)
   have HU := Aside0.mk (HU.out.kept HKN.out (Nat.ne_of_lt HLF_HU.out) fun k h => Nat.ne_of_lt h)
   have HO := Aside0.mk (HO.out.kept HKN.out (Nat.ne_of_lt HLF_HO.out) fun k h => Nat.ne_of_lt h)
   have HQ := Aside0.mk (HQ.out.kept HKN.out (Nat.ne_of_lt HLF_HQ.out) fun k h => Nat.ne_of_lt h)
   have HB := Aside0.mk HBR.out
   have m1 := blk_cell HT.out.hb 0
   have mX := blk_cell HF.out.hb 0
   have HE1 := Aside0.mk e1
   have HE2 := Aside0.mk e2
   have HE3 := Aside0.mk e3
   have HL2 := Aside0.mk hl2
   clear e1 e2 e3 hl2 HKN HBR
   go_wp2_with (fail)
   clear mX
   refine (tree_Make.calls (fun k => k ≠ bF) Al cl l ⟨#[97, 46, 98]⟩ l1 0 wr HF.out.hv HE1.out).mono ?_
   rintro e W21 ⟨v_, rfl, hv, hb⟩
   obtain ⟨A21, c21, rfl⟩ : ∃ A c, v_ = .slice A l1.length c := Kd.V_slice hv
   have hlt := HF.out.lt
   clear m1
   have HB := Aside0.mk ((HB.out.trans (hb.mono HB.out.size)).setCell (p := ⟨bF, 0, none⟩) HWF.out (.slice A21 l1.length c21))
   have hX := HF.out.below hb
   have f1 := blk_frozen hX.hb 0
   have m0 := blk_cell hX.hb 0
   have HF := Aside0.mk (hX.put (Kd.V_mono (Kd.V_lower hv (Nat.zero_le _)) fun k h => h.elim id fun h => by omega : Kd.V k30 30 _ 0 (fun k => k ≠ bF) (.slice A21 l1.length c21) l1))
   have HT := Aside0.mk ((HT.out.below hb).kept (Kept.setCell (p := ⟨bF, 0, none⟩) (Kept.refl _ (fun k => k = bF)) (.inl rfl) (.slice A21 l1.length c21)) (Nat.ne_of_lt HLF_HT.out) fun k h => Nat.ne_of_lt h)
   have HX := Aside0.mk ((HX.out.below hb).kept (Kept.setCell (p := ⟨bF, 0, none⟩) (Kept.refl _ (fun k => k = bF)) (.inl rfl) (.slice A21 l1.length c21)) (Nat.ne_of_lt HLF_HX.out) fun k h => Nat.ne_of_lt h)
   have HU := Aside0.mk ((HU.out.below hb).kept (Kept.setCell (p := ⟨bF, 0, none⟩) (Kept.refl _ (fun k => k = bF)) (.inl rfl) (.slice A21 l1.length c21)) (Nat.ne_of_lt HLF_HU.out) fun k h => Nat.ne_of_lt h)
   have HO := Aside0.mk ((HO.out.below hb).kept (Kept.setCell (p := ⟨bF, 0, none⟩) (Kept.refl _ (fun k => k = bF)) (.inl rfl) (.slice A21 l1.length c21)) (Nat.ne_of_lt HLF_HO.out) fun k h => Nat.ne_of_lt h)
   have HQ := Aside0.mk ((HQ.out.below hb).kept (Kept.setCell (p := ⟨bF, 0, none⟩) (Kept.refl _ (fun k => k = bF)) (.inl rfl) (.slice A21 l1.length c21)) (Nat.ne_of_lt HLF_HQ.out) fun k h => Nat.ne_of_lt h)
   have m1 := blk_cell HT.out.hb 0
   have mX := blk_cell HF.out.hb 0
   clear hX hv hb hlt
   dsimp only
   go_wp2_with (fail)
   generalize W21.setCell ⟨bF, 0, none⟩ (.slice A21 l1.length c21) = W21a at *
   clear f1 m0 mX
   refine (tree_Make.calls (fun k => k ≠ bF) A21 c21 l1 ⟨#[97, 46, 99]⟩ l2 0 W21a HF.out.hv HE2.out).mono ?_
   rintro e W22 ⟨v_, rfl, hv, hb⟩
   obtain ⟨A22, c22, rfl⟩ : ∃ A c, v_ = .slice A l2.length c := Kd.V_slice hv
   have hlt := HF.out.lt
   clear m1
   have HB := Aside0.mk ((HB.out.trans (hb.mono HB.out.size)).setCell (p := ⟨bF, 0, none⟩) HWF.out (.slice A22 l2.length c22))
   have hX := HF.out.below hb
   have f1 := blk_frozen hX.hb 0
   have m0 := blk_cell hX.hb 0
   have HF := Aside0.mk (hX.put (Kd.V_mono (Kd.V_lower hv (Nat.zero_le _)) fun k h => h.elim id fun h => by omega : Kd.V k30 30 _ 0 (fun k => k ≠ bF) (.slice A22 l2.length c22) l2))
   have HT := Aside0.mk ((HT.out.below hb).kept (Kept.setCell (p := ⟨bF, 0, none⟩) (Kept.refl _ (fun k => k = bF)) (.inl rfl) (.slice A22 l2.length c22)) (Nat.ne_of_lt HLF_HT.out) fun k h => Nat.ne_of_lt h)
   have HX := Aside0.mk ((HX.out.below hb).kept (Kept.setCell (p := ⟨bF, 0, none⟩) (Kept.refl _ (fun k => k = bF)) (.inl rfl) (.slice A22 l2.length c22)) (Nat.ne_of_lt HLF_HX.out) fun k h => Nat.ne_of_lt h)
   have HU := Aside0.mk ((HU.out.below hb).kept (Kept.setCell (p := ⟨bF, 0, none⟩) (Kept.refl _ (fun k => k = bF)) (.inl rfl) (.slice A22 l2.length c22)) (Nat.ne_of_lt HLF_HU.out) fun k h => Nat.ne_of_lt h)
   have HO := Aside0.mk ((HO.out.below hb).kept (Kept.setCell (p := ⟨bF, 0, none⟩) (Kept.refl _ (fun k => k = bF)) (.inl rfl) (.slice A22 l2.length c22)) (Nat.ne_of_lt HLF_HO.out) fun k h => Nat.ne_of_lt h)
   have HQ := Aside0.mk ((HQ.out.below hb).kept (Kept.setCell (p := ⟨bF, 0, none⟩) (Kept.refl _ (fun k => k = bF)) (.inl rfl) (.slice A22 l2.length c22)) (Nat.ne_of_lt HLF_HQ.out) fun k h => Nat.ne_of_lt h)
   have m1 := blk_cell HT.out.hb 0
   have mX := blk_cell HF.out.hb 0
   clear hX hv hb hlt
   dsimp only
   go_wp2_with (fail)
   generalize W22.setCell ⟨bF, 0, none⟩ (.slice A22 l2.length c22) = W22a at *
   clear f1 m0 mX
   refine (tree_Make.calls (fun k => k ≠ bF) A22 c22 l2 ⟨#[97, 46, 100]⟩ l2 9 W22a HF.out.hv HE3.out).mono ?_
   rintro e W23 ⟨v_, rfl, hv, hb⟩
   obtain ⟨A23, c23, rfl⟩ : ∃ A c, v_ = .slice A l2.length c := Kd.V_slice hv
   clear m1
   have ha := below_alloc (Below.refl W23.heap.size W23) (.cells #[.slice A23 l2.length c23] 26)
   have hba := hb.trans (ha.mono hb.size)
   have HB := Aside0.mk (HB.out.trans (hba.mono HB.out.size))
   have HT := Aside0.mk (HT.out.below hba)
   have HX := Aside0.mk (HX.out.below hba)
   have HU := Aside0.mk (HU.out.below hba)
   have HO := Aside0.mk (HO.out.below hba)
   have HQ := Aside0.mk (HQ.out.below hba)
   have HF := Aside0.mk (HF.out.below hba)
   have m1 := blk_cell HT.out.hb 0
   clear hv hb ha hba
   dsimp only
   go_wp2_with (fail)
   generalize W23.alloc (.cells #[.slice A23 l2.length c23] 26) = W23a at *
   have HB_ := Aside0.mk HB.out
   refine (tree_Make.calls (fun k => k < bF) A4 c4 kTT ⟨#[46, 119, 111, 114, 107]⟩ kW1 0 W23a HT.out.hv k_w1).mono ?_
   rintro e W24 ⟨v_, rfl, hv, hb⟩
   obtain ⟨A24, c24, rfl⟩ : ∃ A c, v_ = .slice A 4 c := Kd.V_slice hv
   clear m1
   have hk := blk_new W24 (.cells #[.slice A24 4 c24] 26)
   have ha := below_alloc (Below.refl W24.heap.size W24) (.cells #[.slice A24 4 c24] 26)
   obtain ⟨bK, hbK⟩ : ∃ b, b = W24.heap.size := ⟨_, rfl⟩
   have HB := Aside0.mk (HB.out.trans (hb.mono HB.out.size))
   have HT := Aside0.mk (HT.out.below hb).bound
   have HX := Aside0.mk (HX.out.below hb).bound
   have HU := Aside0.mk (HU.out.below hb).bound
   have HO := Aside0.mk (HO.out.below hb).bound
   have HQ := Aside0.mk (HQ.out.below hb).bound
   have HF := Aside0.mk (HF.out.below hb).bound
   have HLK_HT : Aside0 (bT < bK) := ⟨by rw [hbK]; exact HT.out.lt⟩
   have HLK_HX : Aside0 (bX < bK) := ⟨by rw [hbK]; exact HX.out.lt⟩
   have HLK_HU : Aside0 (bU < bK) := ⟨by rw [hbK]; exact HU.out.lt⟩
   have HLK_HO : Aside0 (bO < bK) := ⟨by rw [hbK]; exact HO.out.lt⟩
   have HLK_HQ : Aside0 (bQ < bK) := ⟨by rw [hbK]; exact HQ.out.lt⟩
   have HLK_HF : Aside0 (bF < bK) := ⟨by rw [hbK]; exact HF.out.lt⟩
   have HWK : Aside0 (W.heap.size ≤ bK) := ⟨by rw [hbK]; exact HB.out.size⟩
   have HB := Aside0.mk (HB.out.trans (ha.mono HB.out.size))
   have HT := Aside0.mk (HT.out.below ha)
   have HX := Aside0.mk (HX.out.below ha)
   have HU := Aside0.mk (HU.out.below ha)
   have HO := Aside0.mk (HO.out.below ha)
   have HQ := Aside0.mk (HQ.out.below ha)
   have HF := Aside0.mk (HF.out.below ha)
   have HK : Aside0 (TB (W24.alloc (.cells #[.slice A24 4 c24] 26)) (fun k => k ≠ bK) bK (.slice A24 4 c24) kW1) := ⟨⟨by rw [hbK]; exact hk, Kd.V_mono (Kd.V_alloc (Kd.V_elderB (Kd.V_lower hv (Nat.zero_le _)) W24.heap.size (Nat.le_refl _)) _) fun k h => by rw [hbK]; exact h.2⟩⟩
   rw [← hbK] at HT HX HU HO HQ HF
   have m1 := blk_cell HT.out.hb 0
   have mX := blk_cell HK.out.hb 0
   rw [hbK] at mX
   clear hk ha hv hb
   dsimp only
   go_wp2_with ((with_reducible refine gate_dst (N := 194) rfl ?_); refine Stop.out ?_)
   rw [← hbK] at mX ⊢
   clear hbK
   generalize W24.alloc (.cells #[.slice A24 4 c24] 26) = wk at *
   constructor
   go_wp2_with ((with_reducible refine gate_dst (N := 195) rfl ?_); refine V_mlit (xs := [122]) (n := 1) (N := 195) ?hg ?hd (.tmp 194) (t := 23) (e := 5) rfl rfl Tryd.underlying23 Tryd.underlying5 rfl rfl (by decide) ?_; (case hd => rfl); (case hg => rfl); intro v_ W25 hv bx hg_ hnew; refine Stop.out ?_)
   obtain ⟨AL, cL, rfl⟩ : ∃ A c, v_ = .slice A 1 c := Kd.V_slice hv
   have HLC := Aside0.mk (Kd.V_reads' hv)
   have HB := Aside0.mk (HB.out.trans (bx.mono HB.out.size))
   have HT := Aside0.mk (HT.out.below bx)
   have HX := Aside0.mk (HX.out.below bx)
   have HU := Aside0.mk (HU.out.below bx)
   have HO := Aside0.mk (HO.out.below bx)
   have HQ := Aside0.mk (HQ.out.below bx)
   have HF := Aside0.mk (HF.out.below bx)
   have HK := Aside0.mk (HK.out.below bx)
   clear hv bx hg_ hnew m1 mX
   have m1 := blk_cell HT.out.hb 0
   have mX := blk_cell HK.out.hb 0
   constructor
   go_wp2_with (fail)
   clear mX
   refine (tree_Put.calls (fun k => k ≠ bK) A24 c24 kW1 ⟨#[46, 119, 111, 114, 107, 47, 116, 49]⟩ AL cL [122] kW2 0 W25 HK.out.hv HLC.out.2.2 HLC.out.2.1 k_w2).mono ?_
   rintro e W26 ⟨v_, rfl, hv, hb⟩
   obtain ⟨A26, c26, rfl⟩ : ∃ A c, v_ = .slice A 5 c := Kd.V_slice hv
   have hlt := HK.out.lt
   clear m1
   have HB := Aside0.mk ((HB.out.trans (hb.mono HB.out.size)).setCell (p := ⟨bK, 0, none⟩) HWK.out (.slice A26 5 c26))
   have hX := HK.out.below hb
   have f1 := blk_frozen hX.hb 0
   have m0 := blk_cell hX.hb 0
   have HK := Aside0.mk (hX.put (Kd.V_mono (Kd.V_lower hv (Nat.zero_le _)) fun k h => h.elim id fun h => by omega : Kd.V k30 30 _ 0 (fun k => k ≠ bK) (.slice A26 5 c26) kW2))
   have HT := Aside0.mk ((HT.out.below hb).kept (Kept.setCell (p := ⟨bK, 0, none⟩) (Kept.refl _ (fun k => k = bK)) (.inl rfl) (.slice A26 5 c26)) (Nat.ne_of_lt HLK_HT.out) fun k h => Nat.ne_of_lt h)
   have HX := Aside0.mk ((HX.out.below hb).kept (Kept.setCell (p := ⟨bK, 0, none⟩) (Kept.refl _ (fun k => k = bK)) (.inl rfl) (.slice A26 5 c26)) (Nat.ne_of_lt HLK_HX.out) fun k h => Nat.ne_of_lt h)
   have HU := Aside0.mk ((HU.out.below hb).kept (Kept.setCell (p := ⟨bK, 0, none⟩) (Kept.refl _ (fun k => k = bK)) (.inl rfl) (.slice A26 5 c26)) (Nat.ne_of_lt HLK_HU.out) fun k h => Nat.ne_of_lt h)
   have HO := Aside0.mk ((HO.out.below hb).kept (Kept.setCell (p := ⟨bK, 0, none⟩) (Kept.refl _ (fun k => k = bK)) (.inl rfl) (.slice A26 5 c26)) (Nat.ne_of_lt HLK_HO.out) fun k h => Nat.ne_of_lt h)
   have HQ := Aside0.mk ((HQ.out.below hb).kept (Kept.setCell (p := ⟨bK, 0, none⟩) (Kept.refl _ (fun k => k = bK)) (.inl rfl) (.slice A26 5 c26)) (Nat.ne_of_lt HLK_HQ.out) fun k h => Nat.ne_of_lt h)
   have HF := Aside0.mk ((HF.out.below hb).kept (Kept.setCell (p := ⟨bK, 0, none⟩) (Kept.refl _ (fun k => k = bK)) (.inl rfl) (.slice A26 5 c26)) (Nat.ne_of_lt HLK_HF.out) fun k h => Nat.ne_of_lt h)
   have m1 := blk_cell HT.out.hb 0
   have mX := blk_cell HK.out.hb 0
   clear hX hv hb hlt
   dsimp only
   go_wp2_with (fail)
   generalize W26.setCell ⟨bK, 0, none⟩ (.slice A26 5 c26) = W26a at *
   clear f1 m0 mX
   obtain ⟨ado, Ao2, co2, rfl, _, _, O2, _, Co2⟩ := at_T30 (Kd.V_reads' HO.out.hv).2.2 1 (by decide) (by decide)
   have hd := below_drew (Below.refl W26a.heap.size W26a)
   have HB := Aside0.mk (HB.out.trans (hd.mono HB.out.size))
   have HT := Aside0.mk (HT.out.below hd)
   have HX := Aside0.mk (HX.out.below hd)
   have HU := Aside0.mk (HU.out.below hd)
   have HO := Aside0.mk (HO.out.below hd)
   have HQ := Aside0.mk (HQ.out.below hd)
   have HF := Aside0.mk (HF.out.below hd)
   have HK := Aside0.mk (HK.out.below hd)
   have hl2 := HL2.out
   have md0 := blk_cell HX.out.hb 2
   have md1 := blk_cell HU.out.hb 0
   have md2 := blk_cell HO.out.hb 0
   have md3 : W26a.drew.cell? ⟨ado.block, ado.off + 3 + 2, none⟩ = some (.slice Ao2 1 co2) := O2
   have md4 := blk_cell HQ.out.hb 0
   have md5 := blk_cell HT.out.hb 0
   have md6 := blk_cell HF.out.hb 0
   have md7 := blk_cell HK.out.hb 0
   rw [hl2] at md6
   have hCX : Kd.C (Kd.int .u8) W26a.drew A7 1 [120] := (Kd.V_reads' HX.out.hv).2.2
   have hCO : Kd.C (Kd.int .u8) W26a.drew Ao2 1 [120] := Kd.C_drew Co2
   have hCT : Kd.C k30 W26a.drew A4 kTT.length kTT := (Kd.V_reads' HT.out.hv).2.2
   have hLT : kTT.length ≤ c4 := (Kd.V_reads' HT.out.hv).2.1
   have hCQ : Kd.C k30 W26a.drew A19 kTT.length kTT := (Kd.V_reads' HQ.out.hv).2.2
   have hLQ : kTT.length ≤ c19 := (Kd.V_reads' HQ.out.hv).2.1
   have md8 : (convert 23 9 (.slice A7 1 c7)).run Tryd.prog W26a.drew = .ok (.string ⟨#[120]⟩) W26a.drew := Kd.C_string (P := Tryd.prog) (A := A7) (c := c7) Tryd.underlying23 Tryd.underlying5 Tryd.underlying9 hCX
   have md9 : (convert 23 9 (.slice Ao2 1 co2)).run Tryd.prog W26a.drew = .ok (.string ⟨#[120]⟩) W26a.drew := Kd.C_string (P := Tryd.prog) (A := Ao2) (c := co2) Tryd.underlying23 Tryd.underlying5 Tryd.underlying9 hCO
   have KhCX := Aside0.mk hCX
   have KhCO := Aside0.mk hCO
   have KhCT := Aside0.mk hCT
   have KhLT := Aside0.mk hLT
   have KhCQ := Aside0.mk hCQ
   have KhLQ := Aside0.mk hLQ
   clear hd hl2 O2 Co2 hCX hCO hCT hLT hCQ hLQ m1
   refine start_ (n := 144) (S := fun w' => w'.cell? ⟨bX, 2, none⟩ = some (.slice A7 1 c7) ∧ w'.cell? ⟨bU, 0, none⟩ = some (.slice A15 2 c15) ∧ w'.cell? ⟨bO, 0, none⟩ = some (.slice (some ado) 2 c18) ∧ w'.cell? ⟨ado.block, ado.off + 3 + 2, none⟩ = some (.slice Ao2 1 co2) ∧ w'.cell? ⟨bQ, 0, none⟩ = some (.slice A19 3 c19) ∧ w'.cell? ⟨bT, 0, none⟩ = some (.slice A4 3 c4) ∧ w'.cell? ⟨bF, 0, none⟩ = some (.slice A22 40 c22) ∧ w'.cell? ⟨bK, 0, none⟩ = some (.slice A26 5 c26) ∧ (convert 23 9 (.slice A7 1 c7)).run Tryd.prog w' = .ok (.string ⟨#[120]⟩) w' ∧ (convert 23 9 (.slice Ao2 1 co2)).run Tryd.prog w' = .ok (.string ⟨#[120]⟩) w') (ds := []) #[false, false, false, false, false, false, false, false, false, false, false, false, false, false, false, false, false, false, false, false, false, false, false, false, false, false, false, false, false, false, false, false, false, false, false, false, false, false, false, false, false, false, false, false, false, false, false, false, false, false, false, false, false, false, false, false, false, false, false, false, false, false, false, false, false, false, false, false, false, false, false, false, false, false, false, false, false, false, false, false, false, false, false, false, false, false, false, false, false, false, false, false, false, false, false, false, false, false, false, false, false, false, false, false, false, false, false, false, false, false, false, false, false, false, false, false, false, false, false, false, false, false, false, false, false, false, false, false, false, false, false, false, false, false, false, false, false, false, false, false, false, false, false, false] (by kernel_rfl) rfl rfl ⟨md0, md1, md2, md3, md4, md5, md6, md7, md8, md9⟩ (fun hHeld => ?_)
   refine with_tabW tKn.tab37 tKn.bits37 (fun HT_ HW_ => ?_)
   generalize W26a.drew = wd at HK HB KhCX KhCO KhCT KhCQ md0 md1 md2 md3 md4 md5 md6 md7 md8 md9 hHeld ⊢
   refine pure_ (i := 0) (N := some 199) (v := ?_) (a' := ?_) #[true, false, false, false, false, false, false, false, false, false, false, false, false, false, false, false, false, false, false, false, false, false, false, false, false, false, false, false, false, false, false, false, false, false, false, false, false, false, false, false, false, false, false, false, false, false, false, false, false, false, false, false, false, false, false, false, false, false, false, false, false, false, false, false, false, false, false, false, false, false, false, false, false, false, false, false, false, false, false, false, false, false, false, false, false, false, false, false, false, false, false, false, false, false, false, false, false, false, false, false, false, false, false, false, false, false, false, false, false, false, false, false, false, false, false, false, false, false, false, false, false, false, false, false, false, false, false, false, false, false, false, false, false, false, false, false, false, false, false, false, false, false, false, false] rfl rfl (any_of HT_.out (by kernel_rfl)) (fun _ _ _ h => h) (Or.inl ⟨by rfl, ?_⟩) ?_ ?_
   rotate_left
   ·intro w'
    go_simp
    with_reducible rfl
   rotate_left
   ·simp only [Act.put, List.setIfInBounds_toArray, List.set_cons_zero, List.set_cons_succ, i64_w, i32_w]
    rfl
   refine pure_ (i := 1) (N := some 200) (v := ?_) (a' := ?_) #[true, true, false, false, false, false, false, false, false, false, false, false, false, false, false, false, false, false, false, false, false, false, false, false, false, false, false, false, false, false, false, false, false, false, false, false, false, false, false, false, false, false, false, false, false, false, false, false, false, false, false, false, false, false, false, false, false, false, false, false, false, false, false, false, false, false, false, false, false, false, false, false, false, false, false, false, false, false, false, false, false, false, false, false, false, false, false, false, false, false, false, false, false, false, false, false, false, false, false, false, false, false, false, false, false, false, false, false, false, false, false, false, false, false, false, false, false, false, false, false, false, false, false, false, false, false, false, false, false, false, false, false, false, false, false, false, false, false, false, false, false, false, false, false] rfl rfl (any_of HT_.out (by kernel_rfl)) (fun _ _ _ h => h) (Or.inl ⟨by rfl, ?_⟩) ?_ ?_
   rotate_left
   ·intro w'
    go_simp
    with_reducible rfl
   rotate_left
   ·simp only [Act.put, List.setIfInBounds_toArray, List.set_cons_zero, List.set_cons_succ, i64_w, i32_w]
    rfl
   refine pure_ (i := 2) (N := some 201) (v := ?_) (a' := ?_) #[true, true, true, false, false, false, false, false, false, false, false, false, false, false, false, false, false, false, false, false, false, false, false, false, false, false, false, false, false, false, false, false, false, false, false, false, false, false, false, false, false, false, false, false, false, false, false, false, false, false, false, false, false, false, false, false, false, false, false, false, false, false, false, false, false, false, false, false, false, false, false, false, false, false, false, false, false, false, false, false, false, false, false, false, false, false, false, false, false, false, false, false, false, false, false, false, false, false, false, false, false, false, false, false, false, false, false, false, false, false, false, false, false, false, false, false, false, false, false, false, false, false, false, false, false, false, false, false, false, false, false, false, false, false, false, false, false, false, false, false, false, false, false, false] rfl rfl (any_of HT_.out (by kernel_rfl)) (fun _ _ _ h => h) (Or.inl ⟨by rfl, ?_⟩) ?_ ?_
   rotate_left
   ·intro w'
    go_simp
    with_reducible rfl
   rotate_left
   ·simp only [Act.put, List.setIfInBounds_toArray, List.set_cons_zero, List.set_cons_succ, i64_w, i32_w]
    rfl
   refine pure_ (i := 3) (N := some 202) (v := ?_) (a' := ?_) #[true, true, true, true, false, false, false, false, false, false, false, false, false, false, false, false, false, false, false, false, false, false, false, false, false, false, false, false, false, false, false, false, false, false, false, false, false, false, false, false, false, false, false, false, false, false, false, false, false, false, false, false, false, false, false, false, false, false, false, false, false, false, false, false, false, false, false, false, false, false, false, false, false, false, false, false, false, false, false, false, false, false, false, false, false, false, false, false, false, false, false, false, false, false, false, false, false, false, false, false, false, false, false, false, false, false, false, false, false, false, false, false, false, false, false, false, false, false, false, false, false, false, false, false, false, false, false, false, false, false, false, false, false, false, false, false, false, false, false, false, false, false, false, false] rfl rfl (any_of HT_.out (by kernel_rfl)) (fun _ _ _ h => h) (Or.inl ⟨by rfl, ?_⟩) ?_ ?_
   rotate_left
   ·intro w'
    go_simp
    with_reducible rfl
   rotate_left
   ·simp only [Act.put, List.setIfInBounds_toArray, List.set_cons_zero, List.set_cons_succ, i64_w, i32_w]
    rfl
   refine pure_ (i := 4) (N := some 203) (v := ?_) (a' := ?_) #[true, true, true, true, true, false, false, false, false, false, false, false, false, false, false, false, false, false, false, false, false, false, false, false, false, false, false, false, false, false, false, false, false, false, false, false, false, false, false, false, false, false, false, false, false, false, false, false, false, false, false, false, false, false, false, false, false, false, false, false, false, false, false, false, false, false, false, false, false, false, false, false, false, false, false, false, false, false, false, false, false, false, false, false, false, false, false, false, false, false, false, false, false, false, false, false, false, false, false, false, false, false, false, false, false, false, false, false, false, false, false, false, false, false, false, false, false, false, false, false, false, false, false, false, false, false, false, false, false, false, false, false, false, false, false, false, false, false, false, false, false, false, false, false] rfl rfl (any_of HT_.out (by kernel_rfl)) (fun _ _ _ h => h) (Or.inl ⟨by rfl, ?_⟩) ?_ ?_
   rotate_left
   ·intro w'
    go_simp
    with_reducible rfl
   rotate_left
   ·simp only [Act.put, List.setIfInBounds_toArray, List.set_cons_zero, List.set_cons_succ, i64_w, i32_w]
    rfl
   refine pure_ (i := 5) (N := some 204) (v := ?_) (a' := ?_) #[true, true, true, true, true, true, false, false, false, false, false, false, false, false, false, false, false, false, false, false, false, false, false, false, false, false, false, false, false, false, false, false, false, false, false, false, false, false, false, false, false, false, false, false, false, false, false, false, false, false, false, false, false, false, false, false, false, false, false, false, false, false, false, false, false, false, false, false, false, false, false, false, false, false, false, false, false, false, false, false, false, false, false, false, false, false, false, false, false, false, false, false, false, false, false, false, false, false, false, false, false, false, false, false, false, false, false, false, false, false, false, false, false, false, false, false, false, false, false, false, false, false, false, false, false, false, false, false, false, false, false, false, false, false, false, false, false, false, false, false, false, false, false, false] rfl rfl (any_of HT_.out (by kernel_rfl)) (fun _ _ _ h => h) (Or.inl ⟨by rfl, ?_⟩) ?_ ?_
   rotate_left
   ·intro w'
    go_simp
    with_reducible rfl
   rotate_left
   ·simp only [Act.put, List.setIfInBounds_toArray, List.set_cons_zero, List.set_cons_succ, i64_w, i32_w]
    rfl
   refine pure_ (i := 6) (N := some 205) (v := ?_) (a' := ?_) #[true, true, true, true, true, true, true, false, false, false, false, false, false, false, false, false, false, false, false, false, false, false, false, false, false, false, false, false, false, false, false, false, false, false, false, false, false, false, false, false, false, false, false, false, false, false, false, false, false, false, false, false, false, false, false, false, false, false, false, false, false, false, false, false, false, false, false, false, false, false, false, false, false, false, false, false, false, false, false, false, false, false, false, false, false, false, false, false, false, false, false, false, false, false, false, false, false, false, false, false, false, false, false, false, false, false, false, false, false, false, false, false, false, false, false, false, false, false, false, false, false, false, false, false, false, false, false, false, false, false, false, false, false, false, false, false, false, false, false, false, false, false, false, false] rfl rfl (any_of HT_.out (by kernel_rfl)) (fun _ _ _ h => h) (Or.inl ⟨by rfl, ?_⟩) ?_ ?_
   rotate_left
   ·intro w'
    go_simp
    with_reducible rfl
   rotate_left
   ·simp only [Act.put, List.setIfInBounds_toArray, List.set_cons_zero, List.set_cons_succ, i64_w, i32_w]
    rfl
   refine pure_ (i := 7) (N := some 206) (v := ?_) (a' := ?_) #[true, true, true, true, true, true, true, true, false, false, false, false, false, false, false, false, false, false, false, false, false, false, false, false, false, false, false, false, false, false, false, false, false, false, false, false, false, false, false, false, false, false, false, false, false, false, false, false, false, false, false, false, false, false, false, false, false, false, false, false, false, false, false, false, false, false, false, false, false, false, false, false, false, false, false, false, false, false, false, false, false, false, false, false, false, false, false, false, false, false, false, false, false, false, false, false, false, false, false, false, false, false, false, false, false, false, false, false, false, false, false, false, false, false, false, false, false, false, false, false, false, false, false, false, false, false, false, false, false, false, false, false, false, false, false, false, false, false, false, false, false, false, false, false] rfl rfl (any_of HT_.out (by kernel_rfl)) (fun _ _ _ h => h) (Or.inl ⟨by rfl, ?_⟩) ?_ ?_
   rotate_left
   ·intro w'
    go_simp
    with_reducible rfl
   rotate_left
   ·simp only [Act.put, List.setIfInBounds_toArray, List.set_cons_zero, List.set_cons_succ, i64_w, i32_w]
    rfl
   refine pure_ (i := 8) (N := some 207) (v := ?_) (a' := ?_) #[true, true, true, true, true, true, true, true, true, false, false, false, false, false, false, false, false, false, false, false, false, false, false, false, false, false, false, false, false, false, false, false, false, false, false, false, false, false, false, false, false, false, false, false, false, false, false, false, false, false, false, false, false, false, false, false, false, false, false, false, false, false, false, false, false, false, false, false, false, false, false, false, false, false, false, false, false, false, false, false, false, false, false, false, false, false, false, false, false, false, false, false, false, false, false, false, false, false, false, false, false, false, false, false, false, false, false, false, false, false, false, false, false, false, false, false, false, false, false, false, false, false, false, false, false, false, false, false, false, false, false, false, false, false, false, false, false, false, false, false, false, false, false, false] rfl rfl (any_of HT_.out (by kernel_rfl)) (fun _ _ _ h => h) (Or.inl ⟨by rfl, ?_⟩) ?_ ?_
   rotate_left
   ·intro w'
    go_simp
    with_reducible rfl
   rotate_left
   ·simp only [Act.put, List.setIfInBounds_toArray, List.set_cons_zero, List.set_cons_succ, i64_w, i32_w]
    rfl
   refine pure_ (i := 9) (N := some 208) (v := ?_) (a' := ?_) #[true, true, true, true, true, true, true, true, true, true, false, false, false, false, false, false, false, false, false, false, false, false, false, false, false, false, false, false, false, false, false, false, false, false, false, false, false, false, false, false, false, false, false, false, false, false, false, false, false, false, false, false, false, false, false, false, false, false, false, false, false, false, false, false, false, false, false, false, false, false, false, false, false, false, false, false, false, false, false, false, false, false, false, false, false, false, false, false, false, false, false, false, false, false, false, false, false, false, false, false, false, false, false, false, false, false, false, false, false, false, false, false, false, false, false, false, false, false, false, false, false, false, false, false, false, false, false, false, false, false, false, false, false, false, false, false, false, false, false, false, false, false, false, false] rfl rfl (any_of HT_.out (by kernel_rfl)) (fun _ _ _ h => h) (Or.inl ⟨by rfl, ?_⟩) ?_ ?_
   rotate_left
   ·intro w'
    go_simp
    with_reducible rfl
   rotate_left
   ·simp only [Act.put, List.setIfInBounds_toArray, List.set_cons_zero, List.set_cons_succ, i64_w, i32_w]
    rfl
   refine pure_ (i := 10) (N := some 209) (v := ?_) (a' := ?_) #[true, true, true, true, true, true, true, true, true, true, true, false, false, false, false, false, false, false, false, false, false, false, false, false, false, false, false, false, false, false, false, false, false, false, false, false, false, false, false, false, false, false, false, false, false, false, false, false, false, false, false, false, false, false, false, false, false, false, false, false, false, false, false, false, false, false, false, false, false, false, false, false, false, false, false, false, false, false, false, false, false, false, false, false, false, false, false, false, false, false, false, false, false, false, false, false, false, false, false, false, false, false, false, false, false, false, false, false, false, false, false, false, false, false, false, false, false, false, false, false, false, false, false, false, false, false, false, false, false, false, false, false, false, false, false, false, false, false, false, false, false, false, false, false] rfl rfl (any_of HT_.out (by kernel_rfl)) (fun _ _ _ h => h) (Or.inl ⟨by rfl, ?_⟩) ?_ ?_
   rotate_left
   ·intro w'
    go_simp
    with_reducible rfl
   rotate_left
   ·simp only [Act.put, List.setIfInBounds_toArray, List.set_cons_zero, List.set_cons_succ, i64_w, i32_w]
    rfl
   refine pure_ (i := 11) (N := some 210) (v := ?_) (a' := ?_) #[true, true, true, true, true, true, true, true, true, true, true, true, false, false, false, false, false, false, false, false, false, false, false, false, false, false, false, false, false, false, false, false, false, false, false, false, false, false, false, false, false, false, false, false, false, false, false, false, false, false, false, false, false, false, false, false, false, false, false, false, false, false, false, false, false, false, false, false, false, false, false, false, false, false, false, false, false, false, false, false, false, false, false, false, false, false, false, false, false, false, false, false, false, false, false, false, false, false, false, false, false, false, false, false, false, false, false, false, false, false, false, false, false, false, false, false, false, false, false, false, false, false, false, false, false, false, false, false, false, false, false, false, false, false, false, false, false, false, false, false, false, false, false, false] rfl rfl (any_of HT_.out (by kernel_rfl)) (fun _ _ _ h => h) (Or.inl ⟨by rfl, ?_⟩) ?_ ?_
   rotate_left
   ·intro w'
    go_simp
    with_reducible rfl
   rotate_left
   ·simp only [Act.put, List.setIfInBounds_toArray, List.set_cons_zero, List.set_cons_succ, i64_w, i32_w]
    rfl
   refine take_ (i := 12) (N := some 211) (v := ?_) (a' := ?_) #[true, true, true, true, true, true, true, true, true, true, true, true, true, false, false, false, false, false, false, false, false, false, false, false, false, false, false, false, false, false, false, false, false, false, false, false, false, false, false, false, false, false, false, false, false, false, false, false, false, false, false, false, false, false, false, false, false, false, false, false, false, false, false, false, false, false, false, false, false, false, false, false, false, false, false, false, false, false, false, false, false, false, false, false, false, false, false, false, false, false, false, false, false, false, false, false, false, false, false, false, false, false, false, false, false, false, false, false, false, false, false, false, false, false, false, false, false, false, false, false, false, false, false, false, false, false, false, false, false, false, false, false, false, false, false, false, false, false, false, false, false, false, false, false] rfl rfl (take_ofW HT_.out HW_.out (by kernel_rfl)) (fun _ _ _ h => h) (Or.inl ⟨by rfl, ?_⟩) hHeld ?_ ?_
   rotate_left
   ·rintro w' ⟨s0, s1, s2, s3, s4, s5, s6, s7, s8, s9⟩
    go_simp
    with_reducible rfl
   rotate_left
   ·simp only [Act.put, List.setIfInBounds_toArray, List.set_cons_zero, List.set_cons_succ, i64_w, i32_w]
    rfl
   refine take_ (i := 13) (N := some 212) (v := ?_) (a' := ?_) #[true, true, true, true, true, true, true, true, true, true, true, true, true, true, false, false, false, false, false, false, false, false, false, false, false, false, false, false, false, false, false, false, false, false, false, false, false, false, false, false, false, false, false, false, false, false, false, false, false, false, false, false, false, false, false, false, false, false, false, false, false, false, false, false, false, false, false, false, false, false, false, false, false, false, false, false, false, false, false, false, false, false, false, false, false, false, false, false, false, false, false, false, false, false, false, false, false, false, false, false, false, false, false, false, false, false, false, false, false, false, false, false, false, false, false, false, false, false, false, false, false, false, false, false, false, false, false, false, false, false, false, false, false, false, false, false, false, false, false, false, false, false, false, false] rfl rfl (take_ofW HT_.out HW_.out (by kernel_rfl)) (fun _ _ _ h => h) (Or.inl ⟨by rfl, ?_⟩) hHeld ?_ ?_
   rotate_left
   ·rintro w' ⟨s0, s1, s2, s3, s4, s5, s6, s7, s8, s9⟩
    go_simp
    with_reducible rfl
   rotate_left
   ·simp only [Act.put, List.setIfInBounds_toArray, List.set_cons_zero, List.set_cons_succ, i64_w, i32_w]
    rfl
   refine pure_ (i := 14) (N := some 213) (v := ?_) (a' := ?_) #[true, true, true, true, true, true, true, true, true, true, true, true, true, true, true, false, false, false, false, false, false, false, false, false, false, false, false, false, false, false, false, false, false, false, false, false, false, false, false, false, false, false, false, false, false, false, false, false, false, false, false, false, false, false, false, false, false, false, false, false, false, false, false, false, false, false, false, false, false, false, false, false, false, false, false, false, false, false, false, false, false, false, false, false, false, false, false, false, false, false, false, false, false, false, false, false, false, false, false, false, false, false, false, false, false, false, false, false, false, false, false, false, false, false, false, false, false, false, false, false, false, false, false, false, false, false, false, false, false, false, false, false, false, false, false, false, false, false, false, false, false, false, false, false] rfl rfl (any_of HT_.out (by kernel_rfl)) (fun _ _ _ h => h) (Or.inl ⟨by rfl, ?_⟩) ?_ ?_
   rotate_left
   ·intro w'
    go_simp
    with_reducible rfl
   rotate_left
   ·simp only [Act.put, List.setIfInBounds_toArray, List.set_cons_zero, List.set_cons_succ, i64_w, i32_w]
    rfl
   refine pure_ (i := 15) (N := some 214) (v := ?_) (a' := ?_) #[true, true, true, true, true, true, true, true, true, true, true, true, true, true, true, true, false, false, false, false, false, false, false, false, false, false, false, false, false, false, false, false, false, false, false, false, false, false, false, false, false, false, false, false, false, false, false, false, false, false, false, false, false, false, false, false, false, false, false, false, false, false, false, false, false, false, false, false, false, false, false, false, false, false, false, false, false, false, false, false, false, false, false, false, false, false, false, false, false, false, false, false, false, false, false, false, false, false, false, false, false, false, false, false, false, false, false, false, false, false, false, false, false, false, false, false, false, false, false, false, false, false, false, false, false, false, false, false, false, false, false, false, false, false, false, false, false, false, false, false, false, false, false, false] rfl rfl (any_of HT_.out (by kernel_rfl)) (fun _ _ _ h => h) (Or.inl ⟨by rfl, ?_⟩) ?_ ?_
   rotate_left
   ·intro w'
    go_simp
    with_reducible rfl
   rotate_left
   ·simp only [Act.put, List.setIfInBounds_toArray, List.set_cons_zero, List.set_cons_succ, i64_w, i32_w]
    rfl
   refine pure_ (i := 16) (N := some 215) (v := ?_) (a' := ?_) #[true, true, true, true, true, true, true, true, true, true, true, true, true, true, true, true, true, false, false, false, false, false, false, false, false, false, false, false, false, false, false, false, false, false, false, false, false, false, false, false, false, false, false, false, false, false, false, false, false, false, false, false, false, false, false, false, false, false, false, false, false, false, false, false, false, false, false, false, false, false, false, false, false, false, false, false, false, false, false, false, false, false, false, false, false, false, false, false, false, false, false, false, false, false, false, false, false, false, false, false, false, false, false, false, false, false, false, false, false, false, false, false, false, false, false, false, false, false, false, false, false, false, false, false, false, false, false, false, false, false, false, false, false, false, false, false, false, false, false, false, false, false, false, false] rfl rfl (any_of HT_.out (by kernel_rfl)) (fun _ _ _ h => h) (Or.inl ⟨by rfl, ?_⟩) ?_ ?_
   rotate_left
   ·intro w'
    go_simp
    with_reducible rfl
   rotate_left
   ·simp only [Act.put, List.setIfInBounds_toArray, List.set_cons_zero, List.set_cons_succ, i64_w, i32_w]
    rfl
   refine pure_ (i := 17) (N := some 216) (v := ?_) (a' := ?_) #[true, true, true, true, true, true, true, true, true, true, true, true, true, true, true, true, true, true, false, false, false, false, false, false, false, false, false, false, false, false, false, false, false, false, false, false, false, false, false, false, false, false, false, false, false, false, false, false, false, false, false, false, false, false, false, false, false, false, false, false, false, false, false, false, false, false, false, false, false, false, false, false, false, false, false, false, false, false, false, false, false, false, false, false, false, false, false, false, false, false, false, false, false, false, false, false, false, false, false, false, false, false, false, false, false, false, false, false, false, false, false, false, false, false, false, false, false, false, false, false, false, false, false, false, false, false, false, false, false, false, false, false, false, false, false, false, false, false, false, false, false, false, false, false] rfl rfl (any_of HT_.out (by kernel_rfl)) (fun _ _ _ h => h) (Or.inl ⟨by rfl, ?_⟩) ?_ ?_
   rotate_left
   ·intro w'
    go_simp
    with_reducible rfl
   rotate_left
   ·simp only [Act.put, List.setIfInBounds_toArray, List.set_cons_zero, List.set_cons_succ, i64_w, i32_w]
    rfl
   refine pure_ (i := 18) (N := some 217) (v := ?_) (a' := ?_) #[true, true, true, true, true, true, true, true, true, true, true, true, true, true, true, true, true, true, true, false, false, false, false, false, false, false, false, false, false, false, false, false, false, false, false, false, false, false, false, false, false, false, false, false, false, false, false, false, false, false, false, false, false, false, false, false, false, false, false, false, false, false, false, false, false, false, false, false, false, false, false, false, false, false, false, false, false, false, false, false, false, false, false, false, false, false, false, false, false, false, false, false, false, false, false, false, false, false, false, false, false, false, false, false, false, false, false, false, false, false, false, false, false, false, false, false, false, false, false, false, false, false, false, false, false, false, false, false, false, false, false, false, false, false, false, false, false, false, false, false, false, false, false, false] rfl rfl (any_of HT_.out (by kernel_rfl)) (fun _ _ _ h => h) (Or.inl ⟨by rfl, ?_⟩) ?_ ?_
   rotate_left
   ·intro w'
    go_simp
    with_reducible rfl
   rotate_left
   ·simp only [Act.put, List.setIfInBounds_toArray, List.set_cons_zero, List.set_cons_succ, i64_w, i32_w]
    rfl
   refine pure_ (i := 19) (N := some 218) (v := ?_) (a' := ?_) #[true, true, true, true, true, true, true, true, true, true, true, true, true, true, true, true, true, true, true, true, false, false, false, false, false, false, false, false, false, false, false, false, false, false, false, false, false, false, false, false, false, false, false, false, false, false, false, false, false, false, false, false, false, false, false, false, false, false, false, false, false, false, false, false, false, false, false, false, false, false, false, false, false, false, false, false, false, false, false, false, false, false, false, false, false, false, false, false, false, false, false, false, false, false, false, false, false, false, false, false, false, false, false, false, false, false, false, false, false, false, false, false, false, false, false, false, false, false, false, false, false, false, false, false, false, false, false, false, false, false, false, false, false, false, false, false, false, false, false, false, false, false, false, false] rfl rfl (any_of HT_.out (by kernel_rfl)) (fun _ _ _ h => h) (Or.inl ⟨by rfl, ?_⟩) ?_ ?_
   rotate_left
   ·intro w'
    go_simp
    with_reducible rfl
   rotate_left
   ·simp only [Act.put, List.setIfInBounds_toArray, List.set_cons_zero, List.set_cons_succ, i64_w, i32_w]
    rfl
   refine pure_ (i := 20) (N := some 219) (v := ?_) (a' := ?_) #[true, true, true, true, true, true, true, true, true, true, true, true, true, true, true, true, true, true, true, true, true, false, false, false, false, false, false, false, false, false, false, false, false, false, false, false, false, false, false, false, false, false, false, false, false, false, false, false, false, false, false, false, false, false, false, false, false, false, false, false, false, false, false, false, false, false, false, false, false, false, false, false, false, false, false, false, false, false, false, false, false, false, false, false, false, false, false, false, false, false, false, false, false, false, false, false, false, false, false, false, false, false, false, false, false, false, false, false, false, false, false, false, false, false, false, false, false, false, false, false, false, false, false, false, false, false, false, false, false, false, false, false, false, false, false, false, false, false, false, false, false, false, false, false] rfl rfl (any_of HT_.out (by kernel_rfl)) (fun _ _ _ h => h) (Or.inl ⟨by rfl, ?_⟩) ?_ ?_
   rotate_left
   ·intro w'
    go_simp
    with_reducible rfl
   rotate_left
   ·simp only [Act.put, List.setIfInBounds_toArray, List.set_cons_zero, List.set_cons_succ, i64_w, i32_w]
    rfl
   refine pure_ (i := 21) (N := some 220) (v := ?_) (a' := ?_) #[true, true, true, true, true, true, true, true, true, true, true, true, true, true, true, true, true, true, true, true, true, true, false, false, false, false, false, false, false, false, false, false, false, false, false, false, false, false, false, false, false, false, false, false, false, false, false, false, false, false, false, false, false, false, false, false, false, false, false, false, false, false, false, false, false, false, false, false, false, false, false, false, false, false, false, false, false, false, false, false, false, false, false, false, false, false, false, false, false, false, false, false, false, false, false, false, false, false, false, false, false, false, false, false, false, false, false, false, false, false, false, false, false, false, false, false, false, false, false, false, false, false, false, false, false, false, false, false, false, false, false, false, false, false, false, false, false, false, false, false, false, false, false, false] rfl rfl (any_of HT_.out (by kernel_rfl)) (fun _ _ _ h => h) (Or.inl ⟨by rfl, ?_⟩) ?_ ?_
   rotate_left
   ·intro w'
    go_simp
    with_reducible rfl
   rotate_left
   ·simp only [Act.put, List.setIfInBounds_toArray, List.set_cons_zero, List.set_cons_succ, i64_w, i32_w]
    rfl
   refine pure_ (i := 22) (N := some 221) (v := ?_) (a' := ?_) #[true, true, true, true, true, true, true, true, true, true, true, true, true, true, true, true, true, true, true, true, true, true, true, false, false, false, false, false, false, false, false, false, false, false, false, false, false, false, false, false, false, false, false, false, false, false, false, false, false, false, false, false, false, false, false, false, false, false, false, false, false, false, false, false, false, false, false, false, false, false, false, false, false, false, false, false, false, false, false, false, false, false, false, false, false, false, false, false, false, false, false, false, false, false, false, false, false, false, false, false, false, false, false, false, false, false, false, false, false, false, false, false, false, false, false, false, false, false, false, false, false, false, false, false, false, false, false, false, false, false, false, false, false, false, false, false, false, false, false, false, false, false, false, false] rfl rfl (any_of HT_.out (by kernel_rfl)) (fun _ _ _ h => h) (Or.inl ⟨by rfl, ?_⟩) ?_ ?_
   rotate_left
   ·intro w'
    go_simp
    with_reducible rfl
   rotate_left
   ·simp only [Act.put, List.setIfInBounds_toArray, List.set_cons_zero, List.set_cons_succ, i64_w, i32_w]
    rfl
   refine pure_ (i := 23) (N := some 222) (v := ?_) (a' := ?_) #[true, true, true, true, true, true, true, true, true, true, true, true, true, true, true, true, true, true, true, true, true, true, true, true, false, false, false, false, false, false, false, false, false, false, false, false, false, false, false, false, false, false, false, false, false, false, false, false, false, false, false, false, false, false, false, false, false, false, false, false, false, false, false, false, false, false, false, false, false, false, false, false, false, false, false, false, false, false, false, false, false, false, false, false, false, false, false, false, false, false, false, false, false, false, false, false, false, false, false, false, false, false, false, false, false, false, false, false, false, false, false, false, false, false, false, false, false, false, false, false, false, false, false, false, false, false, false, false, false, false, false, false, false, false, false, false, false, false, false, false, false, false, false, false] rfl rfl (any_of HT_.out (by kernel_rfl)) (fun _ _ _ h => h) (Or.inl ⟨by rfl, ?_⟩) ?_ ?_
   rotate_left
   ·intro w'
    go_simp
    with_reducible rfl
   rotate_left
   ·simp only [Act.put, List.setIfInBounds_toArray, List.set_cons_zero, List.set_cons_succ, i64_w, i32_w]
    rfl
   refine pure_ (i := 24) (N := some 223) (v := ?_) (a' := ?_) #[true, true, true, true, true, true, true, true, true, true, true, true, true, true, true, true, true, true, true, true, true, true, true, true, true, false, false, false, false, false, false, false, false, false, false, false, false, false, false, false, false, false, false, false, false, false, false, false, false, false, false, false, false, false, false, false, false, false, false, false, false, false, false, false, false, false, false, false, false, false, false, false, false, false, false, false, false, false, false, false, false, false, false, false, false, false, false, false, false, false, false, false, false, false, false, false, false, false, false, false, false, false, false, false, false, false, false, false, false, false, false, false, false, false, false, false, false, false, false, false, false, false, false, false, false, false, false, false, false, false, false, false, false, false, false, false, false, false, false, false, false, false, false, false] rfl rfl (any_of HT_.out (by kernel_rfl)) (fun _ _ _ h => h) (Or.inl ⟨by rfl, ?_⟩) ?_ ?_
   rotate_left
   ·intro w'
    go_simp
    with_reducible rfl
   rotate_left
   ·simp only [Act.put, List.setIfInBounds_toArray, List.set_cons_zero, List.set_cons_succ, i64_w, i32_w]
    rfl
   refine pure_ (i := 25) (N := some 224) (v := ?_) (a' := ?_) #[true, true, true, true, true, true, true, true, true, true, true, true, true, true, true, true, true, true, true, true, true, true, true, true, true, true, false, false, false, false, false, false, false, false, false, false, false, false, false, false, false, false, false, false, false, false, false, false, false, false, false, false, false, false, false, false, false, false, false, false, false, false, false, false, false, false, false, false, false, false, false, false, false, false, false, false, false, false, false, false, false, false, false, false, false, false, false, false, false, false, false, false, false, false, false, false, false, false, false, false, false, false, false, false, false, false, false, false, false, false, false, false, false, false, false, false, false, false, false, false, false, false, false, false, false, false, false, false, false, false, false, false, false, false, false, false, false, false, false, false, false, false, false, false] rfl rfl (any_of HT_.out (by kernel_rfl)) (fun _ _ _ h => h) (Or.inl ⟨by rfl, ?_⟩) ?_ ?_
   rotate_left
   ·intro w'
    go_simp
    with_reducible rfl
   rotate_left
   ·simp only [Act.put, List.setIfInBounds_toArray, List.set_cons_zero, List.set_cons_succ, i64_w, i32_w]
    rfl
   refine pure_ (i := 26) (N := some 225) (v := ?_) (a' := ?_) #[true, true, true, true, true, true, true, true, true, true, true, true, true, true, true, true, true, true, true, true, true, true, true, true, true, true, true, false, false, false, false, false, false, false, false, false, false, false, false, false, false, false, false, false, false, false, false, false, false, false, false, false, false, false, false, false, false, false, false, false, false, false, false, false, false, false, false, false, false, false, false, false, false, false, false, false, false, false, false, false, false, false, false, false, false, false, false, false, false, false, false, false, false, false, false, false, false, false, false, false, false, false, false, false, false, false, false, false, false, false, false, false, false, false, false, false, false, false, false, false, false, false, false, false, false, false, false, false, false, false, false, false, false, false, false, false, false, false, false, false, false, false, false, false] rfl rfl (any_of HT_.out (by kernel_rfl)) (fun _ _ _ h => h) (Or.inl ⟨by rfl, ?_⟩) ?_ ?_
   rotate_left
   ·intro w'
    go_simp
    with_reducible rfl
   rotate_left
   ·simp only [Act.put, List.setIfInBounds_toArray, List.set_cons_zero, List.set_cons_succ, i64_w, i32_w]
    rfl
   refine pure_ (i := 27) (N := some 226) (v := ?_) (a' := ?_) #[true, true, true, true, true, true, true, true, true, true, true, true, true, true, true, true, true, true, true, true, true, true, true, true, true, true, true, true, false, false, false, false, false, false, false, false, false, false, false, false, false, false, false, false, false, false, false, false, false, false, false, false, false, false, false, false, false, false, false, false, false, false, false, false, false, false, false, false, false, false, false, false, false, false, false, false, false, false, false, false, false, false, false, false, false, false, false, false, false, false, false, false, false, false, false, false, false, false, false, false, false, false, false, false, false, false, false, false, false, false, false, false, false, false, false, false, false, false, false, false, false, false, false, false, false, false, false, false, false, false, false, false, false, false, false, false, false, false, false, false, false, false, false, false] rfl rfl (any_of HT_.out (by kernel_rfl)) (fun _ _ _ h => h) (Or.inl ⟨by rfl, ?_⟩) ?_ ?_
   rotate_left
   ·intro w'
    go_simp
    with_reducible rfl
   rotate_left
   ·simp only [Act.put, List.setIfInBounds_toArray, List.set_cons_zero, List.set_cons_succ, i64_w, i32_w]
    rfl
   refine pure_ (i := 28) (N := some 227) (v := ?_) (a' := ?_) #[true, true, true, true, true, true, true, true, true, true, true, true, true, true, true, true, true, true, true, true, true, true, true, true, true, true, true, true, true, false, false, false, false, false, false, false, false, false, false, false, false, false, false, false, false, false, false, false, false, false, false, false, false, false, false, false, false, false, false, false, false, false, false, false, false, false, false, false, false, false, false, false, false, false, false, false, false, false, false, false, false, false, false, false, false, false, false, false, false, false, false, false, false, false, false, false, false, false, false, false, false, false, false, false, false, false, false, false, false, false, false, false, false, false, false, false, false, false, false, false, false, false, false, false, false, false, false, false, false, false, false, false, false, false, false, false, false, false, false, false, false, false, false, false] rfl rfl (any_of HT_.out (by kernel_rfl)) (fun _ _ _ h => h) (Or.inl ⟨by rfl, ?_⟩) ?_ ?_
   rotate_left
   ·intro w'
    go_simp
    with_reducible rfl
   rotate_left
   ·simp only [Act.put, List.setIfInBounds_toArray, List.set_cons_zero, List.set_cons_succ, i64_w, i32_w]
    rfl
   refine pure_ (i := 29) (N := some 228) (v := ?_) (a' := ?_) #[true, true, true, true, true, true, true, true, true, true, true, true, true, true, true, true, true, true, true, true, true, true, true, true, true, true, true, true, true, true, false, false, false, false, false, false, false, false, false, false, false, false, false, false, false, false, false, false, false, false, false, false, false, false, false, false, false, false, false, false, false, false, false, false, false, false, false, false, false, false, false, false, false, false, false, false, false, false, false, false, false, false, false, false, false, false, false, false, false, false, false, false, false, false, false, false, false, false, false, false, false, false, false, false, false, false, false, false, false, false, false, false, false, false, false, false, false, false, false, false, false, false, false, false, false, false, false, false, false, false, false, false, false, false, false, false, false, false, false, false, false, false, false, false] rfl rfl (any_of HT_.out (by kernel_rfl)) (fun _ _ _ h => h) (Or.inl ⟨by rfl, ?_⟩) ?_ ?_
   rotate_left
   ·intro w'
    go_simp
    with_reducible rfl
   rotate_left
   ·simp only [Act.put, List.setIfInBounds_toArray, List.set_cons_zero, List.set_cons_succ, i64_w, i32_w]
    rfl
   refine pure_ (i := 30) (N := some 229) (v := ?_) (a' := ?_) #[true, true, true, true, true, true, true, true, true, true, true, true, true, true, true, true, true, true, true, true, true, true, true, true, true, true, true, true, true, true, true, false, false, false, false, false, false, false, false, false, false, false, false, false, false, false, false, false, false, false, false, false, false, false, false, false, false, false, false, false, false, false, false, false, false, false, false, false, false, false, false, false, false, false, false, false, false, false, false, false, false, false, false, false, false, false, false, false, false, false, false, false, false, false, false, false, false, false, false, false, false, false, false, false, false, false, false, false, false, false, false, false, false, false, false, false, false, false, false, false, false, false, false, false, false, false, false, false, false, false, false, false, false, false, false, false, false, false, false, false, false, false, false, false] rfl rfl (any_of HT_.out (by kernel_rfl)) (fun _ _ _ h => h) (Or.inl ⟨by rfl, ?_⟩) ?_ ?_
   rotate_left
   ·intro w'
    go_simp
    with_reducible rfl
   rotate_left
   ·simp only [Act.put, List.setIfInBounds_toArray, List.set_cons_zero, List.set_cons_succ, i64_w, i32_w]
    rfl
   refine pure_ (i := 31) (N := some 230) (v := ?_) (a' := ?_) #[true, true, true, true, true, true, true, true, true, true, true, true, true, true, true, true, true, true, true, true, true, true, true, true, true, true, true, true, true, true, true, true, false, false, false, false, false, false, false, false, false, false, false, false, false, false, false, false, false, false, false, false, false, false, false, false, false, false, false, false, false, false, false, false, false, false, false, false, false, false, false, false, false, false, false, false, false, false, false, false, false, false, false, false, false, false, false, false, false, false, false, false, false, false, false, false, false, false, false, false, false, false, false, false, false, false, false, false, false, false, false, false, false, false, false, false, false, false, false, false, false, false, false, false, false, false, false, false, false, false, false, false, false, false, false, false, false, false, false, false, false, false, false, false] rfl rfl (any_of HT_.out (by kernel_rfl)) (fun _ _ _ h => h) (Or.inl ⟨by rfl, ?_⟩) ?_ ?_
   rotate_left
   ·intro w'
    go_simp
    with_reducible rfl
   rotate_left
   ·simp only [Act.put, List.setIfInBounds_toArray, List.set_cons_zero, List.set_cons_succ, i64_w, i32_w]
    rfl
   refine pure_ (i := 32) (N := some 231) (v := ?_) (a' := ?_) #[true, true, true, true, true, true, true, true, true, true, true, true, true, true, true, true, true, true, true, true, true, true, true, true, true, true, true, true, true, true, true, true, true, false, false, false, false, false, false, false, false, false, false, false, false, false, false, false, false, false, false, false, false, false, false, false, false, false, false, false, false, false, false, false, false, false, false, false, false, false, false, false, false, false, false, false, false, false, false, false, false, false, false, false, false, false, false, false, false, false, false, false, false, false, false, false, false, false, false, false, false, false, false, false, false, false, false, false, false, false, false, false, false, false, false, false, false, false, false, false, false, false, false, false, false, false, false, false, false, false, false, false, false, false, false, false, false, false, false, false, false, false, false, false] rfl rfl (any_of HT_.out (by kernel_rfl)) (fun _ _ _ h => h) (Or.inl ⟨by rfl, ?_⟩) ?_ ?_
   rotate_left
   ·intro w'
    go_simp
    with_reducible rfl
   rotate_left
   ·simp only [Act.put, List.setIfInBounds_toArray, List.set_cons_zero, List.set_cons_succ, i64_w, i32_w]
    rfl
   refine pure_ (i := 33) (N := some 232) (v := ?_) (a' := ?_) #[true, true, true, true, true, true, true, true, true, true, true, true, true, true, true, true, true, true, true, true, true, true, true, true, true, true, true, true, true, true, true, true, true, true, false, false, false, false, false, false, false, false, false, false, false, false, false, false, false, false, false, false, false, false, false, false, false, false, false, false, false, false, false, false, false, false, false, false, false, false, false, false, false, false, false, false, false, false, false, false, false, false, false, false, false, false, false, false, false, false, false, false, false, false, false, false, false, false, false, false, false, false, false, false, false, false, false, false, false, false, false, false, false, false, false, false, false, false, false, false, false, false, false, false, false, false, false, false, false, false, false, false, false, false, false, false, false, false, false, false, false, false, false, false] rfl rfl (any_of HT_.out (by kernel_rfl)) (fun _ _ _ h => h) (Or.inl ⟨by rfl, ?_⟩) ?_ ?_
   rotate_left
   ·intro w'
    go_simp
    with_reducible rfl
   rotate_left
   ·simp only [Act.put, List.setIfInBounds_toArray, List.set_cons_zero, List.set_cons_succ, i64_w, i32_w]
    rfl
   refine pure_ (i := 34) (N := some 233) (v := ?_) (a' := ?_) #[true, true, true, true, true, true, true, true, true, true, true, true, true, true, true, true, true, true, true, true, true, true, true, true, true, true, true, true, true, true, true, true, true, true, true, false, false, false, false, false, false, false, false, false, false, false, false, false, false, false, false, false, false, false, false, false, false, false, false, false, false, false, false, false, false, false, false, false, false, false, false, false, false, false, false, false, false, false, false, false, false, false, false, false, false, false, false, false, false, false, false, false, false, false, false, false, false, false, false, false, false, false, false, false, false, false, false, false, false, false, false, false, false, false, false, false, false, false, false, false, false, false, false, false, false, false, false, false, false, false, false, false, false, false, false, false, false, false, false, false, false, false, false, false] rfl rfl (any_of HT_.out (by kernel_rfl)) (fun _ _ _ h => h) (Or.inl ⟨by rfl, ?_⟩) ?_ ?_
   rotate_left
   ·intro w'
    go_simp
    with_reducible rfl
   rotate_left
   ·simp only [Act.put, List.setIfInBounds_toArray, List.set_cons_zero, List.set_cons_succ, i64_w, i32_w]
    rfl
   refine pure_ (i := 35) (N := some 234) (v := ?_) (a' := ?_) #[true, true, true, true, true, true, true, true, true, true, true, true, true, true, true, true, true, true, true, true, true, true, true, true, true, true, true, true, true, true, true, true, true, true, true, true, false, false, false, false, false, false, false, false, false, false, false, false, false, false, false, false, false, false, false, false, false, false, false, false, false, false, false, false, false, false, false, false, false, false, false, false, false, false, false, false, false, false, false, false, false, false, false, false, false, false, false, false, false, false, false, false, false, false, false, false, false, false, false, false, false, false, false, false, false, false, false, false, false, false, false, false, false, false, false, false, false, false, false, false, false, false, false, false, false, false, false, false, false, false, false, false, false, false, false, false, false, false, false, false, false, false, false, false] rfl rfl (any_of HT_.out (by kernel_rfl)) (fun _ _ _ h => h) (Or.inl ⟨by rfl, ?_⟩) ?_ ?_
   rotate_left
   ·intro w'
    go_simp
    with_reducible rfl
   rotate_left
   ·simp only [Act.put, List.setIfInBounds_toArray, List.set_cons_zero, List.set_cons_succ, i64_w, i32_w]
    rfl
   refine pure_ (i := 36) (N := some 235) (v := ?_) (a' := ?_) #[true, true, true, true, true, true, true, true, true, true, true, true, true, true, true, true, true, true, true, true, true, true, true, true, true, true, true, true, true, true, true, true, true, true, true, true, true, false, false, false, false, false, false, false, false, false, false, false, false, false, false, false, false, false, false, false, false, false, false, false, false, false, false, false, false, false, false, false, false, false, false, false, false, false, false, false, false, false, false, false, false, false, false, false, false, false, false, false, false, false, false, false, false, false, false, false, false, false, false, false, false, false, false, false, false, false, false, false, false, false, false, false, false, false, false, false, false, false, false, false, false, false, false, false, false, false, false, false, false, false, false, false, false, false, false, false, false, false, false, false, false, false, false, false] rfl rfl (any_of HT_.out (by kernel_rfl)) (fun _ _ _ h => h) (Or.inl ⟨by rfl, ?_⟩) ?_ ?_
   rotate_left
   ·intro w'
    go_simp
    with_reducible rfl
   rotate_left
   ·simp only [Act.put, List.setIfInBounds_toArray, List.set_cons_zero, List.set_cons_succ, i64_w, i32_w]
    rfl
   refine pure_ (i := 37) (N := some 236) (v := ?_) (a' := ?_) #[true, true, true, true, true, true, true, true, true, true, true, true, true, true, true, true, true, true, true, true, true, true, true, true, true, true, true, true, true, true, true, true, true, true, true, true, true, true, false, false, false, false, false, false, false, false, false, false, false, false, false, false, false, false, false, false, false, false, false, false, false, false, false, false, false, false, false, false, false, false, false, false, false, false, false, false, false, false, false, false, false, false, false, false, false, false, false, false, false, false, false, false, false, false, false, false, false, false, false, false, false, false, false, false, false, false, false, false, false, false, false, false, false, false, false, false, false, false, false, false, false, false, false, false, false, false, false, false, false, false, false, false, false, false, false, false, false, false, false, false, false, false, false, false] rfl rfl (any_of HT_.out (by kernel_rfl)) (fun _ _ _ h => h) (Or.inl ⟨by rfl, ?_⟩) ?_ ?_
   rotate_left
   ·intro w'
    go_simp
    with_reducible rfl
   rotate_left
   ·simp only [Act.put, List.setIfInBounds_toArray, List.set_cons_zero, List.set_cons_succ, i64_w, i32_w]
    rfl
   refine pure_ (i := 38) (N := some 237) (v := ?_) (a' := ?_) #[true, true, true, true, true, true, true, true, true, true, true, true, true, true, true, true, true, true, true, true, true, true, true, true, true, true, true, true, true, true, true, true, true, true, true, true, true, true, true, false, false, false, false, false, false, false, false, false, false, false, false, false, false, false, false, false, false, false, false, false, false, false, false, false, false, false, false, false, false, false, false, false, false, false, false, false, false, false, false, false, false, false, false, false, false, false, false, false, false, false, false, false, false, false, false, false, false, false, false, false, false, false, false, false, false, false, false, false, false, false, false, false, false, false, false, false, false, false, false, false, false, false, false, false, false, false, false, false, false, false, false, false, false, false, false, false, false, false, false, false, false, false, false, false] rfl rfl (any_of HT_.out (by kernel_rfl)) (fun _ _ _ h => h) (Or.inl ⟨by rfl, ?_⟩) ?_ ?_
   rotate_left
   ·intro w'
    go_simp
    with_reducible rfl
   rotate_left
   ·simp only [Act.put, List.setIfInBounds_toArray, List.set_cons_zero, List.set_cons_succ, i64_w, i32_w]
    rfl
   refine pure_ (i := 39) (N := some 238) (v := ?_) (a' := ?_) #[true, true, true, true, true, true, true, true, true, true, true, true, true, true, true, true, true, true, true, true, true, true, true, true, true, true, true, true, true, true, true, true, true, true, true, true, true, true, true, true, false, false, false, false, false, false, false, false, false, false, false, false, false, false, false, false, false, false, false, false, false, false, false, false, false, false, false, false, false, false, false, false, false, false, false, false, false, false, false, false, false, false, false, false, false, false, false, false, false, false, false, false, false, false, false, false, false, false, false, false, false, false, false, false, false, false, false, false, false, false, false, false, false, false, false, false, false, false, false, false, false, false, false, false, false, false, false, false, false, false, false, false, false, false, false, false, false, false, false, false, false, false, false, false] rfl rfl (any_of HT_.out (by kernel_rfl)) (fun _ _ _ h => h) (Or.inl ⟨by rfl, ?_⟩) ?_ ?_
   rotate_left
   ·intro w'
    go_simp
    with_reducible rfl
   rotate_left
   ·simp only [Act.put, List.setIfInBounds_toArray, List.set_cons_zero, List.set_cons_succ, i64_w, i32_w]
    rfl
   refine pure_ (i := 40) (N := some 239) (v := ?_) (a' := ?_) #[true, true, true, true, true, true, true, true, true, true, true, true, true, true, true, true, true, true, true, true, true, true, true, true, true, true, true, true, true, true, true, true, true, true, true, true, true, true, true, true, true, false, false, false, false, false, false, false, false, false, false, false, false, false, false, false, false, false, false, false, false, false, false, false, false, false, false, false, false, false, false, false, false, false, false, false, false, false, false, false, false, false, false, false, false, false, false, false, false, false, false, false, false, false, false, false, false, false, false, false, false, false, false, false, false, false, false, false, false, false, false, false, false, false, false, false, false, false, false, false, false, false, false, false, false, false, false, false, false, false, false, false, false, false, false, false, false, false, false, false, false, false, false, false] rfl rfl (any_of HT_.out (by kernel_rfl)) (fun _ _ _ h => h) (Or.inl ⟨by rfl, ?_⟩) ?_ ?_
   rotate_left
   ·intro w'
    go_simp
    with_reducible rfl
   rotate_left
   ·simp only [Act.put, List.setIfInBounds_toArray, List.set_cons_zero, List.set_cons_succ, i64_w, i32_w]
    rfl
   refine pure_ (i := 41) (N := some 240) (v := ?_) (a' := ?_) #[true, true, true, true, true, true, true, true, true, true, true, true, true, true, true, true, true, true, true, true, true, true, true, true, true, true, true, true, true, true, true, true, true, true, true, true, true, true, true, true, true, true, false, false, false, false, false, false, false, false, false, false, false, false, false, false, false, false, false, false, false, false, false, false, false, false, false, false, false, false, false, false, false, false, false, false, false, false, false, false, false, false, false, false, false, false, false, false, false, false, false, false, false, false, false, false, false, false, false, false, false, false, false, false, false, false, false, false, false, false, false, false, false, false, false, false, false, false, false, false, false, false, false, false, false, false, false, false, false, false, false, false, false, false, false, false, false, false, false, false, false, false, false, false] rfl rfl (any_of HT_.out (by kernel_rfl)) (fun _ _ _ h => h) (Or.inl ⟨by rfl, ?_⟩) ?_ ?_
   rotate_left
   ·intro w'
    go_simp
    with_reducible rfl
   rotate_left
   ·simp only [Act.put, List.setIfInBounds_toArray, List.set_cons_zero, List.set_cons_succ, i64_w, i32_w]
    rfl
   refine pure_ (i := 42) (N := some 241) (v := ?_) (a' := ?_) #[true, true, true, true, true, true, true, true, true, true, true, true, true, true, true, true, true, true, true, true, true, true, true, true, true, true, true, true, true, true, true, true, true, true, true, true, true, true, true, true, true, true, true, false, false, false, false, false, false, false, false, false, false, false, false, false, false, false, false, false, false, false, false, false, false, false, false, false, false, false, false, false, false, false, false, false, false, false, false, false, false, false, false, false, false, false, false, false, false, false, false, false, false, false, false, false, false, false, false, false, false, false, false, false, false, false, false, false, false, false, false, false, false, false, false, false, false, false, false, false, false, false, false, false, false, false, false, false, false, false, false, false, false, false, false, false, false, false, false, false, false, false, false, false] rfl rfl (any_of HT_.out (by kernel_rfl)) (fun _ _ _ h => h) (Or.inl ⟨by rfl, ?_⟩) ?_ ?_
   rotate_left
   ·intro w'
    go_simp
    with_reducible rfl
   rotate_left
   ·simp only [Act.put, List.setIfInBounds_toArray, List.set_cons_zero, List.set_cons_succ, i64_w, i32_w]
    rfl
   refine pure_ (i := 43) (N := some 242) (v := ?_) (a' := ?_) #[true, true, true, true, true, true, true, true, true, true, true, true, true, true, true, true, true, true, true, true, true, true, true, true, true, true, true, true, true, true, true, true, true, true, true, true, true, true, true, true, true, true, true, true, false, false, false, false, false, false, false, false, false, false, false, false, false, false, false, false, false, false, false, false, false, false, false, false, false, false, false, false, false, false, false, false, false, false, false, false, false, false, false, false, false, false, false, false, false, false, false, false, false, false, false, false, false, false, false, false, false, false, false, false, false, false, false, false, false, false, false, false, false, false, false, false, false, false, false, false, false, false, false, false, false, false, false, false, false, false, false, false, false, false, false, false, false, false, false, false, false, false, false, false] rfl rfl (any_of HT_.out (by kernel_rfl)) (fun _ _ _ h => h) (Or.inl ⟨by rfl, ?_⟩) ?_ ?_
   rotate_left
   ·intro w'
    go_simp
    with_reducible rfl
   rotate_left
   ·simp only [Act.put, List.setIfInBounds_toArray, List.set_cons_zero, List.set_cons_succ, i64_w, i32_w]
    rfl
   refine pure_ (i := 44) (N := some 243) (v := ?_) (a' := ?_) #[true, true, true, true, true, true, true, true, true, true, true, true, true, true, true, true, true, true, true, true, true, true, true, true, true, true, true, true, true, true, true, true, true, true, true, true, true, true, true, true, true, true, true, true, true, false, false, false, false, false, false, false, false, false, false, false, false, false, false, false, false, false, false, false, false, false, false, false, false, false, false, false, false, false, false, false, false, false, false, false, false, false, false, false, false, false, false, false, false, false, false, false, false, false, false, false, false, false, false, false, false, false, false, false, false, false, false, false, false, false, false, false, false, false, false, false, false, false, false, false, false, false, false, false, false, false, false, false, false, false, false, false, false, false, false, false, false, false, false, false, false, false, false, false] rfl rfl (any_of HT_.out (by kernel_rfl)) (fun _ _ _ h => h) (Or.inl ⟨by rfl, ?_⟩) ?_ ?_
   rotate_left
   ·intro w'
    go_simp
    with_reducible rfl
   rotate_left
   ·simp only [Act.put, List.setIfInBounds_toArray, List.set_cons_zero, List.set_cons_succ, i64_w, i32_w]
    rfl
   refine pure_ (i := 45) (N := some 244) (v := ?_) (a' := ?_) #[true, true, true, true, true, true, true, true, true, true, true, true, true, true, true, true, true, true, true, true, true, true, true, true, true, true, true, true, true, true, true, true, true, true, true, true, true, true, true, true, true, true, true, true, true, true, false, false, false, false, false, false, false, false, false, false, false, false, false, false, false, false, false, false, false, false, false, false, false, false, false, false, false, false, false, false, false, false, false, false, false, false, false, false, false, false, false, false, false, false, false, false, false, false, false, false, false, false, false, false, false, false, false, false, false, false, false, false, false, false, false, false, false, false, false, false, false, false, false, false, false, false, false, false, false, false, false, false, false, false, false, false, false, false, false, false, false, false, false, false, false, false, false, false] rfl rfl (any_of HT_.out (by kernel_rfl)) (fun _ _ _ h => h) (Or.inl ⟨by rfl, ?_⟩) ?_ ?_
   rotate_left
   ·intro w'
    go_simp
    with_reducible rfl
   rotate_left
   ·simp only [Act.put, List.setIfInBounds_toArray, List.set_cons_zero, List.set_cons_succ, i64_w, i32_w]
    rfl
   refine pure_ (i := 46) (N := some 245) (v := ?_) (a' := ?_) #[true, true, true, true, true, true, true, true, true, true, true, true, true, true, true, true, true, true, true, true, true, true, true, true, true, true, true, true, true, true, true, true, true, true, true, true, true, true, true, true, true, true, true, true, true, true, true, false, false, false, false, false, false, false, false, false, false, false, false, false, false, false, false, false, false, false, false, false, false, false, false, false, false, false, false, false, false, false, false, false, false, false, false, false, false, false, false, false, false, false, false, false, false, false, false, false, false, false, false, false, false, false, false, false, false, false, false, false, false, false, false, false, false, false, false, false, false, false, false, false, false, false, false, false, false, false, false, false, false, false, false, false, false, false, false, false, false, false, false, false, false, false, false, false] rfl rfl (any_of HT_.out (by kernel_rfl)) (fun _ _ _ h => h) (Or.inl ⟨by rfl, ?_⟩) ?_ ?_
   rotate_left
   ·intro w'
    go_simp
    with_reducible rfl
   rotate_left
   ·simp only [Act.put, List.setIfInBounds_toArray, List.set_cons_zero, List.set_cons_succ, i64_w, i32_w]
    rfl
   refine pure_ (i := 47) (N := some 246) (v := ?_) (a' := ?_) #[true, true, true, true, true, true, true, true, true, true, true, true, true, true, true, true, true, true, true, true, true, true, true, true, true, true, true, true, true, true, true, true, true, true, true, true, true, true, true, true, true, true, true, true, true, true, true, true, false, false, false, false, false, false, false, false, false, false, false, false, false, false, false, false, false, false, false, false, false, false, false, false, false, false, false, false, false, false, false, false, false, false, false, false, false, false, false, false, false, false, false, false, false, false, false, false, false, false, false, false, false, false, false, false, false, false, false, false, false, false, false, false, false, false, false, false, false, false, false, false, false, false, false, false, false, false, false, false, false, false, false, false, false, false, false, false, false, false, false, false, false, false, false, false] rfl rfl (any_of HT_.out (by kernel_rfl)) (fun _ _ _ h => h) (Or.inl ⟨by rfl, ?_⟩) ?_ ?_
   rotate_left
   ·intro w'
    go_simp
    with_reducible rfl
   rotate_left
   ·simp only [Act.put, List.setIfInBounds_toArray, List.set_cons_zero, List.set_cons_succ, i64_w, i32_w]
    rfl
   refine pure_ (i := 48) (N := some 247) (v := ?_) (a' := ?_) #[true, true, true, true, true, true, true, true, true, true, true, true, true, true, true, true, true, true, true, true, true, true, true, true, true, true, true, true, true, true, true, true, true, true, true, true, true, true, true, true, true, true, true, true, true, true, true, true, true, false, false, false, false, false, false, false, false, false, false, false, false, false, false, false, false, false, false, false, false, false, false, false, false, false, false, false, false, false, false, false, false, false, false, false, false, false, false, false, false, false, false, false, false, false, false, false, false, false, false, false, false, false, false, false, false, false, false, false, false, false, false, false, false, false, false, false, false, false, false, false, false, false, false, false, false, false, false, false, false, false, false, false, false, false, false, false, false, false, false, false, false, false, false, false] rfl rfl (any_of HT_.out (by kernel_rfl)) (fun _ _ _ h => h) (Or.inl ⟨by rfl, ?_⟩) ?_ ?_
   rotate_left
   ·intro w'
    go_simp
    with_reducible rfl
   rotate_left
   ·simp only [Act.put, List.setIfInBounds_toArray, List.set_cons_zero, List.set_cons_succ, i64_w, i32_w]
    rfl
   refine pure_ (i := 49) (N := some 248) (v := ?_) (a' := ?_) #[true, true, true, true, true, true, true, true, true, true, true, true, true, true, true, true, true, true, true, true, true, true, true, true, true, true, true, true, true, true, true, true, true, true, true, true, true, true, true, true, true, true, true, true, true, true, true, true, true, true, false, false, false, false, false, false, false, false, false, false, false, false, false, false, false, false, false, false, false, false, false, false, false, false, false, false, false, false, false, false, false, false, false, false, false, false, false, false, false, false, false, false, false, false, false, false, false, false, false, false, false, false, false, false, false, false, false, false, false, false, false, false, false, false, false, false, false, false, false, false, false, false, false, false, false, false, false, false, false, false, false, false, false, false, false, false, false, false, false, false, false, false, false, false] rfl rfl (any_of HT_.out (by kernel_rfl)) (fun _ _ _ h => h) (Or.inl ⟨by rfl, ?_⟩) ?_ ?_
   rotate_left
   ·intro w'
    go_simp
    with_reducible rfl
   rotate_left
   ·simp only [Act.put, List.setIfInBounds_toArray, List.set_cons_zero, List.set_cons_succ, i64_w, i32_w]
    rfl
   refine pure_ (i := 50) (N := some 249) (v := ?_) (a' := ?_) #[true, true, true, true, true, true, true, true, true, true, true, true, true, true, true, true, true, true, true, true, true, true, true, true, true, true, true, true, true, true, true, true, true, true, true, true, true, true, true, true, true, true, true, true, true, true, true, true, true, true, true, false, false, false, false, false, false, false, false, false, false, false, false, false, false, false, false, false, false, false, false, false, false, false, false, false, false, false, false, false, false, false, false, false, false, false, false, false, false, false, false, false, false, false, false, false, false, false, false, false, false, false, false, false, false, false, false, false, false, false, false, false, false, false, false, false, false, false, false, false, false, false, false, false, false, false, false, false, false, false, false, false, false, false, false, false, false, false, false, false, false, false, false, false] rfl rfl (any_of HT_.out (by kernel_rfl)) (fun _ _ _ h => h) (Or.inl ⟨by rfl, ?_⟩) ?_ ?_
   rotate_left
   ·intro w'
    go_simp
    with_reducible rfl
   rotate_left
   ·simp only [Act.put, List.setIfInBounds_toArray, List.set_cons_zero, List.set_cons_succ, i64_w, i32_w]
    rfl
   refine pure_ (i := 51) (N := some 250) (v := ?_) (a' := ?_) #[true, true, true, true, true, true, true, true, true, true, true, true, true, true, true, true, true, true, true, true, true, true, true, true, true, true, true, true, true, true, true, true, true, true, true, true, true, true, true, true, true, true, true, true, true, true, true, true, true, true, true, true, false, false, false, false, false, false, false, false, false, false, false, false, false, false, false, false, false, false, false, false, false, false, false, false, false, false, false, false, false, false, false, false, false, false, false, false, false, false, false, false, false, false, false, false, false, false, false, false, false, false, false, false, false, false, false, false, false, false, false, false, false, false, false, false, false, false, false, false, false, false, false, false, false, false, false, false, false, false, false, false, false, false, false, false, false, false, false, false, false, false, false, false] rfl rfl (any_of HT_.out (by kernel_rfl)) (fun _ _ _ h => h) (Or.inl ⟨by rfl, ?_⟩) ?_ ?_
   rotate_left
   ·intro w'
    go_simp
    with_reducible rfl
   rotate_left
   ·simp only [Act.put, List.setIfInBounds_toArray, List.set_cons_zero, List.set_cons_succ, i64_w, i32_w]
    rfl
   refine pure_ (i := 52) (N := some 251) (v := ?_) (a' := ?_) #[true, true, true, true, true, true, true, true, true, true, true, true, true, true, true, true, true, true, true, true, true, true, true, true, true, true, true, true, true, true, true, true, true, true, true, true, true, true, true, true, true, true, true, true, true, true, true, true, true, true, true, true, true, false, false, false, false, false, false, false, false, false, false, false, false, false, false, false, false, false, false, false, false, false, false, false, false, false, false, false, false, false, false, false, false, false, false, false, false, false, false, false, false, false, false, false, false, false, false, false, false, false, false, false, false, false, false, false, false, false, false, false, false, false, false, false, false, false, false, false, false, false, false, false, false, false, false, false, false, false, false, false, false, false, false, false, false, false, false, false, false, false, false, false] rfl rfl (any_of HT_.out (by kernel_rfl)) (fun _ _ _ h => h) (Or.inl ⟨by rfl, ?_⟩) ?_ ?_
   rotate_left
   ·intro w'
    go_simp
    with_reducible rfl
   rotate_left
   ·simp only [Act.put, List.setIfInBounds_toArray, List.set_cons_zero, List.set_cons_succ, i64_w, i32_w]
    rfl
   refine pure_ (i := 53) (N := some 252) (v := ?_) (a' := ?_) #[true, true, true, true, true, true, true, true, true, true, true, true, true, true, true, true, true, true, true, true, true, true, true, true, true, true, true, true, true, true, true, true, true, true, true, true, true, true, true, true, true, true, true, true, true, true, true, true, true, true, true, true, true, true, false, false, false, false, false, false, false, false, false, false, false, false, false, false, false, false, false, false, false, false, false, false, false, false, false, false, false, false, false, false, false, false, false, false, false, false, false, false, false, false, false, false, false, false, false, false, false, false, false, false, false, false, false, false, false, false, false, false, false, false, false, false, false, false, false, false, false, false, false, false, false, false, false, false, false, false, false, false, false, false, false, false, false, false, false, false, false, false, false, false] rfl rfl (any_of HT_.out (by kernel_rfl)) (fun _ _ _ h => h) (Or.inl ⟨by rfl, ?_⟩) ?_ ?_
   rotate_left
   ·intro w'
    go_simp
    with_reducible rfl
   rotate_left
   ·simp only [Act.put, List.setIfInBounds_toArray, List.set_cons_zero, List.set_cons_succ, i64_w, i32_w]
    rfl
   refine take_ (i := 54) (N := some 253) (v := ?_) (a' := ?_) #[true, true, true, true, true, true, true, true, true, true, true, true, true, true, true, true, true, true, true, true, true, true, true, true, true, true, true, true, true, true, true, true, true, true, true, true, true, true, true, true, true, true, true, true, true, true, true, true, true, true, true, true, true, true, true, false, false, false, false, false, false, false, false, false, false, false, false, false, false, false, false, false, false, false, false, false, false, false, false, false, false, false, false, false, false, false, false, false, false, false, false, false, false, false, false, false, false, false, false, false, false, false, false, false, false, false, false, false, false, false, false, false, false, false, false, false, false, false, false, false, false, false, false, false, false, false, false, false, false, false, false, false, false, false, false, false, false, false, false, false, false, false, false, false] rfl rfl (take_ofW HT_.out HW_.out (by kernel_rfl)) (fun _ _ _ h => h) (Or.inl ⟨by rfl, ?_⟩) hHeld ?_ ?_
   rotate_left
   ·rintro w' ⟨s0, s1, s2, s3, s4, s5, s6, s7, s8, s9⟩
    go_simp
    with_reducible rfl
   rotate_left
   ·simp only [Act.put, List.setIfInBounds_toArray, List.set_cons_zero, List.set_cons_succ, i64_w, i32_w]
    rfl
   refine pure_ (i := 55) (N := some 254) (v := ?_) (a' := ?_) #[true, true, true, true, true, true, true, true, true, true, true, true, true, true, true, true, true, true, true, true, true, true, true, true, true, true, true, true, true, true, true, true, true, true, true, true, true, true, true, true, true, true, true, true, true, true, true, true, true, true, true, true, true, true, true, true, false, false, false, false, false, false, false, false, false, false, false, false, false, false, false, false, false, false, false, false, false, false, false, false, false, false, false, false, false, false, false, false, false, false, false, false, false, false, false, false, false, false, false, false, false, false, false, false, false, false, false, false, false, false, false, false, false, false, false, false, false, false, false, false, false, false, false, false, false, false, false, false, false, false, false, false, false, false, false, false, false, false, false, false, false, false, false, false] rfl rfl (any_of HT_.out (by kernel_rfl)) (fun _ _ _ h => h) (Or.inl ⟨by rfl, ?_⟩) ?_ ?_
   rotate_left
   ·intro w'
    go_simp
    with_reducible rfl
   rotate_left
   ·simp only [Act.put, List.setIfInBounds_toArray, List.set_cons_zero, List.set_cons_succ, i64_w, i32_w]
    rfl
   refine pure_ (i := 56) (N := some 255) (v := ?_) (a' := ?_) #[true, true, true, true, true, true, true, true, true, true, true, true, true, true, true, true, true, true, true, true, true, true, true, true, true, true, true, true, true, true, true, true, true, true, true, true, true, true, true, true, true, true, true, true, true, true, true, true, true, true, true, true, true, true, true, true, true, false, false, false, false, false, false, false, false, false, false, false, false, false, false, false, false, false, false, false, false, false, false, false, false, false, false, false, false, false, false, false, false, false, false, false, false, false, false, false, false, false, false, false, false, false, false, false, false, false, false, false, false, false, false, false, false, false, false, false, false, false, false, false, false, false, false, false, false, false, false, false, false, false, false, false, false, false, false, false, false, false, false, false, false, false, false, false] rfl rfl (any_of HT_.out (by kernel_rfl)) (fun _ _ _ h => h) (Or.inl ⟨by rfl, ?_⟩) ?_ ?_
   rotate_left
   ·intro w'
    go_simp
    with_reducible rfl
   rotate_left
   ·simp only [Act.put, List.setIfInBounds_toArray, List.set_cons_zero, List.set_cons_succ, i64_w, i32_w]
    rfl
   refine pure_ (i := 57) (N := some 256) (v := ?_) (a' := ?_) #[true, true, true, true, true, true, true, true, true, true, true, true, true, true, true, true, true, true, true, true, true, true, true, true, true, true, true, true, true, true, true, true, true, true, true, true, true, true, true, true, true, true, true, true, true, true, true, true, true, true, true, true, true, true, true, true, true, true, false, false, false, false, false, false, false, false, false, false, false, false, false, false, false, false, false, false, false, false, false, false, false, false, false, false, false, false, false, false, false, false, false, false, false, false, false, false, false, false, false, false, false, false, false, false, false, false, false, false, false, false, false, false, false, false, false, false, false, false, false, false, false, false, false, false, false, false, false, false, false, false, false, false, false, false, false, false, false, false, false, false, false, false, false, false] rfl rfl (any_of HT_.out (by kernel_rfl)) (fun _ _ _ h => h) (Or.inl ⟨by rfl, ?_⟩) ?_ ?_
   rotate_left
   ·intro w'
    go_simp
    with_reducible rfl
   rotate_left
   ·simp only [Act.put, List.setIfInBounds_toArray, List.set_cons_zero, List.set_cons_succ, i64_w, i32_w]
    rfl
   refine pure_ (i := 58) (N := some 257) (v := ?_) (a' := ?_) #[true, true, true, true, true, true, true, true, true, true, true, true, true, true, true, true, true, true, true, true, true, true, true, true, true, true, true, true, true, true, true, true, true, true, true, true, true, true, true, true, true, true, true, true, true, true, true, true, true, true, true, true, true, true, true, true, true, true, true, false, false, false, false, false, false, false, false, false, false, false, false, false, false, false, false, false, false, false, false, false, false, false, false, false, false, false, false, false, false, false, false, false, false, false, false, false, false, false, false, false, false, false, false, false, false, false, false, false, false, false, false, false, false, false, false, false, false, false, false, false, false, false, false, false, false, false, false, false, false, false, false, false, false, false, false, false, false, false, false, false, false, false, false, false] rfl rfl (any_of HT_.out (by kernel_rfl)) (fun _ _ _ h => h) (Or.inl ⟨by rfl, ?_⟩) ?_ ?_
   rotate_left
   ·intro w'
    go_simp
    with_reducible rfl
   rotate_left
   ·simp only [Act.put, List.setIfInBounds_toArray, List.set_cons_zero, List.set_cons_succ, i64_w, i32_w]
    rfl
   refine pure_ (i := 59) (N := some 258) (v := ?_) (a' := ?_) #[true, true, true, true, true, true, true, true, true, true, true, true, true, true, true, true, true, true, true, true, true, true, true, true, true, true, true, true, true, true, true, true, true, true, true, true, true, true, true, true, true, true, true, true, true, true, true, true, true, true, true, true, true, true, true, true, true, true, true, true, false, false, false, false, false, false, false, false, false, false, false, false, false, false, false, false, false, false, false, false, false, false, false, false, false, false, false, false, false, false, false, false, false, false, false, false, false, false, false, false, false, false, false, false, false, false, false, false, false, false, false, false, false, false, false, false, false, false, false, false, false, false, false, false, false, false, false, false, false, false, false, false, false, false, false, false, false, false, false, false, false, false, false, false] rfl rfl (any_of HT_.out (by kernel_rfl)) (fun _ _ _ h => h) (Or.inl ⟨by rfl, ?_⟩) ?_ ?_
   rotate_left
   ·intro w'
    go_simp
    with_reducible rfl
   rotate_left
   ·simp only [Act.put, List.setIfInBounds_toArray, List.set_cons_zero, List.set_cons_succ, i64_w, i32_w]
    rfl
   refine pure_ (i := 60) (N := some 259) (v := ?_) (a' := ?_) #[true, true, true, true, true, true, true, true, true, true, true, true, true, true, true, true, true, true, true, true, true, true, true, true, true, true, true, true, true, true, true, true, true, true, true, true, true, true, true, true, true, true, true, true, true, true, true, true, true, true, true, true, true, true, true, true, true, true, true, true, true, false, false, false, false, false, false, false, false, false, false, false, false, false, false, false, false, false, false, false, false, false, false, false, false, false, false, false, false, false, false, false, false, false, false, false, false, false, false, false, false, false, false, false, false, false, false, false, false, false, false, false, false, false, false, false, false, false, false, false, false, false, false, false, false, false, false, false, false, false, false, false, false, false, false, false, false, false, false, false, false, false, false, false] rfl rfl (any_of HT_.out (by kernel_rfl)) (fun _ _ _ h => h) (Or.inl ⟨by rfl, ?_⟩) ?_ ?_
   rotate_left
   ·intro w'
    go_simp
    with_reducible rfl
   rotate_left
   ·simp only [Act.put, List.setIfInBounds_toArray, List.set_cons_zero, List.set_cons_succ, i64_w, i32_w]
    rfl
   refine pure_ (i := 61) (N := some 260) (v := ?_) (a' := ?_) #[true, true, true, true, true, true, true, true, true, true, true, true, true, true, true, true, true, true, true, true, true, true, true, true, true, true, true, true, true, true, true, true, true, true, true, true, true, true, true, true, true, true, true, true, true, true, true, true, true, true, true, true, true, true, true, true, true, true, true, true, true, true, false, false, false, false, false, false, false, false, false, false, false, false, false, false, false, false, false, false, false, false, false, false, false, false, false, false, false, false, false, false, false, false, false, false, false, false, false, false, false, false, false, false, false, false, false, false, false, false, false, false, false, false, false, false, false, false, false, false, false, false, false, false, false, false, false, false, false, false, false, false, false, false, false, false, false, false, false, false, false, false, false, false] rfl rfl (any_of HT_.out (by kernel_rfl)) (fun _ _ _ h => h) (Or.inl ⟨by rfl, ?_⟩) ?_ ?_
   rotate_left
   ·intro w'
    go_simp
    with_reducible rfl
   rotate_left
   ·simp only [Act.put, List.setIfInBounds_toArray, List.set_cons_zero, List.set_cons_succ, i64_w, i32_w]
    rfl
   refine pure_ (i := 62) (N := some 261) (v := ?_) (a' := ?_) #[true, true, true, true, true, true, true, true, true, true, true, true, true, true, true, true, true, true, true, true, true, true, true, true, true, true, true, true, true, true, true, true, true, true, true, true, true, true, true, true, true, true, true, true, true, true, true, true, true, true, true, true, true, true, true, true, true, true, true, true, true, true, true, false, false, false, false, false, false, false, false, false, false, false, false, false, false, false, false, false, false, false, false, false, false, false, false, false, false, false, false, false, false, false, false, false, false, false, false, false, false, false, false, false, false, false, false, false, false, false, false, false, false, false, false, false, false, false, false, false, false, false, false, false, false, false, false, false, false, false, false, false, false, false, false, false, false, false, false, false, false, false, false, false] rfl rfl (any_of HT_.out (by kernel_rfl)) (fun _ _ _ h => h) (Or.inl ⟨by rfl, ?_⟩) ?_ ?_
   rotate_left
   ·intro w'
    go_simp
    with_reducible rfl
   rotate_left
   ·simp only [Act.put, List.setIfInBounds_toArray, List.set_cons_zero, List.set_cons_succ, i64_w, i32_w]
    rfl
   refine pure_ (i := 63) (N := some 262) (v := ?_) (a' := ?_) #[true, true, true, true, true, true, true, true, true, true, true, true, true, true, true, true, true, true, true, true, true, true, true, true, true, true, true, true, true, true, true, true, true, true, true, true, true, true, true, true, true, true, true, true, true, true, true, true, true, true, true, true, true, true, true, true, true, true, true, true, true, true, true, true, false, false, false, false, false, false, false, false, false, false, false, false, false, false, false, false, false, false, false, false, false, false, false, false, false, false, false, false, false, false, false, false, false, false, false, false, false, false, false, false, false, false, false, false, false, false, false, false, false, false, false, false, false, false, false, false, false, false, false, false, false, false, false, false, false, false, false, false, false, false, false, false, false, false, false, false, false, false, false, false] rfl rfl (any_of HT_.out (by kernel_rfl)) (fun _ _ _ h => h) (Or.inl ⟨by rfl, ?_⟩) ?_ ?_
   rotate_left
   ·intro w'
    go_simp
    with_reducible rfl
   rotate_left
   ·simp only [Act.put, List.setIfInBounds_toArray, List.set_cons_zero, List.set_cons_succ, i64_w, i32_w]
    rfl
   refine pure_ (i := 64) (N := some 263) (v := ?_) (a' := ?_) #[true, true, true, true, true, true, true, true, true, true, true, true, true, true, true, true, true, true, true, true, true, true, true, true, true, true, true, true, true, true, true, true, true, true, true, true, true, true, true, true, true, true, true, true, true, true, true, true, true, true, true, true, true, true, true, true, true, true, true, true, true, true, true, true, true, false, false, false, false, false, false, false, false, false, false, false, false, false, false, false, false, false, false, false, false, false, false, false, false, false, false, false, false, false, false, false, false, false, false, false, false, false, false, false, false, false, false, false, false, false, false, false, false, false, false, false, false, false, false, false, false, false, false, false, false, false, false, false, false, false, false, false, false, false, false, false, false, false, false, false, false, false, false, false] rfl rfl (any_of HT_.out (by kernel_rfl)) (fun _ _ _ h => h) (Or.inl ⟨by rfl, ?_⟩) ?_ ?_
   rotate_left
   ·intro w'
    go_simp
    with_reducible rfl
   rotate_left
   ·simp only [Act.put, List.setIfInBounds_toArray, List.set_cons_zero, List.set_cons_succ, i64_w, i32_w]
    rfl
   refine pure_ (i := 65) (N := some 264) (v := ?_) (a' := ?_) #[true, true, true, true, true, true, true, true, true, true, true, true, true, true, true, true, true, true, true, true, true, true, true, true, true, true, true, true, true, true, true, true, true, true, true, true, true, true, true, true, true, true, true, true, true, true, true, true, true, true, true, true, true, true, true, true, true, true, true, true, true, true, true, true, true, true, false, false, false, false, false, false, false, false, false, false, false, false, false, false, false, false, false, false, false, false, false, false, false, false, false, false, false, false, false, false, false, false, false, false, false, false, false, false, false, false, false, false, false, false, false, false, false, false, false, false, false, false, false, false, false, false, false, false, false, false, false, false, false, false, false, false, false, false, false, false, false, false, false, false, false, false, false, false] rfl rfl (any_of HT_.out (by kernel_rfl)) (fun _ _ _ h => h) (Or.inl ⟨by rfl, ?_⟩) ?_ ?_
   rotate_left
   ·intro w'
    go_simp
    with_reducible rfl
   rotate_left
   ·simp only [Act.put, List.setIfInBounds_toArray, List.set_cons_zero, List.set_cons_succ, i64_w, i32_w]
    rfl
   refine pure_ (i := 66) (N := some 265) (v := ?_) (a' := ?_) #[true, true, true, true, true, true, true, true, true, true, true, true, true, true, true, true, true, true, true, true, true, true, true, true, true, true, true, true, true, true, true, true, true, true, true, true, true, true, true, true, true, true, true, true, true, true, true, true, true, true, true, true, true, true, true, true, true, true, true, true, true, true, true, true, true, true, true, false, false, false, false, false, false, false, false, false, false, false, false, false, false, false, false, false, false, false, false, false, false, false, false, false, false, false, false, false, false, false, false, false, false, false, false, false, false, false, false, false, false, false, false, false, false, false, false, false, false, false, false, false, false, false, false, false, false, false, false, false, false, false, false, false, false, false, false, false, false, false, false, false, false, false, false, false] rfl rfl (any_of HT_.out (by kernel_rfl)) (fun _ _ _ h => h) (Or.inl ⟨by rfl, ?_⟩) ?_ ?_
   rotate_left
   ·intro w'
    go_simp
    with_reducible rfl
   rotate_left
   ·simp only [Act.put, List.setIfInBounds_toArray, List.set_cons_zero, List.set_cons_succ, i64_w, i32_w]
    rfl
   refine pure_ (i := 67) (N := some 266) (v := ?_) (a' := ?_) #[true, true, true, true, true, true, true, true, true, true, true, true, true, true, true, true, true, true, true, true, true, true, true, true, true, true, true, true, true, true, true, true, true, true, true, true, true, true, true, true, true, true, true, true, true, true, true, true, true, true, true, true, true, true, true, true, true, true, true, true, true, true, true, true, true, true, true, true, false, false, false, false, false, false, false, false, false, false, false, false, false, false, false, false, false, false, false, false, false, false, false, false, false, false, false, false, false, false, false, false, false, false, false, false, false, false, false, false, false, false, false, false, false, false, false, false, false, false, false, false, false, false, false, false, false, false, false, false, false, false, false, false, false, false, false, false, false, false, false, false, false, false, false, false] rfl rfl (any_of HT_.out (by kernel_rfl)) (fun _ _ _ h => h) (Or.inl ⟨by rfl, ?_⟩) ?_ ?_
   rotate_left
   ·intro w'
    go_simp
    with_reducible rfl
   rotate_left
   ·simp only [Act.put, List.setIfInBounds_toArray, List.set_cons_zero, List.set_cons_succ, i64_w, i32_w]
    rfl
   refine pure_ (i := 68) (N := some 267) (v := ?_) (a' := ?_) #[true, true, true, true, true, true, true, true, true, true, true, true, true, true, true, true, true, true, true, true, true, true, true, true, true, true, true, true, true, true, true, true, true, true, true, true, true, true, true, true, true, true, true, true, true, true, true, true, true, true, true, true, true, true, true, true, true, true, true, true, true, true, true, true, true, true, true, true, true, false, false, false, false, false, false, false, false, false, false, false, false, false, false, false, false, false, false, false, false, false, false, false, false, false, false, false, false, false, false, false, false, false, false, false, false, false, false, false, false, false, false, false, false, false, false, false, false, false, false, false, false, false, false, false, false, false, false, false, false, false, false, false, false, false, false, false, false, false, false, false, false, false, false, false] rfl rfl (any_of HT_.out (by kernel_rfl)) (fun _ _ _ h => h) (Or.inl ⟨by rfl, ?_⟩) ?_ ?_
   rotate_left
   ·intro w'
    go_simp
    with_reducible rfl
   rotate_left
   ·simp only [Act.put, List.setIfInBounds_toArray, List.set_cons_zero, List.set_cons_succ, i64_w, i32_w]
    rfl
   refine pure_ (i := 69) (N := some 268) (v := ?_) (a' := ?_) #[true, true, true, true, true, true, true, true, true, true, true, true, true, true, true, true, true, true, true, true, true, true, true, true, true, true, true, true, true, true, true, true, true, true, true, true, true, true, true, true, true, true, true, true, true, true, true, true, true, true, true, true, true, true, true, true, true, true, true, true, true, true, true, true, true, true, true, true, true, true, false, false, false, false, false, false, false, false, false, false, false, false, false, false, false, false, false, false, false, false, false, false, false, false, false, false, false, false, false, false, false, false, false, false, false, false, false, false, false, false, false, false, false, false, false, false, false, false, false, false, false, false, false, false, false, false, false, false, false, false, false, false, false, false, false, false, false, false, false, false, false, false, false, false] rfl rfl (any_of HT_.out (by kernel_rfl)) (fun _ _ _ h => h) (Or.inl ⟨by rfl, ?_⟩) ?_ ?_
   rotate_left
   ·intro w'
    go_simp
    with_reducible rfl
   rotate_left
   ·simp only [Act.put, List.setIfInBounds_toArray, List.set_cons_zero, List.set_cons_succ, i64_w, i32_w]
    rfl
   refine pure_ (i := 70) (N := some 269) (v := ?_) (a' := ?_) #[true, true, true, true, true, true, true, true, true, true, true, true, true, true, true, true, true, true, true, true, true, true, true, true, true, true, true, true, true, true, true, true, true, true, true, true, true, true, true, true, true, true, true, true, true, true, true, true, true, true, true, true, true, true, true, true, true, true, true, true, true, true, true, true, true, true, true, true, true, true, true, false, false, false, false, false, false, false, false, false, false, false, false, false, false, false, false, false, false, false, false, false, false, false, false, false, false, false, false, false, false, false, false, false, false, false, false, false, false, false, false, false, false, false, false, false, false, false, false, false, false, false, false, false, false, false, false, false, false, false, false, false, false, false, false, false, false, false, false, false, false, false, false, false] rfl rfl (any_of HT_.out (by kernel_rfl)) (fun _ _ _ h => h) (Or.inl ⟨by rfl, ?_⟩) ?_ ?_
   rotate_left
   ·intro w'
    go_simp
    with_reducible rfl
   rotate_left
   ·simp only [Act.put, List.setIfInBounds_toArray, List.set_cons_zero, List.set_cons_succ, i64_w, i32_w]
    rfl
   refine pure_ (i := 71) (N := some 270) (v := ?_) (a' := ?_) #[true, true, true, true, true, true, true, true, true, true, true, true, true, true, true, true, true, true, true, true, true, true, true, true, true, true, true, true, true, true, true, true, true, true, true, true, true, true, true, true, true, true, true, true, true, true, true, true, true, true, true, true, true, true, true, true, true, true, true, true, true, true, true, true, true, true, true, true, true, true, true, true, false, false, false, false, false, false, false, false, false, false, false, false, false, false, false, false, false, false, false, false, false, false, false, false, false, false, false, false, false, false, false, false, false, false, false, false, false, false, false, false, false, false, false, false, false, false, false, false, false, false, false, false, false, false, false, false, false, false, false, false, false, false, false, false, false, false, false, false, false, false, false, false] rfl rfl (any_of HT_.out (by kernel_rfl)) (fun _ _ _ h => h) (Or.inl ⟨by rfl, ?_⟩) ?_ ?_
   rotate_left
   ·intro w'
    go_simp
    with_reducible rfl
   rotate_left
   ·simp only [Act.put, List.setIfInBounds_toArray, List.set_cons_zero, List.set_cons_succ, i64_w, i32_w]
    rfl
   refine take_ (i := 72) (N := some 271) (v := ?_) (a' := ?_) #[true, true, true, true, true, true, true, true, true, true, true, true, true, true, true, true, true, true, true, true, true, true, true, true, true, true, true, true, true, true, true, true, true, true, true, true, true, true, true, true, true, true, true, true, true, true, true, true, true, true, true, true, true, true, true, true, true, true, true, true, true, true, true, true, true, true, true, true, true, true, true, true, true, false, false, false, false, false, false, false, false, false, false, false, false, false, false, false, false, false, false, false, false, false, false, false, false, false, false, false, false, false, false, false, false, false, false, false, false, false, false, false, false, false, false, false, false, false, false, false, false, false, false, false, false, false, false, false, false, false, false, false, false, false, false, false, false, false, false, false, false, false, false, false] rfl rfl (take_ofW HT_.out HW_.out (by kernel_rfl)) (fun _ _ _ h => h) (Or.inl ⟨by rfl, ?_⟩) hHeld ?_ ?_
   rotate_left
   ·rintro w' ⟨s0, s1, s2, s3, s4, s5, s6, s7, s8, s9⟩
    go_simp
    with_reducible rfl
   rotate_left
   ·simp only [Act.put, List.setIfInBounds_toArray, List.set_cons_zero, List.set_cons_succ, i64_w, i32_w]
    rfl
   refine pure_ (i := 73) (N := some 272) (v := ?_) (a' := ?_) #[true, true, true, true, true, true, true, true, true, true, true, true, true, true, true, true, true, true, true, true, true, true, true, true, true, true, true, true, true, true, true, true, true, true, true, true, true, true, true, true, true, true, true, true, true, true, true, true, true, true, true, true, true, true, true, true, true, true, true, true, true, true, true, true, true, true, true, true, true, true, true, true, true, true, false, false, false, false, false, false, false, false, false, false, false, false, false, false, false, false, false, false, false, false, false, false, false, false, false, false, false, false, false, false, false, false, false, false, false, false, false, false, false, false, false, false, false, false, false, false, false, false, false, false, false, false, false, false, false, false, false, false, false, false, false, false, false, false, false, false, false, false, false, false] rfl rfl (any_of HT_.out (by kernel_rfl)) (fun _ _ _ h => h) (Or.inl ⟨by rfl, ?_⟩) ?_ ?_
   rotate_left
   ·intro w'
    go_simp
    with_reducible rfl
   rotate_left
   ·simp only [Act.put, List.setIfInBounds_toArray, List.set_cons_zero, List.set_cons_succ, i64_w, i32_w]
    rfl
   refine pure_ (i := 74) (N := some 273) (v := ?_) (a' := ?_) #[true, true, true, true, true, true, true, true, true, true, true, true, true, true, true, true, true, true, true, true, true, true, true, true, true, true, true, true, true, true, true, true, true, true, true, true, true, true, true, true, true, true, true, true, true, true, true, true, true, true, true, true, true, true, true, true, true, true, true, true, true, true, true, true, true, true, true, true, true, true, true, true, true, true, true, false, false, false, false, false, false, false, false, false, false, false, false, false, false, false, false, false, false, false, false, false, false, false, false, false, false, false, false, false, false, false, false, false, false, false, false, false, false, false, false, false, false, false, false, false, false, false, false, false, false, false, false, false, false, false, false, false, false, false, false, false, false, false, false, false, false, false, false, false] rfl rfl (any_of HT_.out (by kernel_rfl)) (fun _ _ _ h => h) (Or.inl ⟨by rfl, ?_⟩) ?_ ?_
   rotate_left
   ·intro w'
    go_simp
    with_reducible rfl
   rotate_left
   ·simp only [Act.put, List.setIfInBounds_toArray, List.set_cons_zero, List.set_cons_succ, i64_w, i32_w]
    rfl
   refine pure_ (i := 75) (N := some 274) (v := ?_) (a' := ?_) #[true, true, true, true, true, true, true, true, true, true, true, true, true, true, true, true, true, true, true, true, true, true, true, true, true, true, true, true, true, true, true, true, true, true, true, true, true, true, true, true, true, true, true, true, true, true, true, true, true, true, true, true, true, true, true, true, true, true, true, true, true, true, true, true, true, true, true, true, true, true, true, true, true, true, true, true, false, false, false, false, false, false, false, false, false, false, false, false, false, false, false, false, false, false, false, false, false, false, false, false, false, false, false, false, false, false, false, false, false, false, false, false, false, false, false, false, false, false, false, false, false, false, false, false, false, false, false, false, false, false, false, false, false, false, false, false, false, false, false, false, false, false, false, false] rfl rfl (any_of HT_.out (by kernel_rfl)) (fun _ _ _ h => h) (Or.inl ⟨by rfl, ?_⟩) ?_ ?_
   rotate_left
   ·intro w'
    go_simp
    with_reducible rfl
   rotate_left
   ·simp only [Act.put, List.setIfInBounds_toArray, List.set_cons_zero, List.set_cons_succ, i64_w, i32_w]
    rfl
   refine pure_ (i := 76) (N := some 275) (v := ?_) (a' := ?_) #[true, true, true, true, true, true, true, true, true, true, true, true, true, true, true, true, true, true, true, true, true, true, true, true, true, true, true, true, true, true, true, true, true, true, true, true, true, true, true, true, true, true, true, true, true, true, true, true, true, true, true, true, true, true, true, true, true, true, true, true, true, true, true, true, true, true, true, true, true, true, true, true, true, true, true, true, true, false, false, false, false, false, false, false, false, false, false, false, false, false, false, false, false, false, false, false, false, false, false, false, false, false, false, false, false, false, false, false, false, false, false, false, false, false, false, false, false, false, false, false, false, false, false, false, false, false, false, false, false, false, false, false, false, false, false, false, false, false, false, false, false, false, false, false] rfl rfl (any_of HT_.out (by kernel_rfl)) (fun _ _ _ h => h) (Or.inl ⟨by rfl, ?_⟩) ?_ ?_
   rotate_left
   ·intro w'
    go_simp
    with_reducible rfl
   rotate_left
   ·simp only [Act.put, List.setIfInBounds_toArray, List.set_cons_zero, List.set_cons_succ, i64_w, i32_w]
    rfl
   refine pure_ (i := 77) (N := some 276) (v := ?_) (a' := ?_) #[true, true, true, true, true, true, true, true, true, true, true, true, true, true, true, true, true, true, true, true, true, true, true, true, true, true, true, true, true, true, true, true, true, true, true, true, true, true, true, true, true, true, true, true, true, true, true, true, true, true, true, true, true, true, true, true, true, true, true, true, true, true, true, true, true, true, true, true, true, true, true, true, true, true, true, true, true, true, false, false, false, false, false, false, false, false, false, false, false, false, false, false, false, false, false, false, false, false, false, false, false, false, false, false, false, false, false, false, false, false, false, false, false, false, false, false, false, false, false, false, false, false, false, false, false, false, false, false, false, false, false, false, false, false, false, false, false, false, false, false, false, false, false, false] rfl rfl (any_of HT_.out (by kernel_rfl)) (fun _ _ _ h => h) (Or.inl ⟨by rfl, ?_⟩) ?_ ?_
   rotate_left
   ·intro w'
    go_simp
    with_reducible rfl
   rotate_left
   ·simp only [Act.put, List.setIfInBounds_toArray, List.set_cons_zero, List.set_cons_succ, i64_w, i32_w]
    rfl
   refine take_ (i := 78) (N := some 277) (v := ?_) (a' := ?_) #[true, true, true, true, true, true, true, true, true, true, true, true, true, true, true, true, true, true, true, true, true, true, true, true, true, true, true, true, true, true, true, true, true, true, true, true, true, true, true, true, true, true, true, true, true, true, true, true, true, true, true, true, true, true, true, true, true, true, true, true, true, true, true, true, true, true, true, true, true, true, true, true, true, true, true, true, true, true, true, false, false, false, false, false, false, false, false, false, false, false, false, false, false, false, false, false, false, false, false, false, false, false, false, false, false, false, false, false, false, false, false, false, false, false, false, false, false, false, false, false, false, false, false, false, false, false, false, false, false, false, false, false, false, false, false, false, false, false, false, false, false, false, false, false] rfl rfl (take_ofW HT_.out HW_.out (by kernel_rfl)) (fun _ _ _ h => h) (Or.inl ⟨by rfl, ?_⟩) hHeld ?_ ?_
   rotate_left
   ·rintro w' ⟨s0, s1, s2, s3, s4, s5, s6, s7, s8, s9⟩
    go_simp
    with_reducible rfl
   rotate_left
   ·simp only [Act.put, List.setIfInBounds_toArray, List.set_cons_zero, List.set_cons_succ, i64_w, i32_w]
    rfl
   refine pure_ (i := 79) (N := some 278) (v := ?_) (a' := ?_) #[true, true, true, true, true, true, true, true, true, true, true, true, true, true, true, true, true, true, true, true, true, true, true, true, true, true, true, true, true, true, true, true, true, true, true, true, true, true, true, true, true, true, true, true, true, true, true, true, true, true, true, true, true, true, true, true, true, true, true, true, true, true, true, true, true, true, true, true, true, true, true, true, true, true, true, true, true, true, true, true, false, false, false, false, false, false, false, false, false, false, false, false, false, false, false, false, false, false, false, false, false, false, false, false, false, false, false, false, false, false, false, false, false, false, false, false, false, false, false, false, false, false, false, false, false, false, false, false, false, false, false, false, false, false, false, false, false, false, false, false, false, false, false, false] rfl rfl (any_of HT_.out (by kernel_rfl)) (fun _ _ _ h => h) (Or.inl ⟨by rfl, ?_⟩) ?_ ?_
   rotate_left
   ·intro w'
    go_simp
    with_reducible rfl
   rotate_left
   ·simp only [Act.put, List.setIfInBounds_toArray, List.set_cons_zero, List.set_cons_succ, i64_w, i32_w]
    rfl
   refine pure_ (i := 80) (N := some 279) (v := ?_) (a' := ?_) #[true, true, true, true, true, true, true, true, true, true, true, true, true, true, true, true, true, true, true, true, true, true, true, true, true, true, true, true, true, true, true, true, true, true, true, true, true, true, true, true, true, true, true, true, true, true, true, true, true, true, true, true, true, true, true, true, true, true, true, true, true, true, true, true, true, true, true, true, true, true, true, true, true, true, true, true, true, true, true, true, true, false, false, false, false, false, false, false, false, false, false, false, false, false, false, false, false, false, false, false, false, false, false, false, false, false, false, false, false, false, false, false, false, false, false, false, false, false, false, false, false, false, false, false, false, false, false, false, false, false, false, false, false, false, false, false, false, false, false, false, false, false, false, false] rfl rfl (any_of HT_.out (by kernel_rfl)) (fun _ _ _ h => h) (Or.inl ⟨by rfl, ?_⟩) ?_ ?_
   rotate_left
   ·intro w'
    go_simp
    with_reducible rfl
   rotate_left
   ·simp only [Act.put, List.setIfInBounds_toArray, List.set_cons_zero, List.set_cons_succ, i64_w, i32_w]
    rfl
   refine take_ (i := 81) (N := some 280) (v := ?_) (a' := ?_) #[true, true, true, true, true, true, true, true, true, true, true, true, true, true, true, true, true, true, true, true, true, true, true, true, true, true, true, true, true, true, true, true, true, true, true, true, true, true, true, true, true, true, true, true, true, true, true, true, true, true, true, true, true, true, true, true, true, true, true, true, true, true, true, true, true, true, true, true, true, true, true, true, true, true, true, true, true, true, true, true, true, true, false, false, false, false, false, false, false, false, false, false, false, false, false, false, false, false, false, false, false, false, false, false, false, false, false, false, false, false, false, false, false, false, false, false, false, false, false, false, false, false, false, false, false, false, false, false, false, false, false, false, false, false, false, false, false, false, false, false, false, false, false, false] rfl rfl (take_ofW HT_.out HW_.out (by kernel_rfl)) (fun _ _ _ h => h) (Or.inl ⟨by rfl, ?_⟩) hHeld ?_ ?_
   rotate_left
   ·rintro w' ⟨s0, s1, s2, s3, s4, s5, s6, s7, s8, s9⟩
    go_simp
    with_reducible rfl
   rotate_left
   ·simp only [Act.put, List.setIfInBounds_toArray, List.set_cons_zero, List.set_cons_succ, i64_w, i32_w]
    rfl
   refine take_ (i := 82) (N := some 281) (v := ?_) (a' := ?_) #[true, true, true, true, true, true, true, true, true, true, true, true, true, true, true, true, true, true, true, true, true, true, true, true, true, true, true, true, true, true, true, true, true, true, true, true, true, true, true, true, true, true, true, true, true, true, true, true, true, true, true, true, true, true, true, true, true, true, true, true, true, true, true, true, true, true, true, true, true, true, true, true, true, true, true, true, true, true, true, true, true, true, true, false, false, false, false, false, false, false, false, false, false, false, false, false, false, false, false, false, false, false, false, false, false, false, false, false, false, false, false, false, false, false, false, false, false, false, false, false, false, false, false, false, false, false, false, false, false, false, false, false, false, false, false, false, false, false, false, false, false, false, false, false] rfl rfl (take_ofW HT_.out HW_.out (by kernel_rfl)) (fun _ _ _ h => h) (Or.inl ⟨by rfl, ?_⟩) hHeld ?_ ?_
   rotate_left
   ·rintro w' ⟨s0, s1, s2, s3, s4, s5, s6, s7, s8, s9⟩
    go_simp
    with_reducible rfl
   rotate_left
   ·simp only [Act.put, List.setIfInBounds_toArray, List.set_cons_zero, List.set_cons_succ, i64_w, i32_w]
    rfl
   refine pure_ (i := 83) (N := some 282) (v := ?_) (a' := ?_) #[true, true, true, true, true, true, true, true, true, true, true, true, true, true, true, true, true, true, true, true, true, true, true, true, true, true, true, true, true, true, true, true, true, true, true, true, true, true, true, true, true, true, true, true, true, true, true, true, true, true, true, true, true, true, true, true, true, true, true, true, true, true, true, true, true, true, true, true, true, true, true, true, true, true, true, true, true, true, true, true, true, true, true, true, false, false, false, false, false, false, false, false, false, false, false, false, false, false, false, false, false, false, false, false, false, false, false, false, false, false, false, false, false, false, false, false, false, false, false, false, false, false, false, false, false, false, false, false, false, false, false, false, false, false, false, false, false, false, false, false, false, false, false, false] rfl rfl (any_of HT_.out (by kernel_rfl)) (fun _ _ _ h => h) (Or.inl ⟨by rfl, ?_⟩) ?_ ?_
   rotate_left
   ·intro w'
    go_simp
    with_reducible rfl
   rotate_left
   ·simp only [Act.put, List.setIfInBounds_toArray, List.set_cons_zero, List.set_cons_succ, i64_w, i32_w]
    rfl
   refine pure_ (i := 84) (N := some 283) (v := ?_) (a' := ?_) #[true, true, true, true, true, true, true, true, true, true, true, true, true, true, true, true, true, true, true, true, true, true, true, true, true, true, true, true, true, true, true, true, true, true, true, true, true, true, true, true, true, true, true, true, true, true, true, true, true, true, true, true, true, true, true, true, true, true, true, true, true, true, true, true, true, true, true, true, true, true, true, true, true, true, true, true, true, true, true, true, true, true, true, true, true, false, false, false, false, false, false, false, false, false, false, false, false, false, false, false, false, false, false, false, false, false, false, false, false, false, false, false, false, false, false, false, false, false, false, false, false, false, false, false, false, false, false, false, false, false, false, false, false, false, false, false, false, false, false, false, false, false, false, false] rfl rfl (any_of HT_.out (by kernel_rfl)) (fun _ _ _ h => h) (Or.inl ⟨by rfl, ?_⟩) ?_ ?_
   rotate_left
   ·intro w'
    go_simp
    with_reducible rfl
   rotate_left
   ·simp only [Act.put, List.setIfInBounds_toArray, List.set_cons_zero, List.set_cons_succ, i64_w, i32_w]
    rfl
   refine pure_ (i := 85) (N := some 284) (v := ?_) (a' := ?_) #[true, true, true, true, true, true, true, true, true, true, true, true, true, true, true, true, true, true, true, true, true, true, true, true, true, true, true, true, true, true, true, true, true, true, true, true, true, true, true, true, true, true, true, true, true, true, true, true, true, true, true, true, true, true, true, true, true, true, true, true, true, true, true, true, true, true, true, true, true, true, true, true, true, true, true, true, true, true, true, true, true, true, true, true, true, true, false, false, false, false, false, false, false, false, false, false, false, false, false, false, false, false, false, false, false, false, false, false, false, false, false, false, false, false, false, false, false, false, false, false, false, false, false, false, false, false, false, false, false, false, false, false, false, false, false, false, false, false, false, false, false, false, false, false] rfl rfl (any_of HT_.out (by kernel_rfl)) (fun _ _ _ h => h) (Or.inl ⟨by rfl, ?_⟩) ?_ ?_
   rotate_left
   ·intro w'
    go_simp
    with_reducible rfl
   rotate_left
   ·simp only [Act.put, List.setIfInBounds_toArray, List.set_cons_zero, List.set_cons_succ, i64_w, i32_w]
    rfl
   refine pure_ (i := 86) (N := some 285) (v := ?_) (a' := ?_) #[true, true, true, true, true, true, true, true, true, true, true, true, true, true, true, true, true, true, true, true, true, true, true, true, true, true, true, true, true, true, true, true, true, true, true, true, true, true, true, true, true, true, true, true, true, true, true, true, true, true, true, true, true, true, true, true, true, true, true, true, true, true, true, true, true, true, true, true, true, true, true, true, true, true, true, true, true, true, true, true, true, true, true, true, true, true, true, false, false, false, false, false, false, false, false, false, false, false, false, false, false, false, false, false, false, false, false, false, false, false, false, false, false, false, false, false, false, false, false, false, false, false, false, false, false, false, false, false, false, false, false, false, false, false, false, false, false, false, false, false, false, false, false, false] rfl rfl (any_of HT_.out (by kernel_rfl)) (fun _ _ _ h => h) (Or.inl ⟨by rfl, ?_⟩) ?_ ?_
   rotate_left
   ·intro w'
    go_simp
    with_reducible rfl
   rotate_left
   ·simp only [Act.put, List.setIfInBounds_toArray, List.set_cons_zero, List.set_cons_succ, i64_w, i32_w]
    rfl
   refine pure_ (i := 87) (N := some 286) (v := ?_) (a' := ?_) #[true, true, true, true, true, true, true, true, true, true, true, true, true, true, true, true, true, true, true, true, true, true, true, true, true, true, true, true, true, true, true, true, true, true, true, true, true, true, true, true, true, true, true, true, true, true, true, true, true, true, true, true, true, true, true, true, true, true, true, true, true, true, true, true, true, true, true, true, true, true, true, true, true, true, true, true, true, true, true, true, true, true, true, true, true, true, true, true, false, false, false, false, false, false, false, false, false, false, false, false, false, false, false, false, false, false, false, false, false, false, false, false, false, false, false, false, false, false, false, false, false, false, false, false, false, false, false, false, false, false, false, false, false, false, false, false, false, false, false, false, false, false, false, false] rfl rfl (any_of HT_.out (by kernel_rfl)) (fun _ _ _ h => h) (Or.inl ⟨by rfl, ?_⟩) ?_ ?_
   rotate_left
   ·intro w'
    go_simp
    with_reducible rfl
   rotate_left
   ·simp only [Act.put, List.setIfInBounds_toArray, List.set_cons_zero, List.set_cons_succ, i64_w, i32_w]
    rfl
   refine pure_ (i := 88) (N := some 287) (v := ?_) (a' := ?_) #[true, true, true, true, true, true, true, true, true, true, true, true, true, true, true, true, true, true, true, true, true, true, true, true, true, true, true, true, true, true, true, true, true, true, true, true, true, true, true, true, true, true, true, true, true, true, true, true, true, true, true, true, true, true, true, true, true, true, true, true, true, true, true, true, true, true, true, true, true, true, true, true, true, true, true, true, true, true, true, true, true, true, true, true, true, true, true, true, true, false, false, false, false, false, false, false, false, false, false, false, false, false, false, false, false, false, false, false, false, false, false, false, false, false, false, false, false, false, false, false, false, false, false, false, false, false, false, false, false, false, false, false, false, false, false, false, false, false, false, false, false, false, false, false] rfl rfl (any_of HT_.out (by kernel_rfl)) (fun _ _ _ h => h) (Or.inl ⟨by rfl, ?_⟩) ?_ ?_
   rotate_left
   ·intro w'
    go_simp
    with_reducible rfl
   rotate_left
   ·simp only [Act.put, List.setIfInBounds_toArray, List.set_cons_zero, List.set_cons_succ, i64_w, i32_w]
    rfl
   refine pure_ (i := 89) (N := some 288) (v := ?_) (a' := ?_) #[true, true, true, true, true, true, true, true, true, true, true, true, true, true, true, true, true, true, true, true, true, true, true, true, true, true, true, true, true, true, true, true, true, true, true, true, true, true, true, true, true, true, true, true, true, true, true, true, true, true, true, true, true, true, true, true, true, true, true, true, true, true, true, true, true, true, true, true, true, true, true, true, true, true, true, true, true, true, true, true, true, true, true, true, true, true, true, true, true, true, false, false, false, false, false, false, false, false, false, false, false, false, false, false, false, false, false, false, false, false, false, false, false, false, false, false, false, false, false, false, false, false, false, false, false, false, false, false, false, false, false, false, false, false, false, false, false, false, false, false, false, false, false, false] rfl rfl (any_of HT_.out (by kernel_rfl)) (fun _ _ _ h => h) (Or.inl ⟨by rfl, ?_⟩) ?_ ?_
   rotate_left
   ·intro w'
    go_simp
    with_reducible rfl
   rotate_left
   ·simp only [Act.put, List.setIfInBounds_toArray, List.set_cons_zero, List.set_cons_succ, i64_w, i32_w]
    rfl
   refine take_ (i := 90) (N := some 289) (v := ?_) (a' := ?_) #[true, true, true, true, true, true, true, true, true, true, true, true, true, true, true, true, true, true, true, true, true, true, true, true, true, true, true, true, true, true, true, true, true, true, true, true, true, true, true, true, true, true, true, true, true, true, true, true, true, true, true, true, true, true, true, true, true, true, true, true, true, true, true, true, true, true, true, true, true, true, true, true, true, true, true, true, true, true, true, true, true, true, true, true, true, true, true, true, true, true, true, false, false, false, false, false, false, false, false, false, false, false, false, false, false, false, false, false, false, false, false, false, false, false, false, false, false, false, false, false, false, false, false, false, false, false, false, false, false, false, false, false, false, false, false, false, false, false, false, false, false, false, false, false] rfl rfl (take_ofW HT_.out HW_.out (by kernel_rfl)) (fun _ _ _ h => h) (Or.inl ⟨by rfl, ?_⟩) hHeld ?_ ?_
   rotate_left
   ·rintro w' ⟨s0, s1, s2, s3, s4, s5, s6, s7, s8, s9⟩
    go_simp
    with_reducible rfl
   rotate_left
   ·simp only [Act.put, List.setIfInBounds_toArray, List.set_cons_zero, List.set_cons_succ, i64_w, i32_w]
    rfl
   refine take_ (i := 91) (N := some 290) (v := ?_) (a' := ?_) #[true, true, true, true, true, true, true, true, true, true, true, true, true, true, true, true, true, true, true, true, true, true, true, true, true, true, true, true, true, true, true, true, true, true, true, true, true, true, true, true, true, true, true, true, true, true, true, true, true, true, true, true, true, true, true, true, true, true, true, true, true, true, true, true, true, true, true, true, true, true, true, true, true, true, true, true, true, true, true, true, true, true, true, true, true, true, true, true, true, true, true, true, false, false, false, false, false, false, false, false, false, false, false, false, false, false, false, false, false, false, false, false, false, false, false, false, false, false, false, false, false, false, false, false, false, false, false, false, false, false, false, false, false, false, false, false, false, false, false, false, false, false, false, false] rfl rfl (take_ofW HT_.out HW_.out (by kernel_rfl)) (fun _ _ _ h => h) (Or.inl ⟨by rfl, ?_⟩) hHeld ?_ ?_
   rotate_left
   ·rintro w' ⟨s0, s1, s2, s3, s4, s5, s6, s7, s8, s9⟩
    go_simp
    with_reducible rfl
   rotate_left
   ·simp only [Act.put, List.setIfInBounds_toArray, List.set_cons_zero, List.set_cons_succ, i64_w, i32_w]
    rfl
   refine one_ (i := 92) (N := some 291) #[true, true, true, true, true, true, true, true, true, true, true, true, true, true, true, true, true, true, true, true, true, true, true, true, true, true, true, true, true, true, true, true, true, true, true, true, true, true, true, true, true, true, true, true, true, true, true, true, true, true, true, true, true, true, true, true, true, true, true, true, true, true, true, true, true, true, true, true, true, true, true, true, true, true, true, true, true, true, true, true, true, true, true, true, true, true, true, true, true, true, true, true, true, false, false, false, false, false, false, false, false, false, false, false, false, false, false, false, false, false, false, false, false, false, false, false, false, false, false, false, false, false, false, false, false, false, false, false, false, false, false, false, false, false, false, false, false, false, false, false, false, false, false, false] rfl rfl (one_of HT_.out (by kernel_rfl)) (by decide) (fun K hK => ?_)
   refine goes_ Tryd.func20 (by kernel_rfl) rfl #[.agg #[.slice A19 kTT.length c19], .agg #[.slice A4 kTT.length c4]] (by rfl) rfl rfl (by simp only [List.map_toArray, List.map_cons, List.map_nil]; rfl) ?_
   with_reducible refine (tree_Same.calls A19 c19 kTT A4 c4 kTT true wd KhCQ.out KhLQ.out KhCT.out KhLT.out k_s1).mono ?_
   rintro e w1 ⟨rfl, hb1⟩
   refine ⟨_, rfl, ?_⟩
   refine hK.out _ _ ⟨(Below.cell hb1 (cell_lt2 md0)).trans md0, (Below.cell hb1 (cell_lt2 md1)).trans md1, (Below.cell hb1 (cell_lt2 md2)).trans md2, (Below.cell hb1 (cell_lt2 md3)).trans md3, (Below.cell hb1 (cell_lt2 md4)).trans md4, (Below.cell hb1 (cell_lt2 md5)).trans md5, (Below.cell hb1 (cell_lt2 md6)).trans md6, (Below.cell hb1 (cell_lt2 md7)).trans md7, Kd.C_string (P := Tryd.prog) (A := A7) (c := c7) Tryd.underlying23 Tryd.underlying5 Tryd.underlying9 (Kd.C_below KhCX.out hb1), Kd.C_string (P := Tryd.prog) (A := Ao2) (c := co2) Tryd.underlying23 Tryd.underlying5 Tryd.underlying9 (Kd.C_below KhCO.out hb1)⟩ (fun hHeld => ?_)
   clear hK K
   refine norm_ (a' := ?_) ?_ ?_
   rotate_left
   ·show Act.put _ (some 291) _ = _
    simp only [Act.put, List.setIfInBounds_toArray, List.set_cons_zero, List.set_cons_succ, i64_w, i32_w]
    rfl
   refine pure_ (i := 93) (N := some 292) (v := ?_) (a' := ?_) #[true, true, true, true, true, true, true, true, true, true, true, true, true, true, true, true, true, true, true, true, true, true, true, true, true, true, true, true, true, true, true, true, true, true, true, true, true, true, true, true, true, true, true, true, true, true, true, true, true, true, true, true, true, true, true, true, true, true, true, true, true, true, true, true, true, true, true, true, true, true, true, true, true, true, true, true, true, true, true, true, true, true, true, true, true, true, true, true, true, true, true, true, true, true, false, false, false, false, false, false, false, false, false, false, false, false, false, false, false, false, false, false, false, false, false, false, false, false, false, false, false, false, false, false, false, false, false, false, false, false, false, false, false, false, false, false, false, false, false, false, false, false, false, false] rfl rfl (any_of HT_.out (by kernel_rfl)) (fun _ _ _ h => h) (Or.inl ⟨by rfl, ?_⟩) ?_ ?_
   rotate_left
   ·intro w'
    go_simp
    with_reducible rfl
   rotate_left
   ·simp only [Act.put, List.setIfInBounds_toArray, List.set_cons_zero, List.set_cons_succ, i64_w, i32_w]
    rfl
   refine pure_ (i := 94) (N := some 293) (v := ?_) (a' := ?_) #[true, true, true, true, true, true, true, true, true, true, true, true, true, true, true, true, true, true, true, true, true, true, true, true, true, true, true, true, true, true, true, true, true, true, true, true, true, true, true, true, true, true, true, true, true, true, true, true, true, true, true, true, true, true, true, true, true, true, true, true, true, true, true, true, true, true, true, true, true, true, true, true, true, true, true, true, true, true, true, true, true, true, true, true, true, true, true, true, true, true, true, true, true, true, true, false, false, false, false, false, false, false, false, false, false, false, false, false, false, false, false, false, false, false, false, false, false, false, false, false, false, false, false, false, false, false, false, false, false, false, false, false, false, false, false, false, false, false, false, false, false, false, false, false] rfl rfl (any_of HT_.out (by kernel_rfl)) (fun _ _ _ h => h) (Or.inl ⟨by rfl, ?_⟩) ?_ ?_
   rotate_left
   ·intro w'
    go_simp
    with_reducible rfl
   rotate_left
   ·simp only [Act.put, List.setIfInBounds_toArray, List.set_cons_zero, List.set_cons_succ, i64_w, i32_w]
    rfl
   refine pure_ (i := 95) (N := some 294) (v := ?_) (a' := ?_) #[true, true, true, true, true, true, true, true, true, true, true, true, true, true, true, true, true, true, true, true, true, true, true, true, true, true, true, true, true, true, true, true, true, true, true, true, true, true, true, true, true, true, true, true, true, true, true, true, true, true, true, true, true, true, true, true, true, true, true, true, true, true, true, true, true, true, true, true, true, true, true, true, true, true, true, true, true, true, true, true, true, true, true, true, true, true, true, true, true, true, true, true, true, true, true, true, false, false, false, false, false, false, false, false, false, false, false, false, false, false, false, false, false, false, false, false, false, false, false, false, false, false, false, false, false, false, false, false, false, false, false, false, false, false, false, false, false, false, false, false, false, false, false, false] rfl rfl (any_of HT_.out (by kernel_rfl)) (fun _ _ _ h => h) (Or.inl ⟨by rfl, ?_⟩) ?_ ?_
   rotate_left
   ·intro w'
    go_simp
    with_reducible rfl
   rotate_left
   ·simp only [Act.put, List.setIfInBounds_toArray, List.set_cons_zero, List.set_cons_succ, i64_w, i32_w]
    rfl
   refine pure_ (i := 96) (N := some 295) (v := ?_) (a' := ?_) #[true, true, true, true, true, true, true, true, true, true, true, true, true, true, true, true, true, true, true, true, true, true, true, true, true, true, true, true, true, true, true, true, true, true, true, true, true, true, true, true, true, true, true, true, true, true, true, true, true, true, true, true, true, true, true, true, true, true, true, true, true, true, true, true, true, true, true, true, true, true, true, true, true, true, true, true, true, true, true, true, true, true, true, true, true, true, true, true, true, true, true, true, true, true, true, true, true, false, false, false, false, false, false, false, false, false, false, false, false, false, false, false, false, false, false, false, false, false, false, false, false, false, false, false, false, false, false, false, false, false, false, false, false, false, false, false, false, false, false, false, false, false, false, false] rfl rfl (any_of HT_.out (by kernel_rfl)) (fun _ _ _ h => h) (Or.inl ⟨by rfl, ?_⟩) ?_ ?_
   rotate_left
   ·intro w'
    go_simp
    with_reducible rfl
   rotate_left
   ·simp only [Act.put, List.setIfInBounds_toArray, List.set_cons_zero, List.set_cons_succ, i64_w, i32_w]
    rfl
   refine pure_ (i := 97) (N := some 296) (v := ?_) (a' := ?_) #[true, true, true, true, true, true, true, true, true, true, true, true, true, true, true, true, true, true, true, true, true, true, true, true, true, true, true, true, true, true, true, true, true, true, true, true, true, true, true, true, true, true, true, true, true, true, true, true, true, true, true, true, true, true, true, true, true, true, true, true, true, true, true, true, true, true, true, true, true, true, true, true, true, true, true, true, true, true, true, true, true, true, true, true, true, true, true, true, true, true, true, true, true, true, true, true, true, true, false, false, false, false, false, false, false, false, false, false, false, false, false, false, false, false, false, false, false, false, false, false, false, false, false, false, false, false, false, false, false, false, false, false, false, false, false, false, false, false, false, false, false, false, false, false] rfl rfl (any_of HT_.out (by kernel_rfl)) (fun _ _ _ h => h) (Or.inl ⟨by rfl, ?_⟩) ?_ ?_
   rotate_left
   ·intro w'
    go_simp
    with_reducible rfl
   rotate_left
   ·simp only [Act.put, List.setIfInBounds_toArray, List.set_cons_zero, List.set_cons_succ, i64_w, i32_w]
    rfl
   refine pure_ (i := 98) (N := some 297) (v := ?_) (a' := ?_) #[true, true, true, true, true, true, true, true, true, true, true, true, true, true, true, true, true, true, true, true, true, true, true, true, true, true, true, true, true, true, true, true, true, true, true, true, true, true, true, true, true, true, true, true, true, true, true, true, true, true, true, true, true, true, true, true, true, true, true, true, true, true, true, true, true, true, true, true, true, true, true, true, true, true, true, true, true, true, true, true, true, true, true, true, true, true, true, true, true, true, true, true, true, true, true, true, true, true, true, false, false, false, false, false, false, false, false, false, false, false, false, false, false, false, false, false, false, false, false, false, false, false, false, false, false, false, false, false, false, false, false, false, false, false, false, false, false, false, false, false, false, false, false, false] rfl rfl (any_of HT_.out (by kernel_rfl)) (fun _ _ _ h => h) (Or.inl ⟨by rfl, ?_⟩) ?_ ?_
   rotate_left
   ·intro w'
    go_simp
    with_reducible rfl
   rotate_left
   ·simp only [Act.put, List.setIfInBounds_toArray, List.set_cons_zero, List.set_cons_succ, i64_w, i32_w]
    rfl
   refine pure_ (i := 99) (N := some 298) (v := ?_) (a' := ?_) #[true, true, true, true, true, true, true, true, true, true, true, true, true, true, true, true, true, true, true, true, true, true, true, true, true, true, true, true, true, true, true, true, true, true, true, true, true, true, true, true, true, true, true, true, true, true, true, true, true, true, true, true, true, true, true, true, true, true, true, true, true, true, true, true, true, true, true, true, true, true, true, true, true, true, true, true, true, true, true, true, true, true, true, true, true, true, true, true, true, true, true, true, true, true, true, true, true, true, true, true, false, false, false, false, false, false, false, false, false, false, false, false, false, false, false, false, false, false, false, false, false, false, false, false, false, false, false, false, false, false, false, false, false, false, false, false, false, false, false, false, false, false, false, false] rfl rfl (any_of HT_.out (by kernel_rfl)) (fun _ _ _ h => h) (Or.inl ⟨by rfl, ?_⟩) ?_ ?_
   rotate_left
   ·intro w'
    go_simp
    with_reducible rfl
   rotate_left
   ·simp only [Act.put, List.setIfInBounds_toArray, List.set_cons_zero, List.set_cons_succ, i64_w, i32_w]
    rfl
   refine take_ (i := 100) (N := some 299) (v := ?_) (a' := ?_) #[true, true, true, true, true, true, true, true, true, true, true, true, true, true, true, true, true, true, true, true, true, true, true, true, true, true, true, true, true, true, true, true, true, true, true, true, true, true, true, true, true, true, true, true, true, true, true, true, true, true, true, true, true, true, true, true, true, true, true, true, true, true, true, true, true, true, true, true, true, true, true, true, true, true, true, true, true, true, true, true, true, true, true, true, true, true, true, true, true, true, true, true, true, true, true, true, true, true, true, true, true, false, false, false, false, false, false, false, false, false, false, false, false, false, false, false, false, false, false, false, false, false, false, false, false, false, false, false, false, false, false, false, false, false, false, false, false, false, false, false, false, false, false, false] rfl rfl (take_ofW HT_.out HW_.out (by kernel_rfl)) (fun _ _ _ h => h) (Or.inl ⟨by rfl, ?_⟩) hHeld ?_ ?_
   rotate_left
   ·rintro w' ⟨s0, s1, s2, s3, s4, s5, s6, s7, s8, s9⟩
    go_simp
    with_reducible rfl
   rotate_left
   ·simp only [Act.put, List.setIfInBounds_toArray, List.set_cons_zero, List.set_cons_succ, i64_w, i32_w]
    rfl
   refine pure_ (i := 101) (N := some 300) (v := ?_) (a' := ?_) #[true, true, true, true, true, true, true, true, true, true, true, true, true, true, true, true, true, true, true, true, true, true, true, true, true, true, true, true, true, true, true, true, true, true, true, true, true, true, true, true, true, true, true, true, true, true, true, true, true, true, true, true, true, true, true, true, true, true, true, true, true, true, true, true, true, true, true, true, true, true, true, true, true, true, true, true, true, true, true, true, true, true, true, true, true, true, true, true, true, true, true, true, true, true, true, true, true, true, true, true, true, true, false, false, false, false, false, false, false, false, false, false, false, false, false, false, false, false, false, false, false, false, false, false, false, false, false, false, false, false, false, false, false, false, false, false, false, false, false, false, false, false, false, false] rfl rfl (any_of HT_.out (by kernel_rfl)) (fun _ _ _ h => h) (Or.inl ⟨by rfl, ?_⟩) ?_ ?_
   rotate_left
   ·intro w'
    go_simp
    with_reducible rfl
   rotate_left
   ·simp only [Act.put, List.setIfInBounds_toArray, List.set_cons_zero, List.set_cons_succ, i64_w, i32_w]
    rfl
   refine pure_ (i := 102) (N := some 301) (v := ?_) (a' := ?_) #[true, true, true, true, true, true, true, true, true, true, true, true, true, true, true, true, true, true, true, true, true, true, true, true, true, true, true, true, true, true, true, true, true, true, true, true, true, true, true, true, true, true, true, true, true, true, true, true, true, true, true, true, true, true, true, true, true, true, true, true, true, true, true, true, true, true, true, true, true, true, true, true, true, true, true, true, true, true, true, true, true, true, true, true, true, true, true, true, true, true, true, true, true, true, true, true, true, true, true, true, true, true, true, false, false, false, false, false, false, false, false, false, false, false, false, false, false, false, false, false, false, false, false, false, false, false, false, false, false, false, false, false, false, false, false, false, false, false, false, false, false, false, false, false] rfl rfl (any_of HT_.out (by kernel_rfl)) (fun _ _ _ h => h) (Or.inl ⟨by rfl, ?_⟩) ?_ ?_
   rotate_left
   ·intro w'
    go_simp
    with_reducible rfl
   rotate_left
   ·simp only [Act.put, List.setIfInBounds_toArray, List.set_cons_zero, List.set_cons_succ, i64_w, i32_w]
    rfl
   refine pure_ (i := 103) (N := some 302) (v := ?_) (a' := ?_) #[true, true, true, true, true, true, true, true, true, true, true, true, true, true, true, true, true, true, true, true, true, true, true, true, true, true, true, true, true, true, true, true, true, true, true, true, true, true, true, true, true, true, true, true, true, true, true, true, true, true, true, true, true, true, true, true, true, true, true, true, true, true, true, true, true, true, true, true, true, true, true, true, true, true, true, true, true, true, true, true, true, true, true, true, true, true, true, true, true, true, true, true, true, true, true, true, true, true, true, true, true, true, true, true, false, false, false, false, false, false, false, false, false, false, false, false, false, false, false, false, false, false, false, false, false, false, false, false, false, false, false, false, false, false, false, false, false, false, false, false, false, false, false, false] rfl rfl (any_of HT_.out (by kernel_rfl)) (fun _ _ _ h => h) (Or.inl ⟨by rfl, ?_⟩) ?_ ?_
   rotate_left
   ·intro w'
    go_simp
    with_reducible rfl
   rotate_left
   ·simp only [Act.put, List.setIfInBounds_toArray, List.set_cons_zero, List.set_cons_succ, i64_w, i32_w]
    rfl
   refine pure_ (i := 104) (N := some 303) (v := ?_) (a' := ?_) #[true, true, true, true, true, true, true, true, true, true, true, true, true, true, true, true, true, true, true, true, true, true, true, true, true, true, true, true, true, true, true, true, true, true, true, true, true, true, true, true, true, true, true, true, true, true, true, true, true, true, true, true, true, true, true, true, true, true, true, true, true, true, true, true, true, true, true, true, true, true, true, true, true, true, true, true, true, true, true, true, true, true, true, true, true, true, true, true, true, true, true, true, true, true, true, true, true, true, true, true, true, true, true, true, true, false, false, false, false, false, false, false, false, false, false, false, false, false, false, false, false, false, false, false, false, false, false, false, false, false, false, false, false, false, false, false, false, false, false, false, false, false, false, false] rfl rfl (any_of HT_.out (by kernel_rfl)) (fun _ _ _ h => h) (Or.inl ⟨by rfl, ?_⟩) ?_ ?_
   rotate_left
   ·intro w'
    go_simp
    with_reducible rfl
   rotate_left
   ·simp only [Act.put, List.setIfInBounds_toArray, List.set_cons_zero, List.set_cons_succ, i64_w, i32_w]
    rfl
   refine pure_ (i := 105) (N := some 304) (v := ?_) (a' := ?_) #[true, true, true, true, true, true, true, true, true, true, true, true, true, true, true, true, true, true, true, true, true, true, true, true, true, true, true, true, true, true, true, true, true, true, true, true, true, true, true, true, true, true, true, true, true, true, true, true, true, true, true, true, true, true, true, true, true, true, true, true, true, true, true, true, true, true, true, true, true, true, true, true, true, true, true, true, true, true, true, true, true, true, true, true, true, true, true, true, true, true, true, true, true, true, true, true, true, true, true, true, true, true, true, true, true, true, false, false, false, false, false, false, false, false, false, false, false, false, false, false, false, false, false, false, false, false, false, false, false, false, false, false, false, false, false, false, false, false, false, false, false, false, false, false] rfl rfl (any_of HT_.out (by kernel_rfl)) (fun _ _ _ h => h) (Or.inl ⟨by rfl, ?_⟩) ?_ ?_
   rotate_left
   ·intro w'
    go_simp
    with_reducible rfl
   rotate_left
   ·simp only [Act.put, List.setIfInBounds_toArray, List.set_cons_zero, List.set_cons_succ, i64_w, i32_w]
    rfl
   refine pure_ (i := 106) (N := some 305) (v := ?_) (a' := ?_) #[true, true, true, true, true, true, true, true, true, true, true, true, true, true, true, true, true, true, true, true, true, true, true, true, true, true, true, true, true, true, true, true, true, true, true, true, true, true, true, true, true, true, true, true, true, true, true, true, true, true, true, true, true, true, true, true, true, true, true, true, true, true, true, true, true, true, true, true, true, true, true, true, true, true, true, true, true, true, true, true, true, true, true, true, true, true, true, true, true, true, true, true, true, true, true, true, true, true, true, true, true, true, true, true, true, true, true, false, false, false, false, false, false, false, false, false, false, false, false, false, false, false, false, false, false, false, false, false, false, false, false, false, false, false, false, false, false, false, false, false, false, false, false, false] rfl rfl (any_of HT_.out (by kernel_rfl)) (fun _ _ _ h => h) (Or.inl ⟨by rfl, ?_⟩) ?_ ?_
   rotate_left
   ·intro w'
    go_simp
    with_reducible rfl
   rotate_left
   ·simp only [Act.put, List.setIfInBounds_toArray, List.set_cons_zero, List.set_cons_succ, i64_w, i32_w]
    rfl
   refine pure_ (i := 107) (N := some 306) (v := ?_) (a' := ?_) #[true, true, true, true, true, true, true, true, true, true, true, true, true, true, true, true, true, true, true, true, true, true, true, true, true, true, true, true, true, true, true, true, true, true, true, true, true, true, true, true, true, true, true, true, true, true, true, true, true, true, true, true, true, true, true, true, true, true, true, true, true, true, true, true, true, true, true, true, true, true, true, true, true, true, true, true, true, true, true, true, true, true, true, true, true, true, true, true, true, true, true, true, true, true, true, true, true, true, true, true, true, true, true, true, true, true, true, true, false, false, false, false, false, false, false, false, false, false, false, false, false, false, false, false, false, false, false, false, false, false, false, false, false, false, false, false, false, false, false, false, false, false, false, false] rfl rfl (any_of HT_.out (by kernel_rfl)) (fun _ _ _ h => h) (Or.inl ⟨by rfl, ?_⟩) ?_ ?_
   rotate_left
   ·intro w'
    go_simp
    with_reducible rfl
   rotate_left
   ·simp only [Act.put, List.setIfInBounds_toArray, List.set_cons_zero, List.set_cons_succ, i64_w, i32_w]
    rfl
   refine pure_ (i := 108) (N := some 307) (v := ?_) (a' := ?_) #[true, true, true, true, true, true, true, true, true, true, true, true, true, true, true, true, true, true, true, true, true, true, true, true, true, true, true, true, true, true, true, true, true, true, true, true, true, true, true, true, true, true, true, true, true, true, true, true, true, true, true, true, true, true, true, true, true, true, true, true, true, true, true, true, true, true, true, true, true, true, true, true, true, true, true, true, true, true, true, true, true, true, true, true, true, true, true, true, true, true, true, true, true, true, true, true, true, true, true, true, true, true, true, true, true, true, true, true, true, false, false, false, false, false, false, false, false, false, false, false, false, false, false, false, false, false, false, false, false, false, false, false, false, false, false, false, false, false, false, false, false, false, false, false] rfl rfl (any_of HT_.out (by kernel_rfl)) (fun _ _ _ h => h) (Or.inl ⟨by rfl, ?_⟩) ?_ ?_
   rotate_left
   ·intro w'
    go_simp
    with_reducible rfl
   rotate_left
   ·simp only [Act.put, List.setIfInBounds_toArray, List.set_cons_zero, List.set_cons_succ, i64_w, i32_w]
    rfl
   refine pure_ (i := 109) (N := some 308) (v := ?_) (a' := ?_) #[true, true, true, true, true, true, true, true, true, true, true, true, true, true, true, true, true, true, true, true, true, true, true, true, true, true, true, true, true, true, true, true, true, true, true, true, true, true, true, true, true, true, true, true, true, true, true, true, true, true, true, true, true, true, true, true, true, true, true, true, true, true, true, true, true, true, true, true, true, true, true, true, true, true, true, true, true, true, true, true, true, true, true, true, true, true, true, true, true, true, true, true, true, true, true, true, true, true, true, true, true, true, true, true, true, true, true, true, true, true, false, false, false, false, false, false, false, false, false, false, false, false, false, false, false, false, false, false, false, false, false, false, false, false, false, false, false, false, false, false, false, false, false, false] rfl rfl (any_of HT_.out (by kernel_rfl)) (fun _ _ _ h => h) (Or.inl ⟨by rfl, ?_⟩) ?_ ?_
   rotate_left
   ·intro w'
    go_simp
    with_reducible rfl
   rotate_left
   ·simp only [Act.put, List.setIfInBounds_toArray, List.set_cons_zero, List.set_cons_succ, i64_w, i32_w]
    rfl
   refine take_ (i := 110) (N := some 309) (v := ?_) (a' := ?_) #[true, true, true, true, true, true, true, true, true, true, true, true, true, true, true, true, true, true, true, true, true, true, true, true, true, true, true, true, true, true, true, true, true, true, true, true, true, true, true, true, true, true, true, true, true, true, true, true, true, true, true, true, true, true, true, true, true, true, true, true, true, true, true, true, true, true, true, true, true, true, true, true, true, true, true, true, true, true, true, true, true, true, true, true, true, true, true, true, true, true, true, true, true, true, true, true, true, true, true, true, true, true, true, true, true, true, true, true, true, true, true, false, false, false, false, false, false, false, false, false, false, false, false, false, false, false, false, false, false, false, false, false, false, false, false, false, false, false, false, false, false, false, false, false] rfl rfl (take_ofW HT_.out HW_.out (by kernel_rfl)) (fun _ _ _ h => h) (Or.inl ⟨by rfl, ?_⟩) hHeld ?_ ?_
   rotate_left
   ·rintro w' ⟨s0, s1, s2, s3, s4, s5, s6, s7, s8, s9⟩
    go_simp
    with_reducible rfl
   rotate_left
   ·simp only [Act.put, List.setIfInBounds_toArray, List.set_cons_zero, List.set_cons_succ, i64_w, i32_w]
    rfl
   refine pure_ (i := 111) (N := some 310) (v := ?_) (a' := ?_) #[true, true, true, true, true, true, true, true, true, true, true, true, true, true, true, true, true, true, true, true, true, true, true, true, true, true, true, true, true, true, true, true, true, true, true, true, true, true, true, true, true, true, true, true, true, true, true, true, true, true, true, true, true, true, true, true, true, true, true, true, true, true, true, true, true, true, true, true, true, true, true, true, true, true, true, true, true, true, true, true, true, true, true, true, true, true, true, true, true, true, true, true, true, true, true, true, true, true, true, true, true, true, true, true, true, true, true, true, true, true, true, true, false, false, false, false, false, false, false, false, false, false, false, false, false, false, false, false, false, false, false, false, false, false, false, false, false, false, false, false, false, false, false, false] rfl rfl (any_of HT_.out (by kernel_rfl)) (fun _ _ _ h => h) (Or.inl ⟨by rfl, ?_⟩) ?_ ?_
   rotate_left
   ·intro w'
    go_simp
    with_reducible rfl
   rotate_left
   ·simp only [Act.put, List.setIfInBounds_toArray, List.set_cons_zero, List.set_cons_succ, i64_w, i32_w]
    rfl
   refine pure_ (i := 112) (N := some 311) (v := ?_) (a' := ?_) #[true, true, true, true, true, true, true, true, true, true, true, true, true, true, true, true, true, true, true, true, true, true, true, true, true, true, true, true, true, true, true, true, true, true, true, true, true, true, true, true, true, true, true, true, true, true, true, true, true, true, true, true, true, true, true, true, true, true, true, true, true, true, true, true, true, true, true, true, true, true, true, true, true, true, true, true, true, true, true, true, true, true, true, true, true, true, true, true, true, true, true, true, true, true, true, true, true, true, true, true, true, true, true, true, true, true, true, true, true, true, true, true, true, false, false, false, false, false, false, false, false, false, false, false, false, false, false, false, false, false, false, false, false, false, false, false, false, false, false, false, false, false, false, false] rfl rfl (any_of HT_.out (by kernel_rfl)) (fun _ _ _ h => h) (Or.inl ⟨by rfl, ?_⟩) ?_ ?_
   rotate_left
   ·intro w'
    go_simp
    with_reducible rfl
   rotate_left
   ·simp only [Act.put, List.setIfInBounds_toArray, List.set_cons_zero, List.set_cons_succ, i64_w, i32_w]
    rfl
   refine pure_ (i := 113) (N := some 312) (v := ?_) (a' := ?_) #[true, true, true, true, true, true, true, true, true, true, true, true, true, true, true, true, true, true, true, true, true, true, true, true, true, true, true, true, true, true, true, true, true, true, true, true, true, true, true, true, true, true, true, true, true, true, true, true, true, true, true, true, true, true, true, true, true, true, true, true, true, true, true, true, true, true, true, true, true, true, true, true, true, true, true, true, true, true, true, true, true, true, true, true, true, true, true, true, true, true, true, true, true, true, true, true, true, true, true, true, true, true, true, true, true, true, true, true, true, true, true, true, true, true, false, false, false, false, false, false, false, false, false, false, false, false, false, false, false, false, false, false, false, false, false, false, false, false, false, false, false, false, false, false] rfl rfl (any_of HT_.out (by kernel_rfl)) (fun _ _ _ h => h) (Or.inl ⟨by rfl, ?_⟩) ?_ ?_
   rotate_left
   ·intro w'
    go_simp
    with_reducible rfl
   rotate_left
   ·simp only [Act.put, List.setIfInBounds_toArray, List.set_cons_zero, List.set_cons_succ, i64_w, i32_w]
    rfl
   refine pure_ (i := 114) (N := some 313) (v := ?_) (a' := ?_) #[true, true, true, true, true, true, true, true, true, true, true, true, true, true, true, true, true, true, true, true, true, true, true, true, true, true, true, true, true, true, true, true, true, true, true, true, true, true, true, true, true, true, true, true, true, true, true, true, true, true, true, true, true, true, true, true, true, true, true, true, true, true, true, true, true, true, true, true, true, true, true, true, true, true, true, true, true, true, true, true, true, true, true, true, true, true, true, true, true, true, true, true, true, true, true, true, true, true, true, true, true, true, true, true, true, true, true, true, true, true, true, true, true, true, true, false, false, false, false, false, false, false, false, false, false, false, false, false, false, false, false, false, false, false, false, false, false, false, false, false, false, false, false, false] rfl rfl (any_of HT_.out (by kernel_rfl)) (fun _ _ _ h => h) (Or.inl ⟨by rfl, ?_⟩) ?_ ?_
   rotate_left
   ·intro w'
    go_simp
    with_reducible rfl
   rotate_left
   ·simp only [Act.put, List.setIfInBounds_toArray, List.set_cons_zero, List.set_cons_succ, i64_w, i32_w]
    rfl
   refine take_ (i := 115) (N := some 314) (v := ?_) (a' := ?_) #[true, true, true, true, true, true, true, true, true, true, true, true, true, true, true, true, true, true, true, true, true, true, true, true, true, true, true, true, true, true, true, true, true, true, true, true, true, true, true, true, true, true, true, true, true, true, true, true, true, true, true, true, true, true, true, true, true, true, true, true, true, true, true, true, true, true, true, true, true, true, true, true, true, true, true, true, true, true, true, true, true, true, true, true, true, true, true, true, true, true, true, true, true, true, true, true, true, true, true, true, true, true, true, true, true, true, true, true, true, true, true, true, true, true, true, true, false, false, false, false, false, false, false, false, false, false, false, false, false, false, false, false, false, false, false, false, false, false, false, false, false, false, false, false] rfl rfl (take_ofW HT_.out HW_.out (by kernel_rfl)) (fun _ _ _ h => h) (Or.inl ⟨by rfl, ?_⟩) hHeld ?_ ?_
   rotate_left
   ·rintro w' ⟨s0, s1, s2, s3, s4, s5, s6, s7, s8, s9⟩
    go_simp
    with_reducible rfl
   rotate_left
   ·simp only [Act.put, List.setIfInBounds_toArray, List.set_cons_zero, List.set_cons_succ, i64_w, i32_w]
    rfl
   refine take_ (i := 117) (N := some 316) (v := ?_) (a' := ?_) #[true, true, true, true, true, true, true, true, true, true, true, true, true, true, true, true, true, true, true, true, true, true, true, true, true, true, true, true, true, true, true, true, true, true, true, true, true, true, true, true, true, true, true, true, true, true, true, true, true, true, true, true, true, true, true, true, true, true, true, true, true, true, true, true, true, true, true, true, true, true, true, true, true, true, true, true, true, true, true, true, true, true, true, true, true, true, true, true, true, true, true, true, true, true, true, true, true, true, true, true, true, true, true, true, true, true, true, true, true, true, true, true, true, true, true, true, false, true, false, false, false, false, false, false, false, false, false, false, false, false, false, false, false, false, false, false, false, false, false, false, false, false, false, false] rfl rfl (take_ofW HT_.out HW_.out (by kernel_rfl)) (fun _ _ _ h => h) (Or.inl ⟨by rfl, ?_⟩) hHeld ?_ ?_
   rotate_left
   ·rintro w' ⟨s0, s1, s2, s3, s4, s5, s6, s7, s8, s9⟩
    go_simp
    with_reducible rfl
   rotate_left
   ·simp only [Act.put, List.setIfInBounds_toArray, List.set_cons_zero, List.set_cons_succ, i64_w, i32_w]
    rfl
   refine one_ (i := 116) (N := some 315) #[true, true, true, true, true, true, true, true, true, true, true, true, true, true, true, true, true, true, true, true, true, true, true, true, true, true, true, true, true, true, true, true, true, true, true, true, true, true, true, true, true, true, true, true, true, true, true, true, true, true, true, true, true, true, true, true, true, true, true, true, true, true, true, true, true, true, true, true, true, true, true, true, true, true, true, true, true, true, true, true, true, true, true, true, true, true, true, true, true, true, true, true, true, true, true, true, true, true, true, true, true, true, true, true, true, true, true, true, true, true, true, true, true, true, true, true, true, true, false, false, false, false, false, false, false, false, false, false, false, false, false, false, false, false, false, false, false, false, false, false, false, false, false, false] rfl rfl (one_of HT_.out (by kernel_rfl)) (by decide) (fun K hK => ?_)
   refine goes_ Tryd.func27 (by kernel_rfl) rfl #[.agg #[.slice A26 kW2.length c26]] (by rfl) rfl rfl (by simp only [List.map_toArray, List.map_cons, List.map_nil]; rfl) ?_
   with_reducible refine (tree_Clean.calls (fun k => k ≠ bK) A26 c26 kW2 kTT w1 (Kd.V_below HK.out.hv hb1) k_c1).mono ?_
   rintro e w2 ⟨v2, rfl, hv2, hb2⟩
   refine ⟨_, rfl, ?_⟩
   obtain ⟨AC, cC, rfl⟩ : ∃ A c, v2 = .slice A 3 c := Kd.V_slice hv2
   have hB2 := hb1.trans (hb2.mono hb1.size)
   have hlC : kTT.length ≤ cC := (Kd.V_reads' hv2).2.1
   have hcC : Kd.C k30 w2 AC kTT.length kTT := (Kd.V_reads' hv2).2.2
   refine hK.out _ _ ⟨(Below.cell hB2 (cell_lt2 md0)).trans md0, (Below.cell hB2 (cell_lt2 md1)).trans md1, (Below.cell hB2 (cell_lt2 md2)).trans md2, (Below.cell hB2 (cell_lt2 md3)).trans md3, (Below.cell hB2 (cell_lt2 md4)).trans md4, (Below.cell hB2 (cell_lt2 md5)).trans md5, (Below.cell hB2 (cell_lt2 md6)).trans md6, (Below.cell hB2 (cell_lt2 md7)).trans md7, Kd.C_string (P := Tryd.prog) (A := A7) (c := c7) Tryd.underlying23 Tryd.underlying5 Tryd.underlying9 (Kd.C_below KhCX.out hB2), Kd.C_string (P := Tryd.prog) (A := Ao2) (c := co2) Tryd.underlying23 Tryd.underlying5 Tryd.underlying9 (Kd.C_below KhCO.out hB2)⟩ (fun hHeld => ?_)
   clear hK K
   refine norm_ (a' := ?_) ?_ ?_
   rotate_left
   ·show Act.put _ (some 315) _ = _
    simp only [Act.put, List.setIfInBounds_toArray, List.set_cons_zero, List.set_cons_succ, i64_w, i32_w]
    rfl
   refine one_ (i := 118) (N := some 317) #[true, true, true, true, true, true, true, true, true, true, true, true, true, true, true, true, true, true, true, true, true, true, true, true, true, true, true, true, true, true, true, true, true, true, true, true, true, true, true, true, true, true, true, true, true, true, true, true, true, true, true, true, true, true, true, true, true, true, true, true, true, true, true, true, true, true, true, true, true, true, true, true, true, true, true, true, true, true, true, true, true, true, true, true, true, true, true, true, true, true, true, true, true, true, true, true, true, true, true, true, true, true, true, true, true, true, true, true, true, true, true, true, true, true, true, true, true, true, true, false, false, false, false, false, false, false, false, false, false, false, false, false, false, false, false, false, false, false, false, false, false, false, false, false] rfl rfl (one_of HT_.out (by kernel_rfl)) (by decide) (fun K hK => ?_)
   refine goes_ Tryd.func20 (by kernel_rfl) rfl #[.agg #[.slice AC kTT.length cC], .agg #[(.slice A4 kTT.length c4)]] (by rfl) rfl rfl (by simp only [List.map_toArray, List.map_cons, List.map_nil]; rfl) ?_
   with_reducible refine (tree_Same.calls AC cC kTT A4 c4 kTT true w2 hcC hlC (Kd.C_below KhCT.out hB2) KhLT.out k_s1).mono ?_
   rintro e w3 ⟨rfl, hb3⟩
   refine ⟨_, rfl, ?_⟩
   have hB3 := hB2.trans (hb3.mono hB2.size)
   refine hK.out _ _ ⟨(Below.cell hB3 (cell_lt2 md0)).trans md0, (Below.cell hB3 (cell_lt2 md1)).trans md1, (Below.cell hB3 (cell_lt2 md2)).trans md2, (Below.cell hB3 (cell_lt2 md3)).trans md3, (Below.cell hB3 (cell_lt2 md4)).trans md4, (Below.cell hB3 (cell_lt2 md5)).trans md5, (Below.cell hB3 (cell_lt2 md6)).trans md6, (Below.cell hB3 (cell_lt2 md7)).trans md7, Kd.C_string (P := Tryd.prog) (A := A7) (c := c7) Tryd.underlying23 Tryd.underlying5 Tryd.underlying9 (Kd.C_below KhCX.out hB3), Kd.C_string (P := Tryd.prog) (A := Ao2) (c := co2) Tryd.underlying23 Tryd.underlying5 Tryd.underlying9 (Kd.C_below KhCO.out hB3)⟩ (fun hHeld => ?_)
   clear hK K
   refine norm_ (a' := ?_) ?_ ?_
   rotate_left
   ·show Act.put _ (some 317) _ = _
    simp only [Act.put, List.setIfInBounds_toArray, List.set_cons_zero, List.set_cons_succ, i64_w, i32_w]
    rfl
   refine pure_ (i := 119) (N := some 318) (v := ?_) (a' := ?_) #[true, true, true, true, true, true, true, true, true, true, true, true, true, true, true, true, true, true, true, true, true, true, true, true, true, true, true, true, true, true, true, true, true, true, true, true, true, true, true, true, true, true, true, true, true, true, true, true, true, true, true, true, true, true, true, true, true, true, true, true, true, true, true, true, true, true, true, true, true, true, true, true, true, true, true, true, true, true, true, true, true, true, true, true, true, true, true, true, true, true, true, true, true, true, true, true, true, true, true, true, true, true, true, true, true, true, true, true, true, true, true, true, true, true, true, true, true, true, true, true, false, false, false, false, false, false, false, false, false, false, false, false, false, false, false, false, false, false, false, false, false, false, false, false] rfl rfl (any_of HT_.out (by kernel_rfl)) (fun _ _ _ h => h) (Or.inl ⟨by rfl, ?_⟩) ?_ ?_
   rotate_left
   ·intro w'
    go_simp
    with_reducible rfl
   rotate_left
   ·simp only [Act.put, List.setIfInBounds_toArray, List.set_cons_zero, List.set_cons_succ, i64_w, i32_w]
    rfl
   refine pure_ (i := 120) (N := some 319) (v := ?_) (a' := ?_) #[true, true, true, true, true, true, true, true, true, true, true, true, true, true, true, true, true, true, true, true, true, true, true, true, true, true, true, true, true, true, true, true, true, true, true, true, true, true, true, true, true, true, true, true, true, true, true, true, true, true, true, true, true, true, true, true, true, true, true, true, true, true, true, true, true, true, true, true, true, true, true, true, true, true, true, true, true, true, true, true, true, true, true, true, true, true, true, true, true, true, true, true, true, true, true, true, true, true, true, true, true, true, true, true, true, true, true, true, true, true, true, true, true, true, true, true, true, true, true, true, true, false, false, false, false, false, false, false, false, false, false, false, false, false, false, false, false, false, false, false, false, false, false, false] rfl rfl (any_of HT_.out (by kernel_rfl)) (fun _ _ _ h => h) (Or.inl ⟨by rfl, ?_⟩) ?_ ?_
   rotate_left
   ·intro w'
    go_simp
    with_reducible rfl
   rotate_left
   ·simp only [Act.put, List.setIfInBounds_toArray, List.set_cons_zero, List.set_cons_succ, i64_w, i32_w]
    rfl
   refine take_ (i := 121) (N := some 320) (v := ?_) (a' := ?_) #[true, true, true, true, true, true, true, true, true, true, true, true, true, true, true, true, true, true, true, true, true, true, true, true, true, true, true, true, true, true, true, true, true, true, true, true, true, true, true, true, true, true, true, true, true, true, true, true, true, true, true, true, true, true, true, true, true, true, true, true, true, true, true, true, true, true, true, true, true, true, true, true, true, true, true, true, true, true, true, true, true, true, true, true, true, true, true, true, true, true, true, true, true, true, true, true, true, true, true, true, true, true, true, true, true, true, true, true, true, true, true, true, true, true, true, true, true, true, true, true, true, true, false, false, false, false, false, false, false, false, false, false, false, false, false, false, false, false, false, false, false, false, false, false] rfl rfl (take_ofW HT_.out HW_.out (by kernel_rfl)) (fun _ _ _ h => h) (Or.inl ⟨by rfl, ?_⟩) hHeld ?_ ?_
   rotate_left
   ·rintro w' ⟨s0, s1, s2, s3, s4, s5, s6, s7, s8, s9⟩
    go_simp
    with_reducible rfl
   rotate_left
   ·simp only [Act.put, List.setIfInBounds_toArray, List.set_cons_zero, List.set_cons_succ, i64_w, i32_w]
    rfl
   refine join_ (σ := Option Addr × Nat × Nat) 20 #[true, true, true, true, true, true, true, true, true, true, true, true, true, true, true, true, true, true, true, true, true, true, true, true, true, true, true, true, true, true, true, true, true, true, true, true, true, true, true, true, true, true, true, true, true, true, true, true, true, true, true, true, true, true, true, true, true, true, true, true, true, true, true, true, true, true, true, true, true, true, true, true, true, true, true, true, true, true, true, true, true, true, true, true, true, true, true, true, true, true, true, true, true, true, true, true, true, true, true, true, true, true, true, true, true, true, true, true, true, true, true, true, true, true, true, true, true, true, true, true, true, true, true, true, false, false, false, false, false, false, false, false, false, false, false, false, false, false, false, false, false, false, false, false] (fun s_ => [(321, .slice s_.1 2 s_.2.1), (322, .slice (some ⟨s_.2.2, 0, none⟩) 2 2)]) (fun s_ w' => Below w3.heap.size w3 w' ∧ Kd.C Kd.string w' s_.1 ([⟨#[97]⟩, ⟨#[99]⟩] : List ByteArray).length [⟨#[97]⟩, ⟨#[99]⟩] ∧ ([⟨#[97]⟩, ⟨#[99]⟩] : List ByteArray).length ≤ s_.2.1 ∧ w'.heap[s_.2.2]? = some (.cells #[.string ⟨#[97]⟩, .string ⟨#[99]⟩] 9 (0, 0))) ?_ ?_
   rotate_left
   ·intro hCont
    refine two_ (i := 122) (j := 123) (Ni := some 321) (Nj := some 322) #[true, true, true, true, true, true, true, true, true, true, true, true, true, true, true, true, true, true, true, true, true, true, true, true, true, true, true, true, true, true, true, true, true, true, true, true, true, true, true, true, true, true, true, true, true, true, true, true, true, true, true, true, true, true, true, true, true, true, true, true, true, true, true, true, true, true, true, true, true, true, true, true, true, true, true, true, true, true, true, true, true, true, true, true, true, true, true, true, true, true, true, true, true, true, true, true, true, true, true, true, true, true, true, true, true, true, true, true, true, true, true, true, true, true, true, true, true, true, true, true, true, true, true, false, false, false, false, false, false, false, false, false, false, false, false, false, false, false, false, false, false, false, false, false] #[true, true, true, true, true, true, true, true, true, true, true, true, true, true, true, true, true, true, true, true, true, true, true, true, true, true, true, true, true, true, true, true, true, true, true, true, true, true, true, true, true, true, true, true, true, true, true, true, true, true, true, true, true, true, true, true, true, true, true, true, true, true, true, true, true, true, true, true, true, true, true, true, true, true, true, true, true, true, true, true, true, true, true, true, true, true, true, true, true, true, true, true, true, true, true, true, true, true, true, true, true, true, true, true, true, true, true, true, true, true, true, true, true, true, true, true, true, true, true, true, true, true, false, true, false, false, false, false, false, false, false, false, false, false, false, false, false, false, false, false, false, false, false, false] rfl rfl rfl rfl (two_of HT_.out (by kernel_rfl)) (by decide) (by decide) (fun K hK => ?_) (fun K hK => ?_)
    ·skip
     refine goes_ Tryd.func29 (by kernel_rfl) rfl #[.agg #[(.slice A4 kTT.length c4)], .string (⟨#[]⟩ : ByteArray)] (by rfl) rfl rfl (by simp only [List.map_toArray, List.map_cons, List.map_nil]; rfl) ?_
     with_reducible refine (tree_Kids.calls 10 A4 c4 kTT (⟨#[]⟩ : ByteArray) [⟨#[97]⟩, ⟨#[99]⟩] _ (Kd.C_below KhCT.out hB3) KhLT.out k_k1).mono ?_
     rintro e wA ⟨vK, rfl, hRk, hKb⟩
     refine ⟨_, rfl, ?_⟩
     obtain ⟨AK, cK, rfl⟩ : ∃ A c, vK = .slice A 2 c := Kd.R_slice hRk
     have hCk := (Kd.R_reads' hRk).2.2
     have hlk := (Kd.R_reads' hRk).2.1
     refine hK.out _ _ ⟨(Below.cell (hB3.trans (hKb.mono hB3.size)) (cell_lt2 md0)).trans md0, (Below.cell (hB3.trans (hKb.mono hB3.size)) (cell_lt2 md1)).trans md1, (Below.cell (hB3.trans (hKb.mono hB3.size)) (cell_lt2 md2)).trans md2, (Below.cell (hB3.trans (hKb.mono hB3.size)) (cell_lt2 md3)).trans md3, (Below.cell (hB3.trans (hKb.mono hB3.size)) (cell_lt2 md4)).trans md4, (Below.cell (hB3.trans (hKb.mono hB3.size)) (cell_lt2 md5)).trans md5, (Below.cell (hB3.trans (hKb.mono hB3.size)) (cell_lt2 md6)).trans md6, (Below.cell (hB3.trans (hKb.mono hB3.size)) (cell_lt2 md7)).trans md7, Kd.C_string (P := Tryd.prog) (A := A7) (c := c7) Tryd.underlying23 Tryd.underlying5 Tryd.underlying9 (Kd.C_below KhCX.out (hB3.trans (hKb.mono hB3.size))), Kd.C_string (P := Tryd.prog) (A := Ao2) (c := co2) Tryd.underlying23 Tryd.underlying5 Tryd.underlying9 (Kd.C_below KhCO.out (hB3.trans (hKb.mono hB3.size)))⟩ (fun hHeld => ?_)
     clear hK K
     refine norm_ (a' := ?_) ?_ ?_
     rotate_left
     ·show Act.put _ (some 321) _ = _
      simp only [Act.put, List.setIfInBounds_toArray, List.set_cons_zero, List.set_cons_succ, i64_w, i32_w]
      rfl
     refine one_ (i := 123) (N := some 322) #[true, true, true, true, true, true, true, true, true, true, true, true, true, true, true, true, true, true, true, true, true, true, true, true, true, true, true, true, true, true, true, true, true, true, true, true, true, true, true, true, true, true, true, true, true, true, true, true, true, true, true, true, true, true, true, true, true, true, true, true, true, true, true, true, true, true, true, true, true, true, true, true, true, true, true, true, true, true, true, true, true, true, true, true, true, true, true, true, true, true, true, true, true, true, true, true, true, true, true, true, true, true, true, true, true, true, true, true, true, true, true, true, true, true, true, true, true, true, true, true, true, true, true, true, false, false, false, false, false, false, false, false, false, false, false, false, false, false, false, false, false, false, false, false] rfl rfl (one_of HT_.out (by kernel_rfl)) (by decide) (fun K hK => ?_)
     refine value_ (w1 := ?_) (v := ?_) (by rfl) rfl ?_ ?_
     rotate_left 2
     ·go_simp
      constructor
      ·rfl
      ·rfl
     have hbB := below_alloc (Below.refl wA.heap.size wA) (.cells #[.string ⟨#[97]⟩, .string ⟨#[99]⟩] 9)
     have hkB := blk_new wA (.cells #[.string ⟨#[97]⟩, .string ⟨#[99]⟩] 9)
     have hN := hKb.trans (hbB.mono hKb.size)
     have hCk := Kd.C_below hCk hbB
     refine hK.out _ _ ⟨(Below.cell (hB3.trans (hN.mono hB3.size)) (cell_lt2 md0)).trans md0, (Below.cell (hB3.trans (hN.mono hB3.size)) (cell_lt2 md1)).trans md1, (Below.cell (hB3.trans (hN.mono hB3.size)) (cell_lt2 md2)).trans md2, (Below.cell (hB3.trans (hN.mono hB3.size)) (cell_lt2 md3)).trans md3, (Below.cell (hB3.trans (hN.mono hB3.size)) (cell_lt2 md4)).trans md4, (Below.cell (hB3.trans (hN.mono hB3.size)) (cell_lt2 md5)).trans md5, (Below.cell (hB3.trans (hN.mono hB3.size)) (cell_lt2 md6)).trans md6, (Below.cell (hB3.trans (hN.mono hB3.size)) (cell_lt2 md7)).trans md7, Kd.C_string (P := Tryd.prog) (A := A7) (c := c7) Tryd.underlying23 Tryd.underlying5 Tryd.underlying9 (Kd.C_below KhCX.out (hB3.trans (hN.mono hB3.size))), Kd.C_string (P := Tryd.prog) (A := Ao2) (c := co2) Tryd.underlying23 Tryd.underlying5 Tryd.underlying9 (Kd.C_below KhCO.out (hB3.trans (hN.mono hB3.size)))⟩ (fun hHeld => ?_)
     clear hK K
     refine norm_ (a' := ?_) ?_ ?_
     rotate_left
     ·show Act.put _ (some 322) _ = _
      simp only [Act.put, List.setIfInBounds_toArray, List.set_cons_zero, List.set_cons_succ, i64_w, i32_w]
      rfl
     exact norm_ (by simp only [putAll, Act.put, List.setIfInBounds_toArray, List.set_cons_zero, List.set_cons_succ]) (hCont (AK, cK, wA.heap.size) _ ⟨hN, hCk, hlk, hkB⟩)
    ·skip
     refine value_ (w1 := ?_) (v := ?_) (by rfl) rfl ?_ ?_
     rotate_left 2
     ·go_simp
      constructor
      ·rfl
      ·rfl
     have hbB := below_alloc (Below.refl w3.heap.size w3) (.cells #[.string ⟨#[97]⟩, .string ⟨#[99]⟩] 9)
     have hkB := blk_new w3 (.cells #[.string ⟨#[97]⟩, .string ⟨#[99]⟩] 9)
     refine hK.out _ _ ⟨(Below.cell (hB3.trans (hbB.mono hB3.size)) (cell_lt2 md0)).trans md0, (Below.cell (hB3.trans (hbB.mono hB3.size)) (cell_lt2 md1)).trans md1, (Below.cell (hB3.trans (hbB.mono hB3.size)) (cell_lt2 md2)).trans md2, (Below.cell (hB3.trans (hbB.mono hB3.size)) (cell_lt2 md3)).trans md3, (Below.cell (hB3.trans (hbB.mono hB3.size)) (cell_lt2 md4)).trans md4, (Below.cell (hB3.trans (hbB.mono hB3.size)) (cell_lt2 md5)).trans md5, (Below.cell (hB3.trans (hbB.mono hB3.size)) (cell_lt2 md6)).trans md6, (Below.cell (hB3.trans (hbB.mono hB3.size)) (cell_lt2 md7)).trans md7, Kd.C_string (P := Tryd.prog) (A := A7) (c := c7) Tryd.underlying23 Tryd.underlying5 Tryd.underlying9 (Kd.C_below KhCX.out (hB3.trans (hbB.mono hB3.size))), Kd.C_string (P := Tryd.prog) (A := Ao2) (c := co2) Tryd.underlying23 Tryd.underlying5 Tryd.underlying9 (Kd.C_below KhCO.out (hB3.trans (hbB.mono hB3.size)))⟩ (fun hHeld => ?_)
     clear hK K
     refine norm_ (a' := ?_) ?_ ?_
     rotate_left
     ·show Act.put _ (some 322) _ = _
      simp only [Act.put, List.setIfInBounds_toArray, List.set_cons_zero, List.set_cons_succ, i64_w, i32_w]
      rfl
     refine one_ (i := 122) (N := some 321) #[true, true, true, true, true, true, true, true, true, true, true, true, true, true, true, true, true, true, true, true, true, true, true, true, true, true, true, true, true, true, true, true, true, true, true, true, true, true, true, true, true, true, true, true, true, true, true, true, true, true, true, true, true, true, true, true, true, true, true, true, true, true, true, true, true, true, true, true, true, true, true, true, true, true, true, true, true, true, true, true, true, true, true, true, true, true, true, true, true, true, true, true, true, true, true, true, true, true, true, true, true, true, true, true, true, true, true, true, true, true, true, true, true, true, true, true, true, true, true, true, true, true, true, true, false, false, false, false, false, false, false, false, false, false, false, false, false, false, false, false, false, false, false, false] rfl rfl (one_of HT_.out (by kernel_rfl)) (by decide) (fun K hK => ?_)
     refine goes_ Tryd.func29 (by kernel_rfl) rfl #[.agg #[(.slice A4 kTT.length c4)], .string (⟨#[]⟩ : ByteArray)] (by rfl) rfl rfl (by simp only [List.map_toArray, List.map_cons, List.map_nil]; rfl) ?_
     with_reducible refine (tree_Kids.calls 10 A4 c4 kTT (⟨#[]⟩ : ByteArray) [⟨#[97]⟩, ⟨#[99]⟩] _ (Kd.C_below KhCT.out (hB3.trans (hbB.mono hB3.size))) KhLT.out k_k1).mono ?_
     rintro e wA ⟨vK, rfl, hRk, hKb⟩
     refine ⟨_, rfl, ?_⟩
     obtain ⟨AK, cK, rfl⟩ : ∃ A c, vK = .slice A 2 c := Kd.R_slice hRk
     have hCk := (Kd.R_reads' hRk).2.2
     have hlk := (Kd.R_reads' hRk).2.1
     have hN := hbB.trans (hKb.mono hbB.size)
     have hkB := (hKb.block _ (blk_lt hkB)).trans hkB
     refine hK.out _ _ ⟨(Below.cell (hB3.trans (hN.mono hB3.size)) (cell_lt2 md0)).trans md0, (Below.cell (hB3.trans (hN.mono hB3.size)) (cell_lt2 md1)).trans md1, (Below.cell (hB3.trans (hN.mono hB3.size)) (cell_lt2 md2)).trans md2, (Below.cell (hB3.trans (hN.mono hB3.size)) (cell_lt2 md3)).trans md3, (Below.cell (hB3.trans (hN.mono hB3.size)) (cell_lt2 md4)).trans md4, (Below.cell (hB3.trans (hN.mono hB3.size)) (cell_lt2 md5)).trans md5, (Below.cell (hB3.trans (hN.mono hB3.size)) (cell_lt2 md6)).trans md6, (Below.cell (hB3.trans (hN.mono hB3.size)) (cell_lt2 md7)).trans md7, Kd.C_string (P := Tryd.prog) (A := A7) (c := c7) Tryd.underlying23 Tryd.underlying5 Tryd.underlying9 (Kd.C_below KhCX.out (hB3.trans (hN.mono hB3.size))), Kd.C_string (P := Tryd.prog) (A := Ao2) (c := co2) Tryd.underlying23 Tryd.underlying5 Tryd.underlying9 (Kd.C_below KhCO.out (hB3.trans (hN.mono hB3.size)))⟩ (fun hHeld => ?_)
     clear hK K
     refine norm_ (a' := ?_) ?_ ?_
     rotate_left
     ·show Act.put _ (some 321) _ = _
      simp only [Act.put, List.setIfInBounds_toArray, List.set_cons_zero, List.set_cons_succ, i64_w, i32_w]
      rfl
     exact norm_ (by simp only [putAll, Act.put, List.setIfInBounds_toArray, List.set_cons_zero, List.set_cons_succ]) (hCont (AK, cK, w3.heap.size) _ ⟨hN, hCk, hlk, hkB⟩)
   rintro ⟨AK1, cK1, bs1⟩ wq1 ⟨hN1, hCk1, hlk1, hkB1⟩
   dsimp only at hN1 hCk1 hlk1 hkB1 ⊢
   have hBq1 := (hB3.trans (hN1.mono hB3.size))
   have hHeld : wq1.cell? ⟨bX, 2, none⟩ = some (.slice A7 1 c7) ∧ wq1.cell? ⟨bU, 0, none⟩ = some (.slice A15 2 c15) ∧ wq1.cell? ⟨bO, 0, none⟩ = some (.slice (some ado) 2 c18) ∧ wq1.cell? ⟨ado.block, ado.off + 3 + 2, none⟩ = some (.slice Ao2 1 co2) ∧ wq1.cell? ⟨bQ, 0, none⟩ = some (.slice A19 3 c19) ∧ wq1.cell? ⟨bT, 0, none⟩ = some (.slice A4 3 c4) ∧ wq1.cell? ⟨bF, 0, none⟩ = some (.slice A22 40 c22) ∧ wq1.cell? ⟨bK, 0, none⟩ = some (.slice A26 5 c26) ∧ (convert 23 9 (.slice A7 1 c7)).run Tryd.prog wq1 = .ok (.string ⟨#[120]⟩) wq1 ∧ (convert 23 9 (.slice Ao2 1 co2)).run Tryd.prog wq1 = .ok (.string ⟨#[120]⟩) wq1 := ⟨(Below.cell hBq1 (cell_lt2 md0)).trans md0, (Below.cell hBq1 (cell_lt2 md1)).trans md1, (Below.cell hBq1 (cell_lt2 md2)).trans md2, (Below.cell hBq1 (cell_lt2 md3)).trans md3, (Below.cell hBq1 (cell_lt2 md4)).trans md4, (Below.cell hBq1 (cell_lt2 md5)).trans md5, (Below.cell hBq1 (cell_lt2 md6)).trans md6, (Below.cell hBq1 (cell_lt2 md7)).trans md7, Kd.C_string (P := Tryd.prog) (A := A7) (c := c7) Tryd.underlying23 Tryd.underlying5 Tryd.underlying9 (Kd.C_below KhCX.out hBq1), Kd.C_string (P := Tryd.prog) (A := Ao2) (c := co2) Tryd.underlying23 Tryd.underlying5 Tryd.underlying9 (Kd.C_below KhCO.out hBq1)⟩
   refine norm_ (a' := ?_) ?_ ?_
   rotate_left
   ·simp only [putAll, Act.put, List.setIfInBounds_toArray, List.set_cons_zero, List.set_cons_succ]
    rfl
   refine one_ (i := 124) (N := some 323) #[true, true, true, true, true, true, true, true, true, true, true, true, true, true, true, true, true, true, true, true, true, true, true, true, true, true, true, true, true, true, true, true, true, true, true, true, true, true, true, true, true, true, true, true, true, true, true, true, true, true, true, true, true, true, true, true, true, true, true, true, true, true, true, true, true, true, true, true, true, true, true, true, true, true, true, true, true, true, true, true, true, true, true, true, true, true, true, true, true, true, true, true, true, true, true, true, true, true, true, true, true, true, true, true, true, true, true, true, true, true, true, true, true, true, true, true, true, true, true, true, true, true, true, true, true, false, false, false, false, false, false, false, false, false, false, false, false, false, false, false, false, false, false, false] rfl rfl (one_of HT_.out (by kernel_rfl)) (by decide) (fun K hK => ?_)
   refine goes_ Tryd.func30 (by kernel_rfl) rfl #[.slice AK1 ([⟨#[97]⟩, ⟨#[99]⟩] : List ByteArray).length cK1, .slice (some ⟨bs1, 0, none⟩) ([⟨#[97]⟩, ⟨#[99]⟩] : List ByteArray).length 2] (by rfl) rfl rfl (by simp only [List.map_toArray, List.map_cons, List.map_nil]; rfl) ?_
   with_reducible refine (tallymanlaw8_texts.calls 10 AK1 cK1 [⟨#[97]⟩, ⟨#[99]⟩] (some ⟨bs1, 0, none⟩) 2 [⟨#[97]⟩, ⟨#[99]⟩] true wq1 hCk1 hlk1 (C_strs [⟨#[97]⟩, ⟨#[99]⟩] hkB1 rfl (by decide)) (by decide) k_x1).mono ?_
   rintro e w4 ⟨rfl, hd4⟩
   refine ⟨_, rfl, ?_⟩
   have hb4 := hd4.below
   have hB4 := hBq1.trans (hb4.mono hBq1.size)
   refine hK.out _ _ ⟨(Below.cell hB4 (cell_lt2 md0)).trans md0, (Below.cell hB4 (cell_lt2 md1)).trans md1, (Below.cell hB4 (cell_lt2 md2)).trans md2, (Below.cell hB4 (cell_lt2 md3)).trans md3, (Below.cell hB4 (cell_lt2 md4)).trans md4, (Below.cell hB4 (cell_lt2 md5)).trans md5, (Below.cell hB4 (cell_lt2 md6)).trans md6, (Below.cell hB4 (cell_lt2 md7)).trans md7, Kd.C_string (P := Tryd.prog) (A := A7) (c := c7) Tryd.underlying23 Tryd.underlying5 Tryd.underlying9 (Kd.C_below KhCX.out hB4), Kd.C_string (P := Tryd.prog) (A := Ao2) (c := co2) Tryd.underlying23 Tryd.underlying5 Tryd.underlying9 (Kd.C_below KhCO.out hB4)⟩ (fun hHeld => ?_)
   clear hK K
   refine norm_ (a' := ?_) ?_ ?_
   rotate_left
   ·show Act.put _ (some 323) _ = _
    simp only [Act.put, List.setIfInBounds_toArray, List.set_cons_zero, List.set_cons_succ, i64_w, i32_w]
    rfl
   refine pure_ (i := 125) (N := some 324) (v := ?_) (a' := ?_) #[true, true, true, true, true, true, true, true, true, true, true, true, true, true, true, true, true, true, true, true, true, true, true, true, true, true, true, true, true, true, true, true, true, true, true, true, true, true, true, true, true, true, true, true, true, true, true, true, true, true, true, true, true, true, true, true, true, true, true, true, true, true, true, true, true, true, true, true, true, true, true, true, true, true, true, true, true, true, true, true, true, true, true, true, true, true, true, true, true, true, true, true, true, true, true, true, true, true, true, true, true, true, true, true, true, true, true, true, true, true, true, true, true, true, true, true, true, true, true, true, true, true, true, true, true, true, false, false, false, false, false, false, false, false, false, false, false, false, false, false, false, false, false, false] rfl rfl (any_of HT_.out (by kernel_rfl)) (fun _ _ _ h => h) (Or.inl ⟨by rfl, ?_⟩) ?_ ?_
   rotate_left
   ·intro w'
    go_simp
    with_reducible rfl
   rotate_left
   ·simp only [Act.put, List.setIfInBounds_toArray, List.set_cons_zero, List.set_cons_succ, i64_w, i32_w]
    rfl
   refine pure_ (i := 126) (N := some 325) (v := ?_) (a' := ?_) #[true, true, true, true, true, true, true, true, true, true, true, true, true, true, true, true, true, true, true, true, true, true, true, true, true, true, true, true, true, true, true, true, true, true, true, true, true, true, true, true, true, true, true, true, true, true, true, true, true, true, true, true, true, true, true, true, true, true, true, true, true, true, true, true, true, true, true, true, true, true, true, true, true, true, true, true, true, true, true, true, true, true, true, true, true, true, true, true, true, true, true, true, true, true, true, true, true, true, true, true, true, true, true, true, true, true, true, true, true, true, true, true, true, true, true, true, true, true, true, true, true, true, true, true, true, true, true, false, false, false, false, false, false, false, false, false, false, false, false, false, false, false, false, false] rfl rfl (any_of HT_.out (by kernel_rfl)) (fun _ _ _ h => h) (Or.inl ⟨by rfl, ?_⟩) ?_ ?_
   rotate_left
   ·intro w'
    go_simp
    with_reducible rfl
   rotate_left
   ·simp only [Act.put, List.setIfInBounds_toArray, List.set_cons_zero, List.set_cons_succ, i64_w, i32_w]
    rfl
   refine take_ (i := 127) (N := some 326) (v := ?_) (a' := ?_) #[true, true, true, true, true, true, true, true, true, true, true, true, true, true, true, true, true, true, true, true, true, true, true, true, true, true, true, true, true, true, true, true, true, true, true, true, true, true, true, true, true, true, true, true, true, true, true, true, true, true, true, true, true, true, true, true, true, true, true, true, true, true, true, true, true, true, true, true, true, true, true, true, true, true, true, true, true, true, true, true, true, true, true, true, true, true, true, true, true, true, true, true, true, true, true, true, true, true, true, true, true, true, true, true, true, true, true, true, true, true, true, true, true, true, true, true, true, true, true, true, true, true, true, true, true, true, true, true, false, false, false, false, false, false, false, false, false, false, false, false, false, false, false, false] rfl rfl (take_ofW HT_.out HW_.out (by kernel_rfl)) (fun _ _ _ h => h) (Or.inl ⟨by rfl, ?_⟩) hHeld ?_ ?_
   rotate_left
   ·rintro w' ⟨s0, s1, s2, s3, s4, s5, s6, s7, s8, s9⟩
    go_simp
    with_reducible rfl
   rotate_left
   ·simp only [Act.put, List.setIfInBounds_toArray, List.set_cons_zero, List.set_cons_succ, i64_w, i32_w]
    rfl
   refine join_ (σ := Option Addr × Nat × Nat) 14 #[true, true, true, true, true, true, true, true, true, true, true, true, true, true, true, true, true, true, true, true, true, true, true, true, true, true, true, true, true, true, true, true, true, true, true, true, true, true, true, true, true, true, true, true, true, true, true, true, true, true, true, true, true, true, true, true, true, true, true, true, true, true, true, true, true, true, true, true, true, true, true, true, true, true, true, true, true, true, true, true, true, true, true, true, true, true, true, true, true, true, true, true, true, true, true, true, true, true, true, true, true, true, true, true, true, true, true, true, true, true, true, true, true, true, true, true, true, true, true, true, true, true, true, true, true, true, true, true, true, true, false, false, false, false, false, false, false, false, false, false, false, false, false, false] (fun s_ => [(327, .slice s_.1 1 s_.2.1), (328, .slice (some ⟨s_.2.2, 0, none⟩) 1 1)]) (fun s_ w' => Below w4.heap.size w4 w' ∧ Kd.C Kd.string w' s_.1 ([⟨#[97, 47, 98]⟩] : List ByteArray).length [⟨#[97, 47, 98]⟩] ∧ ([⟨#[97, 47, 98]⟩] : List ByteArray).length ≤ s_.2.1 ∧ w'.heap[s_.2.2]? = some (.cells #[.string ⟨#[97, 47, 98]⟩] 9 (0, 0))) ?_ ?_
   rotate_left
   ·intro hCont
    refine two_ (i := 128) (j := 129) (Ni := some 327) (Nj := some 328) #[true, true, true, true, true, true, true, true, true, true, true, true, true, true, true, true, true, true, true, true, true, true, true, true, true, true, true, true, true, true, true, true, true, true, true, true, true, true, true, true, true, true, true, true, true, true, true, true, true, true, true, true, true, true, true, true, true, true, true, true, true, true, true, true, true, true, true, true, true, true, true, true, true, true, true, true, true, true, true, true, true, true, true, true, true, true, true, true, true, true, true, true, true, true, true, true, true, true, true, true, true, true, true, true, true, true, true, true, true, true, true, true, true, true, true, true, true, true, true, true, true, true, true, true, true, true, true, true, true, false, false, false, false, false, false, false, false, false, false, false, false, false, false, false] #[true, true, true, true, true, true, true, true, true, true, true, true, true, true, true, true, true, true, true, true, true, true, true, true, true, true, true, true, true, true, true, true, true, true, true, true, true, true, true, true, true, true, true, true, true, true, true, true, true, true, true, true, true, true, true, true, true, true, true, true, true, true, true, true, true, true, true, true, true, true, true, true, true, true, true, true, true, true, true, true, true, true, true, true, true, true, true, true, true, true, true, true, true, true, true, true, true, true, true, true, true, true, true, true, true, true, true, true, true, true, true, true, true, true, true, true, true, true, true, true, true, true, true, true, true, true, true, true, false, true, false, false, false, false, false, false, false, false, false, false, false, false, false, false] rfl rfl rfl rfl (two_of HT_.out (by kernel_rfl)) (by decide) (by decide) (fun K hK => ?_) (fun K hK => ?_)
    ·skip
     refine goes_ Tryd.func29 (by kernel_rfl) rfl #[.agg #[(.slice A4 kTT.length c4)], .string ⟨#[97]⟩] (by rfl) rfl rfl (by simp only [List.map_toArray, List.map_cons, List.map_nil]; rfl) ?_
     with_reducible refine (tree_Kids.calls 10 A4 c4 kTT ⟨#[97]⟩ [⟨#[97, 47, 98]⟩] _ (Kd.C_below KhCT.out hB4) KhLT.out k_k2).mono ?_
     rintro e wA ⟨vK, rfl, hRk, hKb⟩
     refine ⟨_, rfl, ?_⟩
     obtain ⟨AK, cK, rfl⟩ : ∃ A c, vK = .slice A 1 c := Kd.R_slice hRk
     have hCk := (Kd.R_reads' hRk).2.2
     have hlk := (Kd.R_reads' hRk).2.1
     refine hK.out _ _ ⟨(Below.cell (hB4.trans (hKb.mono hB4.size)) (cell_lt2 md0)).trans md0, (Below.cell (hB4.trans (hKb.mono hB4.size)) (cell_lt2 md1)).trans md1, (Below.cell (hB4.trans (hKb.mono hB4.size)) (cell_lt2 md2)).trans md2, (Below.cell (hB4.trans (hKb.mono hB4.size)) (cell_lt2 md3)).trans md3, (Below.cell (hB4.trans (hKb.mono hB4.size)) (cell_lt2 md4)).trans md4, (Below.cell (hB4.trans (hKb.mono hB4.size)) (cell_lt2 md5)).trans md5, (Below.cell (hB4.trans (hKb.mono hB4.size)) (cell_lt2 md6)).trans md6, (Below.cell (hB4.trans (hKb.mono hB4.size)) (cell_lt2 md7)).trans md7, Kd.C_string (P := Tryd.prog) (A := A7) (c := c7) Tryd.underlying23 Tryd.underlying5 Tryd.underlying9 (Kd.C_below KhCX.out (hB4.trans (hKb.mono hB4.size))), Kd.C_string (P := Tryd.prog) (A := Ao2) (c := co2) Tryd.underlying23 Tryd.underlying5 Tryd.underlying9 (Kd.C_below KhCO.out (hB4.trans (hKb.mono hB4.size)))⟩ (fun hHeld => ?_)
     clear hK K
     refine norm_ (a' := ?_) ?_ ?_
     rotate_left
     ·show Act.put _ (some 327) _ = _
      simp only [Act.put, List.setIfInBounds_toArray, List.set_cons_zero, List.set_cons_succ, i64_w, i32_w]
      rfl
     refine one_ (i := 129) (N := some 328) #[true, true, true, true, true, true, true, true, true, true, true, true, true, true, true, true, true, true, true, true, true, true, true, true, true, true, true, true, true, true, true, true, true, true, true, true, true, true, true, true, true, true, true, true, true, true, true, true, true, true, true, true, true, true, true, true, true, true, true, true, true, true, true, true, true, true, true, true, true, true, true, true, true, true, true, true, true, true, true, true, true, true, true, true, true, true, true, true, true, true, true, true, true, true, true, true, true, true, true, true, true, true, true, true, true, true, true, true, true, true, true, true, true, true, true, true, true, true, true, true, true, true, true, true, true, true, true, true, true, true, false, false, false, false, false, false, false, false, false, false, false, false, false, false] rfl rfl (one_of HT_.out (by kernel_rfl)) (by decide) (fun K hK => ?_)
     refine value_ (w1 := ?_) (v := ?_) (by rfl) rfl ?_ ?_
     rotate_left 2
     ·go_simp
      constructor
      ·rfl
      ·rfl
     have hbB := below_alloc (Below.refl wA.heap.size wA) (.cells #[.string ⟨#[97, 47, 98]⟩] 9)
     have hkB := blk_new wA (.cells #[.string ⟨#[97, 47, 98]⟩] 9)
     have hN := hKb.trans (hbB.mono hKb.size)
     have hCk := Kd.C_below hCk hbB
     refine hK.out _ _ ⟨(Below.cell (hB4.trans (hN.mono hB4.size)) (cell_lt2 md0)).trans md0, (Below.cell (hB4.trans (hN.mono hB4.size)) (cell_lt2 md1)).trans md1, (Below.cell (hB4.trans (hN.mono hB4.size)) (cell_lt2 md2)).trans md2, (Below.cell (hB4.trans (hN.mono hB4.size)) (cell_lt2 md3)).trans md3, (Below.cell (hB4.trans (hN.mono hB4.size)) (cell_lt2 md4)).trans md4, (Below.cell (hB4.trans (hN.mono hB4.size)) (cell_lt2 md5)).trans md5, (Below.cell (hB4.trans (hN.mono hB4.size)) (cell_lt2 md6)).trans md6, (Below.cell (hB4.trans (hN.mono hB4.size)) (cell_lt2 md7)).trans md7, Kd.C_string (P := Tryd.prog) (A := A7) (c := c7) Tryd.underlying23 Tryd.underlying5 Tryd.underlying9 (Kd.C_below KhCX.out (hB4.trans (hN.mono hB4.size))), Kd.C_string (P := Tryd.prog) (A := Ao2) (c := co2) Tryd.underlying23 Tryd.underlying5 Tryd.underlying9 (Kd.C_below KhCO.out (hB4.trans (hN.mono hB4.size)))⟩ (fun hHeld => ?_)
     clear hK K
     refine norm_ (a' := ?_) ?_ ?_
     rotate_left
     ·show Act.put _ (some 328) _ = _
      simp only [Act.put, List.setIfInBounds_toArray, List.set_cons_zero, List.set_cons_succ, i64_w, i32_w]
      rfl
     exact norm_ (by simp only [putAll, Act.put, List.setIfInBounds_toArray, List.set_cons_zero, List.set_cons_succ]) (hCont (AK, cK, wA.heap.size) _ ⟨hN, hCk, hlk, hkB⟩)
    ·skip
     refine value_ (w1 := ?_) (v := ?_) (by rfl) rfl ?_ ?_
     rotate_left 2
     ·go_simp
      constructor
      ·rfl
      ·rfl
     have hbB := below_alloc (Below.refl w4.heap.size w4) (.cells #[.string ⟨#[97, 47, 98]⟩] 9)
     have hkB := blk_new w4 (.cells #[.string ⟨#[97, 47, 98]⟩] 9)
     refine hK.out _ _ ⟨(Below.cell (hB4.trans (hbB.mono hB4.size)) (cell_lt2 md0)).trans md0, (Below.cell (hB4.trans (hbB.mono hB4.size)) (cell_lt2 md1)).trans md1, (Below.cell (hB4.trans (hbB.mono hB4.size)) (cell_lt2 md2)).trans md2, (Below.cell (hB4.trans (hbB.mono hB4.size)) (cell_lt2 md3)).trans md3, (Below.cell (hB4.trans (hbB.mono hB4.size)) (cell_lt2 md4)).trans md4, (Below.cell (hB4.trans (hbB.mono hB4.size)) (cell_lt2 md5)).trans md5, (Below.cell (hB4.trans (hbB.mono hB4.size)) (cell_lt2 md6)).trans md6, (Below.cell (hB4.trans (hbB.mono hB4.size)) (cell_lt2 md7)).trans md7, Kd.C_string (P := Tryd.prog) (A := A7) (c := c7) Tryd.underlying23 Tryd.underlying5 Tryd.underlying9 (Kd.C_below KhCX.out (hB4.trans (hbB.mono hB4.size))), Kd.C_string (P := Tryd.prog) (A := Ao2) (c := co2) Tryd.underlying23 Tryd.underlying5 Tryd.underlying9 (Kd.C_below KhCO.out (hB4.trans (hbB.mono hB4.size)))⟩ (fun hHeld => ?_)
     clear hK K
     refine norm_ (a' := ?_) ?_ ?_
     rotate_left
     ·show Act.put _ (some 328) _ = _
      simp only [Act.put, List.setIfInBounds_toArray, List.set_cons_zero, List.set_cons_succ, i64_w, i32_w]
      rfl
     refine one_ (i := 128) (N := some 327) #[true, true, true, true, true, true, true, true, true, true, true, true, true, true, true, true, true, true, true, true, true, true, true, true, true, true, true, true, true, true, true, true, true, true, true, true, true, true, true, true, true, true, true, true, true, true, true, true, true, true, true, true, true, true, true, true, true, true, true, true, true, true, true, true, true, true, true, true, true, true, true, true, true, true, true, true, true, true, true, true, true, true, true, true, true, true, true, true, true, true, true, true, true, true, true, true, true, true, true, true, true, true, true, true, true, true, true, true, true, true, true, true, true, true, true, true, true, true, true, true, true, true, true, true, true, true, true, true, true, true, false, false, false, false, false, false, false, false, false, false, false, false, false, false] rfl rfl (one_of HT_.out (by kernel_rfl)) (by decide) (fun K hK => ?_)
     refine goes_ Tryd.func29 (by kernel_rfl) rfl #[.agg #[(.slice A4 kTT.length c4)], .string ⟨#[97]⟩] (by rfl) rfl rfl (by simp only [List.map_toArray, List.map_cons, List.map_nil]; rfl) ?_
     with_reducible refine (tree_Kids.calls 10 A4 c4 kTT ⟨#[97]⟩ [⟨#[97, 47, 98]⟩] _ (Kd.C_below KhCT.out (hB4.trans (hbB.mono hB4.size))) KhLT.out k_k2).mono ?_
     rintro e wA ⟨vK, rfl, hRk, hKb⟩
     refine ⟨_, rfl, ?_⟩
     obtain ⟨AK, cK, rfl⟩ : ∃ A c, vK = .slice A 1 c := Kd.R_slice hRk
     have hCk := (Kd.R_reads' hRk).2.2
     have hlk := (Kd.R_reads' hRk).2.1
     have hN := hbB.trans (hKb.mono hbB.size)
     have hkB := (hKb.block _ (blk_lt hkB)).trans hkB
     refine hK.out _ _ ⟨(Below.cell (hB4.trans (hN.mono hB4.size)) (cell_lt2 md0)).trans md0, (Below.cell (hB4.trans (hN.mono hB4.size)) (cell_lt2 md1)).trans md1, (Below.cell (hB4.trans (hN.mono hB4.size)) (cell_lt2 md2)).trans md2, (Below.cell (hB4.trans (hN.mono hB4.size)) (cell_lt2 md3)).trans md3, (Below.cell (hB4.trans (hN.mono hB4.size)) (cell_lt2 md4)).trans md4, (Below.cell (hB4.trans (hN.mono hB4.size)) (cell_lt2 md5)).trans md5, (Below.cell (hB4.trans (hN.mono hB4.size)) (cell_lt2 md6)).trans md6, (Below.cell (hB4.trans (hN.mono hB4.size)) (cell_lt2 md7)).trans md7, Kd.C_string (P := Tryd.prog) (A := A7) (c := c7) Tryd.underlying23 Tryd.underlying5 Tryd.underlying9 (Kd.C_below KhCX.out (hB4.trans (hN.mono hB4.size))), Kd.C_string (P := Tryd.prog) (A := Ao2) (c := co2) Tryd.underlying23 Tryd.underlying5 Tryd.underlying9 (Kd.C_below KhCO.out (hB4.trans (hN.mono hB4.size)))⟩ (fun hHeld => ?_)
     clear hK K
     refine norm_ (a' := ?_) ?_ ?_
     rotate_left
     ·show Act.put _ (some 327) _ = _
      simp only [Act.put, List.setIfInBounds_toArray, List.set_cons_zero, List.set_cons_succ, i64_w, i32_w]
      rfl
     exact norm_ (by simp only [putAll, Act.put, List.setIfInBounds_toArray, List.set_cons_zero, List.set_cons_succ]) (hCont (AK, cK, w4.heap.size) _ ⟨hN, hCk, hlk, hkB⟩)
   rintro ⟨AK2, cK2, bs2⟩ wq2 ⟨hN2, hCk2, hlk2, hkB2⟩
   dsimp only at hN2 hCk2 hlk2 hkB2 ⊢
   have hBq2 := (hB4.trans (hN2.mono hB4.size))
   have hHeld : wq2.cell? ⟨bX, 2, none⟩ = some (.slice A7 1 c7) ∧ wq2.cell? ⟨bU, 0, none⟩ = some (.slice A15 2 c15) ∧ wq2.cell? ⟨bO, 0, none⟩ = some (.slice (some ado) 2 c18) ∧ wq2.cell? ⟨ado.block, ado.off + 3 + 2, none⟩ = some (.slice Ao2 1 co2) ∧ wq2.cell? ⟨bQ, 0, none⟩ = some (.slice A19 3 c19) ∧ wq2.cell? ⟨bT, 0, none⟩ = some (.slice A4 3 c4) ∧ wq2.cell? ⟨bF, 0, none⟩ = some (.slice A22 40 c22) ∧ wq2.cell? ⟨bK, 0, none⟩ = some (.slice A26 5 c26) ∧ (convert 23 9 (.slice A7 1 c7)).run Tryd.prog wq2 = .ok (.string ⟨#[120]⟩) wq2 ∧ (convert 23 9 (.slice Ao2 1 co2)).run Tryd.prog wq2 = .ok (.string ⟨#[120]⟩) wq2 := ⟨(Below.cell hBq2 (cell_lt2 md0)).trans md0, (Below.cell hBq2 (cell_lt2 md1)).trans md1, (Below.cell hBq2 (cell_lt2 md2)).trans md2, (Below.cell hBq2 (cell_lt2 md3)).trans md3, (Below.cell hBq2 (cell_lt2 md4)).trans md4, (Below.cell hBq2 (cell_lt2 md5)).trans md5, (Below.cell hBq2 (cell_lt2 md6)).trans md6, (Below.cell hBq2 (cell_lt2 md7)).trans md7, Kd.C_string (P := Tryd.prog) (A := A7) (c := c7) Tryd.underlying23 Tryd.underlying5 Tryd.underlying9 (Kd.C_below KhCX.out hBq2), Kd.C_string (P := Tryd.prog) (A := Ao2) (c := co2) Tryd.underlying23 Tryd.underlying5 Tryd.underlying9 (Kd.C_below KhCO.out hBq2)⟩
   refine norm_ (a' := ?_) ?_ ?_
   rotate_left
   ·simp only [putAll, Act.put, List.setIfInBounds_toArray, List.set_cons_zero, List.set_cons_succ]
    rfl
   refine one_ (i := 130) (N := some 329) #[true, true, true, true, true, true, true, true, true, true, true, true, true, true, true, true, true, true, true, true, true, true, true, true, true, true, true, true, true, true, true, true, true, true, true, true, true, true, true, true, true, true, true, true, true, true, true, true, true, true, true, true, true, true, true, true, true, true, true, true, true, true, true, true, true, true, true, true, true, true, true, true, true, true, true, true, true, true, true, true, true, true, true, true, true, true, true, true, true, true, true, true, true, true, true, true, true, true, true, true, true, true, true, true, true, true, true, true, true, true, true, true, true, true, true, true, true, true, true, true, true, true, true, true, true, true, true, true, true, true, true, false, false, false, false, false, false, false, false, false, false, false, false, false] rfl rfl (one_of HT_.out (by kernel_rfl)) (by decide) (fun K hK => ?_)
   refine goes_ Tryd.func30 (by kernel_rfl) rfl #[.slice AK2 ([⟨#[97, 47, 98]⟩] : List ByteArray).length cK2, .slice (some ⟨bs2, 0, none⟩) ([⟨#[97, 47, 98]⟩] : List ByteArray).length 1] (by rfl) rfl rfl (by simp only [List.map_toArray, List.map_cons, List.map_nil]; rfl) ?_
   with_reducible refine (tallymanlaw8_texts.calls 10 AK2 cK2 [⟨#[97, 47, 98]⟩] (some ⟨bs2, 0, none⟩) 1 [⟨#[97, 47, 98]⟩] true wq2 hCk2 hlk2 (C_strs [⟨#[97, 47, 98]⟩] hkB2 rfl (by decide)) (by decide) k_x2).mono ?_
   rintro e w5 ⟨rfl, hd5⟩
   refine ⟨_, rfl, ?_⟩
   have hb5 := hd5.below
   have hB5 := hBq2.trans (hb5.mono hBq2.size)
   refine hK.out _ _ ⟨(Below.cell hB5 (cell_lt2 md0)).trans md0, (Below.cell hB5 (cell_lt2 md1)).trans md1, (Below.cell hB5 (cell_lt2 md2)).trans md2, (Below.cell hB5 (cell_lt2 md3)).trans md3, (Below.cell hB5 (cell_lt2 md4)).trans md4, (Below.cell hB5 (cell_lt2 md5)).trans md5, (Below.cell hB5 (cell_lt2 md6)).trans md6, (Below.cell hB5 (cell_lt2 md7)).trans md7, Kd.C_string (P := Tryd.prog) (A := A7) (c := c7) Tryd.underlying23 Tryd.underlying5 Tryd.underlying9 (Kd.C_below KhCX.out hB5), Kd.C_string (P := Tryd.prog) (A := Ao2) (c := co2) Tryd.underlying23 Tryd.underlying5 Tryd.underlying9 (Kd.C_below KhCO.out hB5)⟩ (fun hHeld => ?_)
   clear hK K
   refine norm_ (a' := ?_) ?_ ?_
   rotate_left
   ·show Act.put _ (some 329) _ = _
    simp only [Act.put, List.setIfInBounds_toArray, List.set_cons_zero, List.set_cons_succ, i64_w, i32_w]
    rfl
   refine pure_ (i := 131) (N := some 330) (v := ?_) (a' := ?_) #[true, true, true, true, true, true, true, true, true, true, true, true, true, true, true, true, true, true, true, true, true, true, true, true, true, true, true, true, true, true, true, true, true, true, true, true, true, true, true, true, true, true, true, true, true, true, true, true, true, true, true, true, true, true, true, true, true, true, true, true, true, true, true, true, true, true, true, true, true, true, true, true, true, true, true, true, true, true, true, true, true, true, true, true, true, true, true, true, true, true, true, true, true, true, true, true, true, true, true, true, true, true, true, true, true, true, true, true, true, true, true, true, true, true, true, true, true, true, true, true, true, true, true, true, true, true, true, true, true, true, true, true, false, false, false, false, false, false, false, false, false, false, false, false] rfl rfl (any_of HT_.out (by kernel_rfl)) (fun _ _ _ h => h) (Or.inl ⟨by rfl, ?_⟩) ?_ ?_
   rotate_left
   ·intro w'
    go_simp
    with_reducible rfl
   rotate_left
   ·simp only [Act.put, List.setIfInBounds_toArray, List.set_cons_zero, List.set_cons_succ, i64_w, i32_w]
    rfl
   refine pure_ (i := 132) (N := some 331) (v := ?_) (a' := ?_) #[true, true, true, true, true, true, true, true, true, true, true, true, true, true, true, true, true, true, true, true, true, true, true, true, true, true, true, true, true, true, true, true, true, true, true, true, true, true, true, true, true, true, true, true, true, true, true, true, true, true, true, true, true, true, true, true, true, true, true, true, true, true, true, true, true, true, true, true, true, true, true, true, true, true, true, true, true, true, true, true, true, true, true, true, true, true, true, true, true, true, true, true, true, true, true, true, true, true, true, true, true, true, true, true, true, true, true, true, true, true, true, true, true, true, true, true, true, true, true, true, true, true, true, true, true, true, true, true, true, true, true, true, true, false, false, false, false, false, false, false, false, false, false, false] rfl rfl (any_of HT_.out (by kernel_rfl)) (fun _ _ _ h => h) (Or.inl ⟨by rfl, ?_⟩) ?_ ?_
   rotate_left
   ·intro w'
    go_simp
    with_reducible rfl
   rotate_left
   ·simp only [Act.put, List.setIfInBounds_toArray, List.set_cons_zero, List.set_cons_succ, i64_w, i32_w]
    rfl
   refine take_ (i := 133) (N := some 332) (v := ?_) (a' := ?_) #[true, true, true, true, true, true, true, true, true, true, true, true, true, true, true, true, true, true, true, true, true, true, true, true, true, true, true, true, true, true, true, true, true, true, true, true, true, true, true, true, true, true, true, true, true, true, true, true, true, true, true, true, true, true, true, true, true, true, true, true, true, true, true, true, true, true, true, true, true, true, true, true, true, true, true, true, true, true, true, true, true, true, true, true, true, true, true, true, true, true, true, true, true, true, true, true, true, true, true, true, true, true, true, true, true, true, true, true, true, true, true, true, true, true, true, true, true, true, true, true, true, true, true, true, true, true, true, true, true, true, true, true, true, true, false, false, false, false, false, false, false, false, false, false] rfl rfl (take_ofW HT_.out HW_.out (by kernel_rfl)) (fun _ _ _ h => h) (Or.inl ⟨by rfl, ?_⟩) hHeld ?_ ?_
   rotate_left
   ·rintro w' ⟨s0, s1, s2, s3, s4, s5, s6, s7, s8, s9⟩
    go_simp
    with_reducible rfl
   rotate_left
   ·simp only [Act.put, List.setIfInBounds_toArray, List.set_cons_zero, List.set_cons_succ, i64_w, i32_w]
    rfl
   refine one_ (i := 134) (N := some 333) #[true, true, true, true, true, true, true, true, true, true, true, true, true, true, true, true, true, true, true, true, true, true, true, true, true, true, true, true, true, true, true, true, true, true, true, true, true, true, true, true, true, true, true, true, true, true, true, true, true, true, true, true, true, true, true, true, true, true, true, true, true, true, true, true, true, true, true, true, true, true, true, true, true, true, true, true, true, true, true, true, true, true, true, true, true, true, true, true, true, true, true, true, true, true, true, true, true, true, true, true, true, true, true, true, true, true, true, true, true, true, true, true, true, true, true, true, true, true, true, true, true, true, true, true, true, true, true, true, true, true, true, true, true, true, true, false, false, false, false, false, false, false, false, false] rfl rfl (one_of HT_.out (by kernel_rfl)) (by decide) (fun K hK => ?_)
   refine goes_ Tryd.func15 (by kernel_rfl) rfl #[.agg #[(.slice A4 kTT.length c4)]] (by rfl) rfl rfl (by simp only [List.map_toArray, List.map_cons, List.map_nil]; rfl) ?_
   with_reducible refine (tree_Bytes.calls 10 A4 c4 kTT 1 w5 (Kd.C_below KhCT.out hB5) KhLT.out k_b1).mono ?_
   rintro e w6 ⟨rfl, hb6⟩
   refine ⟨_, rfl, ?_⟩
   have hB6 := hB5.trans (hb6.mono hB5.size)
   refine hK.out _ _ ⟨(Below.cell hB6 (cell_lt2 md0)).trans md0, (Below.cell hB6 (cell_lt2 md1)).trans md1, (Below.cell hB6 (cell_lt2 md2)).trans md2, (Below.cell hB6 (cell_lt2 md3)).trans md3, (Below.cell hB6 (cell_lt2 md4)).trans md4, (Below.cell hB6 (cell_lt2 md5)).trans md5, (Below.cell hB6 (cell_lt2 md6)).trans md6, (Below.cell hB6 (cell_lt2 md7)).trans md7, Kd.C_string (P := Tryd.prog) (A := A7) (c := c7) Tryd.underlying23 Tryd.underlying5 Tryd.underlying9 (Kd.C_below KhCX.out hB6), Kd.C_string (P := Tryd.prog) (A := Ao2) (c := co2) Tryd.underlying23 Tryd.underlying5 Tryd.underlying9 (Kd.C_below KhCO.out hB6)⟩ (fun hHeld => ?_)
   clear hK K
   refine norm_ (a' := ?_) ?_ ?_
   rotate_left
   ·show Act.put _ (some 333) _ = _
    simp only [Act.put, List.setIfInBounds_toArray, List.set_cons_zero, List.set_cons_succ, i64_w, i32_w]
    rfl
   refine pure_ (i := 135) (N := some 334) (v := ?_) (a' := ?_) #[true, true, true, true, true, true, true, true, true, true, true, true, true, true, true, true, true, true, true, true, true, true, true, true, true, true, true, true, true, true, true, true, true, true, true, true, true, true, true, true, true, true, true, true, true, true, true, true, true, true, true, true, true, true, true, true, true, true, true, true, true, true, true, true, true, true, true, true, true, true, true, true, true, true, true, true, true, true, true, true, true, true, true, true, true, true, true, true, true, true, true, true, true, true, true, true, true, true, true, true, true, true, true, true, true, true, true, true, true, true, true, true, true, true, true, true, true, true, true, true, true, true, true, true, true, true, true, true, true, true, true, true, true, true, true, true, false, false, false, false, false, false, false, false] rfl rfl (any_of HT_.out (by kernel_rfl)) (fun _ _ _ h => h) (Or.inl ⟨by rfl, ?_⟩) ?_ ?_
   rotate_left
   ·intro w'
    go_simp
    with_reducible rfl
   rotate_left
   ·simp only [Act.put, List.setIfInBounds_toArray, List.set_cons_zero, List.set_cons_succ, i64_w, i32_w]
    rfl
   refine pure_ (i := 136) (N := some 335) (v := ?_) (a' := ?_) #[true, true, true, true, true, true, true, true, true, true, true, true, true, true, true, true, true, true, true, true, true, true, true, true, true, true, true, true, true, true, true, true, true, true, true, true, true, true, true, true, true, true, true, true, true, true, true, true, true, true, true, true, true, true, true, true, true, true, true, true, true, true, true, true, true, true, true, true, true, true, true, true, true, true, true, true, true, true, true, true, true, true, true, true, true, true, true, true, true, true, true, true, true, true, true, true, true, true, true, true, true, true, true, true, true, true, true, true, true, true, true, true, true, true, true, true, true, true, true, true, true, true, true, true, true, true, true, true, true, true, true, true, true, true, true, true, true, false, false, false, false, false, false, false] rfl rfl (any_of HT_.out (by kernel_rfl)) (fun _ _ _ h => h) (Or.inl ⟨by rfl, ?_⟩) ?_ ?_
   rotate_left
   ·intro w'
    go_simp
    with_reducible rfl
   rotate_left
   ·simp only [Act.put, List.setIfInBounds_toArray, List.set_cons_zero, List.set_cons_succ, i64_w, i32_w]
    rfl
   refine pure_ (i := 137) (N := some 336) (v := ?_) (a' := ?_) #[true, true, true, true, true, true, true, true, true, true, true, true, true, true, true, true, true, true, true, true, true, true, true, true, true, true, true, true, true, true, true, true, true, true, true, true, true, true, true, true, true, true, true, true, true, true, true, true, true, true, true, true, true, true, true, true, true, true, true, true, true, true, true, true, true, true, true, true, true, true, true, true, true, true, true, true, true, true, true, true, true, true, true, true, true, true, true, true, true, true, true, true, true, true, true, true, true, true, true, true, true, true, true, true, true, true, true, true, true, true, true, true, true, true, true, true, true, true, true, true, true, true, true, true, true, true, true, true, true, true, true, true, true, true, true, true, true, true, false, false, false, false, false, false] rfl rfl (any_of HT_.out (by kernel_rfl)) (fun _ _ _ h => h) (Or.inl ⟨by rfl, ?_⟩) ?_ ?_
   rotate_left
   ·intro w'
    go_simp
    with_reducible rfl
   rotate_left
   ·simp only [Act.put, List.setIfInBounds_toArray, List.set_cons_zero, List.set_cons_succ, i64_w, i32_w]
    rfl
   refine take_ (i := 138) (N := some 337) (v := ?_) (a' := ?_) #[true, true, true, true, true, true, true, true, true, true, true, true, true, true, true, true, true, true, true, true, true, true, true, true, true, true, true, true, true, true, true, true, true, true, true, true, true, true, true, true, true, true, true, true, true, true, true, true, true, true, true, true, true, true, true, true, true, true, true, true, true, true, true, true, true, true, true, true, true, true, true, true, true, true, true, true, true, true, true, true, true, true, true, true, true, true, true, true, true, true, true, true, true, true, true, true, true, true, true, true, true, true, true, true, true, true, true, true, true, true, true, true, true, true, true, true, true, true, true, true, true, true, true, true, true, true, true, true, true, true, true, true, true, true, true, true, true, true, true, false, false, false, false, false] rfl rfl (take_ofW HT_.out HW_.out (by kernel_rfl)) (fun _ _ _ h => h) (Or.inl ⟨by rfl, ?_⟩) hHeld ?_ ?_
   rotate_left
   ·rintro w' ⟨s0, s1, s2, s3, s4, s5, s6, s7, s8, s9⟩
    go_simp
    with_reducible rfl
   rotate_left
   ·simp only [Act.put, List.setIfInBounds_toArray, List.set_cons_zero, List.set_cons_succ, i64_w, i32_w]
    rfl
   refine one_ (i := 139) (N := some 338) #[true, true, true, true, true, true, true, true, true, true, true, true, true, true, true, true, true, true, true, true, true, true, true, true, true, true, true, true, true, true, true, true, true, true, true, true, true, true, true, true, true, true, true, true, true, true, true, true, true, true, true, true, true, true, true, true, true, true, true, true, true, true, true, true, true, true, true, true, true, true, true, true, true, true, true, true, true, true, true, true, true, true, true, true, true, true, true, true, true, true, true, true, true, true, true, true, true, true, true, true, true, true, true, true, true, true, true, true, true, true, true, true, true, true, true, true, true, true, true, true, true, true, true, true, true, true, true, true, true, true, true, true, true, true, true, true, true, true, true, true, false, false, false, false] rfl rfl (one_of HT_.out (by kernel_rfl)) (by decide) (fun K hK => ?_)
   refine goes_ Tryd.func29 (by kernel_rfl) rfl #[.agg #[(.slice A4 kTT.length c4)], .string ⟨#[122, 122]⟩] (by rfl) rfl rfl (by simp only [List.map_toArray, List.map_cons, List.map_nil]; rfl) ?_
   with_reducible refine (tree_Kids.calls 10 A4 c4 kTT ⟨#[122, 122]⟩ [] w6 (Kd.C_below KhCT.out hB6) KhLT.out k_k3).mono ?_
   rintro e w7 ⟨v7, rfl, hR7, hb7⟩
   refine ⟨_, rfl, ?_⟩
   obtain ⟨A7_, c7_, rfl⟩ : ∃ A c, v7 = .slice A 0 c := Kd.R_slice hR7
   have hB7 := hB6.trans (hb7.mono hB6.size)
   refine hK.out _ _ ⟨(Below.cell hB7 (cell_lt2 md0)).trans md0, (Below.cell hB7 (cell_lt2 md1)).trans md1, (Below.cell hB7 (cell_lt2 md2)).trans md2, (Below.cell hB7 (cell_lt2 md3)).trans md3, (Below.cell hB7 (cell_lt2 md4)).trans md4, (Below.cell hB7 (cell_lt2 md5)).trans md5, (Below.cell hB7 (cell_lt2 md6)).trans md6, (Below.cell hB7 (cell_lt2 md7)).trans md7, Kd.C_string (P := Tryd.prog) (A := A7) (c := c7) Tryd.underlying23 Tryd.underlying5 Tryd.underlying9 (Kd.C_below KhCX.out hB7), Kd.C_string (P := Tryd.prog) (A := Ao2) (c := co2) Tryd.underlying23 Tryd.underlying5 Tryd.underlying9 (Kd.C_below KhCO.out hB7)⟩ (fun hHeld => ?_)
   clear hK K
   refine norm_ (a' := ?_) ?_ ?_
   rotate_left
   ·show Act.put _ (some 338) _ = _
    simp only [Act.put, List.setIfInBounds_toArray, List.set_cons_zero, List.set_cons_succ, i64_w, i32_w]
    rfl
   refine pure_ (i := 140) (N := some 339) (v := ?_) (a' := ?_) #[true, true, true, true, true, true, true, true, true, true, true, true, true, true, true, true, true, true, true, true, true, true, true, true, true, true, true, true, true, true, true, true, true, true, true, true, true, true, true, true, true, true, true, true, true, true, true, true, true, true, true, true, true, true, true, true, true, true, true, true, true, true, true, true, true, true, true, true, true, true, true, true, true, true, true, true, true, true, true, true, true, true, true, true, true, true, true, true, true, true, true, true, true, true, true, true, true, true, true, true, true, true, true, true, true, true, true, true, true, true, true, true, true, true, true, true, true, true, true, true, true, true, true, true, true, true, true, true, true, true, true, true, true, true, true, true, true, true, true, true, true, false, false, false] rfl rfl (any_of HT_.out (by kernel_rfl)) (fun _ _ _ h => h) (Or.inl ⟨by rfl, ?_⟩) ?_ ?_
   rotate_left
   ·intro w'
    go_simp
    with_reducible rfl
   rotate_left
   ·simp only [Act.put, List.setIfInBounds_toArray, List.set_cons_zero, List.set_cons_succ, i64_w, i32_w]
    rfl
   refine pure_ (i := 141) (N := some 340) (v := ?_) (a' := ?_) #[true, true, true, true, true, true, true, true, true, true, true, true, true, true, true, true, true, true, true, true, true, true, true, true, true, true, true, true, true, true, true, true, true, true, true, true, true, true, true, true, true, true, true, true, true, true, true, true, true, true, true, true, true, true, true, true, true, true, true, true, true, true, true, true, true, true, true, true, true, true, true, true, true, true, true, true, true, true, true, true, true, true, true, true, true, true, true, true, true, true, true, true, true, true, true, true, true, true, true, true, true, true, true, true, true, true, true, true, true, true, true, true, true, true, true, true, true, true, true, true, true, true, true, true, true, true, true, true, true, true, true, true, true, true, true, true, true, true, true, true, true, true, false, false] rfl rfl (any_of HT_.out (by kernel_rfl)) (fun _ _ _ h => h) (Or.inl ⟨by rfl, ?_⟩) ?_ ?_
   rotate_left
   ·intro w'
    go_simp
    with_reducible rfl
   rotate_left
   ·simp only [Act.put, List.setIfInBounds_toArray, List.set_cons_zero, List.set_cons_succ, i64_w, i32_w]
    rfl
   refine pure_ (i := 142) (N := some 341) (v := ?_) (a' := ?_) #[true, true, true, true, true, true, true, true, true, true, true, true, true, true, true, true, true, true, true, true, true, true, true, true, true, true, true, true, true, true, true, true, true, true, true, true, true, true, true, true, true, true, true, true, true, true, true, true, true, true, true, true, true, true, true, true, true, true, true, true, true, true, true, true, true, true, true, true, true, true, true, true, true, true, true, true, true, true, true, true, true, true, true, true, true, true, true, true, true, true, true, true, true, true, true, true, true, true, true, true, true, true, true, true, true, true, true, true, true, true, true, true, true, true, true, true, true, true, true, true, true, true, true, true, true, true, true, true, true, true, true, true, true, true, true, true, true, true, true, true, true, true, true, false] rfl rfl (any_of HT_.out (by kernel_rfl)) (fun _ _ _ h => h) (Or.inl ⟨by rfl, ?_⟩) ?_ ?_
   rotate_left
   ·intro w'
    go_simp
    with_reducible rfl
   rotate_left
   ·simp only [Act.put, List.setIfInBounds_toArray, List.set_cons_zero, List.set_cons_succ, i64_w, i32_w]
    rfl
   refine pure_ (i := 143) (N := some 0) (v := ?_) (a' := ?_) #[true, true, true, true, true, true, true, true, true, true, true, true, true, true, true, true, true, true, true, true, true, true, true, true, true, true, true, true, true, true, true, true, true, true, true, true, true, true, true, true, true, true, true, true, true, true, true, true, true, true, true, true, true, true, true, true, true, true, true, true, true, true, true, true, true, true, true, true, true, true, true, true, true, true, true, true, true, true, true, true, true, true, true, true, true, true, true, true, true, true, true, true, true, true, true, true, true, true, true, true, true, true, true, true, true, true, true, true, true, true, true, true, true, true, true, true, true, true, true, true, true, true, true, true, true, true, true, true, true, true, true, true, true, true, true, true, true, true, true, true, true, true, true, true] rfl rfl (any_of HT_.out (by kernel_rfl)) (fun _ _ _ h => h) (Or.inl ⟨by rfl, ?_⟩) ?_ ?_
   rotate_left
   ·intro w'
    go_simp
    with_reducible rfl
   rotate_left
   ·simp only [Act.put, List.setIfInBounds_toArray, List.set_cons_zero, List.set_cons_succ, i64_w, i32_w]
    rfl
   refine done_ (done_of HT_.out (by kernel_rfl)) ?_
   go_wp2_with (fail)
   go_ret
   exact ⟨rfl, HB.out.trans (hB7.mono HB.out.size)⟩
end Go.Proofs.YtidlldfghkaeeaaDoor.P
