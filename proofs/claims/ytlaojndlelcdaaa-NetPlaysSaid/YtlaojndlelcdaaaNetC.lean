/- NetPlays: what the law keeps of the net, and how its rows of texts are made. -/
import Derived.Test.YtlaojndlelcdaaaNetB
import Derived.Deep.CutBlock
namespace Go.Proofs.Ytlaojndlelcdaaa.Nets
set_option linter.unusedSimpArgs false
set_option linter.unusedVariables false
open Go.RowKit Go.Proofs.Ytlaojndlelcdaaa.P Go.Proofs.YtlaojndlelcdaaaW.PrintWords Go.Proofs.YtlaojndlelcdaaaW.PrintLast Go.Proofs.YtlaojndlelcdaaaW.PrintMore

/-- A call of the law's list. -/
structure S66 where
  send : Bool
  op : Int
  to_ : Int
  i : Int
  s : Int
  y : Int
  b : List Int
def z66 : S66 := ⟨false, 0, 0, 0, 0, 0, []⟩
def k66 : Kd S66 := Kd.iso (Kd.pair Kd.bool (Kd.pair (Kd.int .i64) (Kd.pair (Kd.int .i64) (Kd.pair (Kd.int .i64) (Kd.pair (Kd.int .i64) (Kd.pair (Kd.int .u8) (Kd.slice 5 (Kd.int .u8)))))))) (fun x : S66 => (x.send, x.op, x.to_, x.i, x.s, x.y, x.b))
theorem k66_open {w : World} {x : S66} {cs : List Value} (h : k66.K w x cs) : ∃ A c, cs = [.bool x.send, .int .i64 x.op, .int .i64 x.to_, .int .i64 x.i, .int .i64 x.s, .int .u8 x.y, .slice A x.b.length c] ∧ x.b.length ≤ c ∧ (Kd.int .u8).C w A x.b.length x.b := by
  obtain ⟨_, _, rfl, rfl, ⟨_, _, rfl, rfl, ⟨_, _, rfl, rfl, ⟨_, _, rfl, rfl, ⟨_, _, rfl, rfl, ⟨_, _, rfl, rfl, ⟨A, c, rfl, l, g⟩⟩⟩⟩⟩⟩⟩ := h
  exact ⟨A, c, rfl, l, g⟩
def rd_T66 (xs : List S66) (i : Int) : S66 := xs.getD i.toNat z66
theorem at_T66 {w w1 : World} {A : Option Addr} {n : Nat} {xs : List S66} (h : Kd.C k66 w A n xs) (hb : Below w.heap.size w w1) (i : Int) (h0 : 0 ≤ i) (h1 : i < n) :
    ∃ ad Ab cb, A = some ad ∧ w1.cell? (ad.add (i.toNat * 7)) = some (.bool (rd_T66 xs i).send) ∧
      w1.cell? ⟨(ad.add (i.toNat * 7)).block, (ad.add (i.toNat * 7)).off + 1, none⟩ = some (.int .i64 (rd_T66 xs i).op) ∧
      w1.cell? ⟨(ad.add (i.toNat * 7)).block, (ad.add (i.toNat * 7)).off + 2, none⟩ = some (.int .i64 (rd_T66 xs i).to_) ∧
      w1.cell? ⟨(ad.add (i.toNat * 7)).block, (ad.add (i.toNat * 7)).off + 3, none⟩ = some (.int .i64 (rd_T66 xs i).i) ∧
      w1.cell? ⟨(ad.add (i.toNat * 7)).block, (ad.add (i.toNat * 7)).off + 4, none⟩ = some (.int .i64 (rd_T66 xs i).s) ∧
      w1.cell? ⟨(ad.add (i.toNat * 7)).block, (ad.add (i.toNat * 7)).off + 5, none⟩ = some (.int .u8 (rd_T66 xs i).y) ∧
      w1.cell? ⟨(ad.add (i.toNat * 7)).block, (ad.add (i.toNat * 7)).off + 6, none⟩ = some (.slice Ab (rd_T66 xs i).b.length cb) ∧ (rd_T66 xs i).b.length ≤ cb ∧ (Kd.int .u8).C w Ab (rd_T66 xs i).b.length (rd_T66 xs i).b := by
  obtain ⟨ad, c, e, _, hK, hc0⟩ := Kd.C_get h z66 i h0 h1
  have hc : ∀ j u, c[j]? = some u → w.cell? (ad.add (i.toNat * 7 + j)) = some u := hc0
  obtain ⟨Ab, cb, hcs, l, g⟩ := k66_open hK
  have hd : ∀ j u, c[j]? = some u → w1.cell? (ad.add (i.toNat * 7 + j)) = some u := fun j u hj => (Below.cell hb (cell_lt (hc j u hj))).trans (hc j u hj)
  subst hcs
  refine ⟨ad, Ab, cb, e, hd 0 _ rfl, ?_, ?_, ?_, ?_, ?_, ?_, l, g⟩
  · rw [← add_field _ _ 1 (by omega)]; exact hd 1 _ rfl
  · rw [← add_field _ _ 2 (by omega)]; exact hd 2 _ rfl
  · rw [← add_field _ _ 3 (by omega)]; exact hd 3 _ rfl
  · rw [← add_field _ _ 4 (by omega)]; exact hd 4 _ rfl
  · rw [← add_field _ _ 5 (by omega)]; exact hd 5 _ rfl
  · rw [← add_field _ _ 6 (by omega)]; exact hd 6 _ rfl
/-- What the law keeps of an end: the texts of what waits. -/
def Tx (W : World) (B : Nat) (v : Value) (ps : Ps) : Prop := Kd.R Kd.string 9 W B (fun _ => True) v (ps.map fun p => strOfNums p.2)
theorem Tx.fr {W W1 : World} {B : Nat} {v : Value} {ps : Ps} (h : Tx W B v ps) (hf : Fr6 W W1) : Tx W1 B v ps :=
  Kd.R_mono (Kd.R_move (Kd.R_bound h) (fun k hk => by
    obtain ⟨_, _, _, q, hq, cells, hc⟩ := hk
    have : q = 9 := by simpa [Kd.string, Kd.scalar] using hq
    subst this
    exact hf k cells 9 hc (by decide) (by decide) (by decide))) (fun _ _ => trivial)
theorem Tx.slice {W : World} {B : Nat} {v : Value} {ps : Ps} (h : Tx W B v ps) : ∃ A c, v = .slice A ps.length c := by
  obtain ⟨A, c, e, _, _⟩ := Kd.R_reads h
  rw [List.length_map] at e
  exact ⟨A, c, e⟩
theorem Tx.get {W : World} {B n c i : Nat} {A : Option Addr} {ps : Ps} {p : Value × List Int} (h : Tx W B (.slice A n c) ps) (hp : ps[i]? = some p) : ∃ b, A = some ⟨b, 0, none⟩ ∧ W.cell? (⟨b, i, none⟩ : Addr) = some (.string (strOfNums p.2)) := by
  have hn := (Kd.R_reads' h).1
  rw [List.length_map] at hn
  have hi := (List.getElem?_eq_some_iff.1 hp).1
  obtain ⟨ad, hA⟩ : ∃ ad, A = some ad := by
    obtain ⟨_, _, hC⟩ := Kd.R_reads' h
    obtain ⟨ad, e, _⟩ := hC.2.2 (by rw [List.length_map]; omega)
    exact ⟨ad, e⟩
  subst hA
  obtain ⟨b, rfl⟩ := Kd.R_head h
  obtain ⟨cs, hcl, hM, hcc, _⟩ := Kd.R_elem h ByteArray.empty (i : Int) (by omega) (by omega)
  have hx : cs = [.string (strOfNums p.2)] := by
    rw [List.getD_eq_getElem?_getD, Int.toNat_natCast, List.getElem?_map, hp] at hM
    exact hM
  subst hx
  have := hcc 0 _ rfl
  rw [show Kd.string.sz = 1 from rfl, Nat.mul_one, Nat.add_zero, Int.toNat_natCast] at this
  exact ⟨b, rfl, this⟩

/-- The law's own reckoning: its row of texts of either end (block gw), its counts (block gc). -/
structure La (W : World) (g gw gc : Nat) (qs rs : Ps) (c d : Int) (v0 v1 : Value) : Prop where
  hw : W.heap[gw]? = some (.cells #[v0, v1] 63 (0, 0))
  hc : W.heap[gc]? = some (.cells #[.int .i64 c, .int .i64 d] 64 (0, 0))
  t0 : Tx W g v0 qs
  t1 : Tx W g v1 rs
theorem La.fr {W W1 : World} {g gw gc : Nat} {qs rs : Ps} {c d : Int} {v0 v1 : Value} (h : La W g gw gc qs rs c d v0 v1) (hf : Fr6 W W1) : La W1 g gw gc qs rs c d v0 v1 :=
  ⟨(hf gw _ _ h.hw (by decide) (by decide) (by decide)).trans h.hw, (hf gc _ _ h.hc (by decide) (by decide) (by decide)).trans h.hc, h.t0.fr hf, h.t1.fr hf⟩
theorem La.below {W W1 : World} {g gw gc : Nat} {qs rs : Ps} {c d : Int} {v0 v1 : Value} (h : La W g gw gc qs rs c d v0 v1) (hb : Below W.heap.size W W1) : La W1 g gw gc qs rs c d v0 v1 := h.fr (Fr5.below hb).six
theorem Tx.same {W : World} {B : Nat} {v : Value} {ps qs : Ps} (h : Tx W B v ps) (e : ps.map (fun p : Value × List Int => p.2) = qs.map (fun p : Value × List Int => p.2)) : Tx W B v qs := by
  have e2 : (ps.map fun p : Value × List Int => strOfNums p.2) = qs.map fun p : Value × List Int => strOfNums p.2 := by
    have := congrArg (List.map strOfNums) e
    rw [List.map_map, List.map_map] at this
    exact this
  unfold Tx at h ⊢
  rw [← e2]
  exact h
theorem Tx.set {W : World} {B b t j : Nat} {v u : Value} {ps : Ps} {cs : Array Value} (h : Tx W B v ps) (hb : W.heap[b]? = some (.cells cs t (0, 0))) (ht : 9 ≠ t) : Tx (W.setCell ⟨b, j, none⟩ u) B v ps :=
  Kd.R_set h hb (by
    intro q hq
    have h_ : q = 9 := by simpa [Kd.string, Kd.scalar] using hq
    rw [h_]
    exact ht) j u
theorem At.set {W : World} {B g b t j : Nat} {ps0 ps1 : Ps} {c0 c1 : Int} {cs : Array Value} {u : Value} (h : At W B g ps0 ps1 c0 c1) (hb : W.heap[b]? = some (.cells cs t (0, 0))) (h5 : 5 ≠ t) (h24 : 24 ≠ t) (h107 : 107 ≠ t) : At (W.setCell ⟨b, j, none⟩ u) B g ps0 ps1 c0 c1 := by
  obtain ⟨hB, v0, v1, h1, h2, h3, h4, h5', h6⟩ := h
  have e24 : ∀ q, q ∈ 24 :: (Kd.raw 1).E → q ≠ t := by
    intro q hq
    have h_ : q = 24 := by simpa [Kd.raw] using hq
    rw [h_]
    exact h24
  have e5 : ∀ q, q ∈ 5 :: (Kd.int .u8).E → q ≠ t := by
    intro q hq
    have h_ : q = 5 := by simpa [Kd.int, Kd.scalar] using hq
    rw [h_]
    exact h5
  exact ⟨hB, v0, v1, (Below.heap_setCell W ⟨b, j, none⟩ u g (fun he => cells_ne h1 hb h107 he)).trans h1, Kd.R_set h2 hb e24 j u, Kd.R_set h3 hb e24 j u, h4, fun p hp => Kd.R_set (h5' p hp) hb e5 j u, h6⟩
theorem Fr5.refl (w : World) : Fr5 w w := fun _ _ _ _ _ _ => rfl
/-- Bytes, not too many. -/
def Sm (x : List Int) : Prop := x.length ≤ 200 ∧ ∀ b ∈ x, 0 ≤ b ∧ b < 256
/-- What holds at the head of a round: the net, and the law's own reckoning of it. -/
structure Iv (w W : World) (g gw gc : Nat) (qs rs : Ps) (c d : Int) (v0 v1 : Value) : Prop where
  at_ : At W g g qs rs c d
  bel : Below w.heap.size w W
  la : La W g gw gc qs rs c d v0 v1
  n0 : qs.length ≤ 64
  n1 : rs.length ≤ 64
  s0 : ∀ p ∈ qs, Sm p.2
  s1 : ∀ p ∈ rs, Sm p.2
  hg : w.heap.size ≤ g
  hgw : w.heap.size ≤ gw
theorem Iv.below {w W W1 : World} {g gw gc : Nat} {qs rs : Ps} {c d : Int} {v0 v1 : Value} (h : Iv w W g gw gc qs rs c d v0 v1) (hb : Below W.heap.size W W1) : Iv w W1 g gw gc qs rs c d v0 v1 :=
  ⟨h.at_.below hb, h.bel.trans (hb.mono h.bel.size), h.la.below hb, h.n0, h.n1, h.s0, h.s1, h.hg, h.hgw⟩
section
variable {op : Oper} {ops : Array Oper} {a : Act} {Q : Exit → Act → World → Prop} {Kc : Act → World → Prop}
theorem info9_ : (Try.prog.info? 9).map (fun i => (i.zero, i.size, i.bytes)) = some (some (.string ByteArray.empty), 1, 16) := by kernel_rfl
/-- A row of texts, put behind a new one. -/
theorem catS {wd W : World} (hw : Region.wanted op (yielded ops a.tmps) = true) (s x : Operand) (ho : op.op = .call { callee := .builtin .append, args := #[s, x], argTypes := #[62, 62] })
    {v : Value} {A : Option Addr} {m c : Nat} {ys xs : List ByteArray} (hs : a.eval s = v) (hx : a.eval x = .slice A m c)
    (HO : Kd.R Kd.string 9 W wd.heap.size (fun _ => True) v ys) (HC : Kd.C Kd.string W A m xs) (hb : Below wd.heap.size wd W) (hl : ys.length + m ≤ 1000)
    (h : ∀ v1 w1, Kd.R Kd.string 9 w1 wd.heap.size (fun _ => True) v1 (ys ++ xs) → Below wd.heap.size wd w1 → W.grownBy w1 v.ownBlock → Kc (a.put op.dst v1) w1) :
    if Region.wanted op (yielded ops a.tmps) = true then Oper.wp Try.prog op a W Kc Q else Kc (a.put op.dst undef) W := by
  refine Kd.R_append_rows_step (Rr := Kd.string.K W) Kd.string (w0 := wd) wd.heap.size hw s x 62 9 (.string ByteArray.empty) 16 ho Try.underlying62 info9_ rfl (by decide) (by omega) v ys xs A m c (fun _ => True) (fun _ => False) hs hx HO HC (fun y cs hy => hy) (fun _ hk => hk.elim) (fun _ _ => trivial) hb hb.size (by omega) ?_
  intro v1 w1 h1 hb1 hg _
  exact h v1 w1 h1 hb1 hg
theorem catW {rest : List Oper} {wd W : World} (hgd : op.guard = none) (s x : Operand) (ho : op.op = .call { callee := .builtin .append, args := #[s, x], argTypes := #[62, 62] })
    {v : Value} {A : Option Addr} {m c : Nat} {ys xs : List ByteArray} (hs : a.eval s = v) (hx : a.eval x = .slice A m c)
    (HO : Kd.R Kd.string 9 W wd.heap.size (fun _ => True) v ys) (HC : Kd.C Kd.string W A m xs) (hb : Below wd.heap.size wd W) (hl : ys.length + m ≤ 1000)
    (h : ∀ v1 w1, Kd.R Kd.string 9 w1 wd.heap.size (fun _ => True) v1 (ys ++ xs) → Below wd.heap.size wd w1 → W.grownBy w1 v.ownBlock → wpList Try.prog ops Q rest (a.put op.dst v1) w1) :
    wpList Try.prog ops Q (op :: rest) a W := by
  refine Kd.R_append_rows (Rr := Kd.string.K W) Kd.string (w0 := wd) wd.heap.size hgd s x 62 9 (.string ByteArray.empty) 16 ho Try.underlying62 info9_ rfl (by decide) (by omega) v ys xs A m c (fun _ => True) (fun _ => False) hs hx HO HC (fun y cs hy => hy) (fun _ hk => hk.elim) (fun _ _ => trivial) hb hb.size (by omega) ?_
  intro v1 w1 h1 hb1 hg _
  exact h v1 w1 h1 hb1 hg
/-- .. one text. -/
theorem oneS {wd W : World} (hw : Region.wanted op (yielded ops a.tmps) = true) (s x : Operand) (ho : op.op = .call { callee := .builtin .append, args := #[s, x], argTypes := #[62, 62] })
    {v : Value} {y : ByteArray} {ys : List ByteArray} (hs : a.eval s = v) (hx : a.eval x = .slice (some ⟨W.heap.size, 0, none⟩) 1 1)
    (HO : Kd.R Kd.string 9 W wd.heap.size (fun _ => True) v ys) (hb : Below wd.heap.size wd W) (hl : ys.length ≤ 1000)
    (h : ∀ v1 w1, Kd.R Kd.string 9 w1 wd.heap.size (fun _ => True) v1 (ys ++ [y]) → Below wd.heap.size wd w1 → Kc (a.put op.dst v1) w1) :
    if Region.wanted op (yielded ops a.tmps) = true then Oper.wp Try.prog op a (W.alloc (.cells #[.string y] 9)) Kc Q else Kc (a.put op.dst undef) (W.alloc (.cells #[.string y] 9)) := by
  refine Kd.R_append_step Kd.string (w0 := wd) wd.heap.size hw s x 62 9 (.string ByteArray.empty) 16 ho Try.underlying62 info9_ rfl (by decide) (by omega) v ys y [.string y] (fun _ => True) (fun _ => False) hs hx rfl (fun _ hk => hk.elim) (fun _ _ => trivial) HO hb hb.size (by omega) ?_
  intro v1 w1 h1 hb1 _ _
  exact h v1 w1 h1 hb1
end
theorem newS (W : World) {B : Nat} (hB : B ≤ W.heap.size) : Kd.R Kd.string 9 (W.alloc (.cells #[] 9)) B (fun _ => True) (.slice (some ⟨W.heap.size, 0, none⟩) 0 0) [] := by
  have h2 := World.ownsRow_lit (base := B) (e := 9) (size := 1) W #[] 0 hB (by decide) (by rfl)
  exact ⟨fun _ _ => trivial, [], h2, rfl, fun j p hj => by simp at hj⟩
theorem oneB {W : World} {b : Nat} {y : ByteArray} (h : W.heap[b]? = some (.cells #[.string y] 9 (0, 0))) : Kd.C Kd.string W (some ⟨b, 0, none⟩) 1 [y] := by
  refine ⟨rfl, by decide, fun _ => ⟨_, rfl, fun j p hj => ?_⟩⟩
  have hj0 : j = 0 := by
    have := (List.getElem?_eq_some_iff.1 hj).1
    simpa using this
  subst hj0
  obtain rfl : y = p := by simpa using hj
  refine ⟨[.string y], rfl, rfl, fun q u hq => ?_⟩
  have hq0 : q = 0 := by
    have := (List.getElem?_eq_some_iff.1 hq).1
    simpa using this
  subst hq0
  have hu : Value.string y = u := by simpa using hq
  subst hu
  exact blk_cell h 0
theorem La.put0 {W : World} {g gw gc : Nat} {qs rs qs' : Ps} {c d : Int} {v0 v1 v' : Value} (h : La W g gw gc qs rs c d v0 v1) (ht : Tx W g v' qs') : La (W.setCell ⟨gw, 0, none⟩ v') g gw gc qs' rs c d v' v1 :=
  ⟨blk_put h.hw 0 v' rfl, (Below.heap_setCell W ⟨gw, 0, none⟩ v' gc (fun he => cells_ne h.hc h.hw (by decide) he)).trans h.hc, ht.set h.hw (by decide), h.t1.set h.hw (by decide)⟩
theorem La.put1 {W : World} {g gw gc : Nat} {qs rs rs' : Ps} {c d : Int} {v0 v1 v' : Value} (h : La W g gw gc qs rs c d v0 v1) (ht : Tx W g v' rs') : La (W.setCell ⟨gw, 1, none⟩ v') g gw gc qs rs' c d v0 v' :=
  ⟨blk_put h.hw 1 v' rfl, (Below.heap_setCell W ⟨gw, 1, none⟩ v' gc (fun he => cells_ne h.hc h.hw (by decide) he)).trans h.hc, h.t0.set h.hw (by decide), ht.set h.hw (by decide)⟩
theorem La.cnt0 {W : World} {g gw gc : Nat} {qs rs : Ps} {c d : Int} {v0 v1 : Value} (h : La W g gw gc qs rs c d v0 v1) (c' : Int) : La (W.setCell ⟨gc, 0, none⟩ (.int .i64 c')) g gw gc qs rs c' d v0 v1 :=
  ⟨(Below.heap_setCell W ⟨gc, 0, none⟩ (.int .i64 c') gw (fun he => cells_ne h.hw h.hc (by decide) he)).trans h.hw, blk_put h.hc 0 (.int .i64 c') rfl, h.t0.set h.hc (by decide), h.t1.set h.hc (by decide)⟩
theorem La.cnt1 {W : World} {g gw gc : Nat} {qs rs : Ps} {c d : Int} {v0 v1 : Value} (h : La W g gw gc qs rs c d v0 v1) (d' : Int) : La (W.setCell ⟨gc, 1, none⟩ (.int .i64 d')) g gw gc qs rs c d' v0 v1 :=
  ⟨(Below.heap_setCell W ⟨gc, 1, none⟩ (.int .i64 d') gw (fun he => cells_ne h.hw h.hc (by decide) he)).trans h.hw, blk_put h.hc 1 (.int .i64 d') rfl, h.t0.set h.hc (by decide), h.t1.set h.hc (by decide)⟩
theorem La.gwg {W : World} {B g g' gw gc : Nat} {qs rs ps0 ps1 : Ps} {c d c0 c1 : Int} {v0 v1 : Value} (h : La W g' gw gc qs rs c d v0 v1) (hA : At W B g ps0 ps1 c0 c1) : g ≠ gw ∧ g ≠ gc := by
  obtain ⟨_, _, _, hb, _⟩ := hA
  exact ⟨cells_ne hb h.hw (by decide), cells_ne hb h.hc (by decide)⟩
theorem bytesOf_str {x : List Int} (h : ∀ b ∈ x, 0 ≤ b ∧ b < 256) : bytesOf (strOfNums x) = x := by
  unfold bytesOf
  rw [strOfNums_data, List.map_map]
  refine (List.map_congr_left (fun b hb => ?_)).trans (List.map_id x)
  have := h b hb
  simp only [Function.comp, id]
  rw [UInt8.toNat_ofNat']
  omega
/-- Bytes made of a text: what is read there. -/
theorem made_cell {W : World} {x : List Int} (h : ∀ b ∈ x, 0 ≤ b ∧ b < 256) (j : Nat) (hj : j < x.length) : (Lib.bytesWorld W 5 (strOfNums x)).cell? ⟨W.heap.size, j, none⟩ = some (.int .u8 (x.getD j 0)) := by
  have hs : (strOfNums x).size = x.length := strOfNums_size x
  rw [Lib.bytesWorld_cell _ _ _ _ (by omega)]
  have e := congrArg (fun l : List Int => l.getD j 0) (bytesOf_str h)
  simp only [bytesOf] at e
  have hj' : j < (strOfNums x).data.toList.length := by rw [data_length]; omega
  rw [List.getD_eq_getElem?_getD, List.getElem?_map, List.getElem?_eq_getElem hj', Option.map_some, Option.getD_some] at e
  rw [List.getD_eq_getElem?_getD, List.getElem?_eq_getElem hj', Option.getD_some, e]
theorem Tx.moved {W W1 : World} {B : Nat} {v : Value} {ps : Ps} (h : Tx W B v ps) (hm : ∀ k, k < W.heap.size → (∃ cs, W.heap[k]? = some (.cells cs 9 (0, 0))) → W1.heap[k]? = W.heap[k]?) : Tx W1 B v ps :=
  Kd.R_mono (Kd.R_move (Kd.R_bound h) (fun k hk => by
    obtain ⟨_, _, hlt, q, hq, cells, hc⟩ := hk
    have : q = 9 := by simpa [Kd.string, Kd.scalar] using hq
    subst this
    exact hm k hlt ⟨cells, hc⟩)) (fun _ _ => trivial)
theorem C_cells {W : World} {b : Nat} {x : List Int} (hl : x.length ≤ 200) (h : ∀ j, j < x.length → W.cell? ⟨b, j, none⟩ = some (.int .u8 (x.getD j 0))) : (Kd.int .u8).C W (some ⟨b, 0, none⟩) x.length x := by
  refine Kd.C_of_reads (d := (0 : Int)) (h1 := fun _ => rfl) ⟨rfl, by omega, fun _ => ⟨_, rfl, fun j hj => ?_⟩⟩
  rw [add_plain]
  exact h j hj
theorem via {w2 w3 : World} {n : Nat} (hq : w2.drewN n = w3) {P : World → Prop} (h : ∀ m, P (w2.drewN m)) : P w3 := hq ▸ h n
theorem frz {W : World} {g t : Nat} {cs : Array Value} (hb : W.heap[g]? = some (.cells cs t (0, 0))) (j : Nat) : W.frozen? ⟨g, j, none⟩ = false := by simp [World.frozen?, hb]
end Go.Proofs.Ytlaojndlelcdaaa.Nets
