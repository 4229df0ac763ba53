/- Two links and what lies between them: what is heard is what was said, in order, each once; LinkOrder, walked: true of every list of picks. -/
import Derived.Test.YtlaojndlelcdaaaLinkC
import Derived.Deep.CutBlock
namespace Go.Proofs.Ytlaojndlelcdaaa.Links
set_option linter.unusedSimpArgs false
set_option linter.unusedVariables false
open Go.RowKit Go.Proofs.Ytlaojndlelcdaaa.P Go.Proofs.Ytlaojndlelcdaaa.Pure Go.Proofs.YtlaojndlelcdaaaW.PrintWords Go.Proofs.YtlaojndlelcdaaaW.PrintLast Go.Proofs.YtlaojndlelcdaaaW.PrintMore

/-- What is said as the n-th, n from nought. -/
def bodyN (n : Int) : List Int := [n % 256, n / 256 % 256]
def FN (n : Nat) : List Int := putF ⟨false, n, bodyN ((n : Int) - 1)⟩
def KN (n : Nat) : List Int := putF ⟨true, n, []⟩
theorem bodyN_bytes (n : Int) : Bytes (bodyN n) := by
  intro x hx
  simp only [bodyN, List.mem_cons, List.not_mem_nil, or_false] at hx
  rcases hx with rfl | rfl <;> exact ⟨by omega, by omega⟩
theorem FN_bytes (n : Nat) : Bytes (FN n) := putF_bytes _ (bodyN_bytes _)
theorem KN_bytes (n : Nat) : Bytes (KN n) := putF_bytes _ (by intro x hx; simp at hx)
theorem FN_get (n : Nat) (h : 1 ≤ n) (h2 : n ≤ 1000) : getF (FN n) = some ⟨false, n, bodyN ((n : Int) - 1)⟩ := by
  refine get_putF _ ?_
  simp [goodF, bodyN]
  omega
theorem KN_get (n : Nat) (h : 1 ≤ n) (h2 : n ≤ 1000) : getF (KN n) = some ⟨true, n, []⟩ := by
  refine get_putF _ ?_
  simp [goodF]
  omega
theorem up_nat (n : Nat) (h : n ≤ 1000) : up (n : Int) = ((n + 1 : Nat) : Int) := by
  unfold up
  rw [IntKind.wrap_u64]
  omega

structure Ok (i : Nat) (sa sb : L) (ot fr : List (List Int)) (said heard : Nat) : Prop where
  hs : sa.said = said
  hh : sb.heard = heard
  n1 : said ≤ i
  n2 : ot.length ≤ i
  n3 : fr.length ≤ i
  le : heard ≤ said
  ge : said ≤ heard + 1
  idle : sa.busy = false → sa.lost = false → heard = said
  wait : sa.busy = true → sa.wait = FN said ∧ 1 ≤ said
  small : sa.wait.length ≤ 131100
  ins : ∀ x ∈ ot, ∃ n : Nat, 1 ≤ n ∧ n ≤ said ∧ x = FN n
  outs : ∀ x ∈ fr, ∃ n : Nat, 1 ≤ n ∧ n ≤ heard ∧ x = KN n

theorem ok0 : Ok 0 L0 L0 [] [] 0 0 := ⟨rfl, rfl, by omega, by simp, by simp, by omega, by omega, fun _ _ => rfl, fun h => by simp [L0] at h, by simp [L0], fun _ h => by simp at h, fun _ h => by simp at h⟩
theorem Ok.more {i sa sb ot fr said heard} (h : Ok i sa sb ot fr said heard) : Ok (i + 1) sa sb ot fr said heard :=
  ⟨h.hs, h.hh, by have := h.n1; omega, by have := h.n2; omega, by have := h.n3; omega, h.le, h.ge, h.idle, h.wait, h.small, h.ins, h.outs⟩
theorem Ok.say {i sa sb ot fr said heard} (h : Ok i sa sb ot fr said heard) (hi : i ≤ 200) :
    ∃ sa' r e, sayL sa (bodyN said) = (sa', r, e) ∧ (e = 0 ∧ Ok (i + 1) sa' sb (ot ++ [r]) fr (said + 1) heard ∨ e ≠ 0 ∧ Ok (i + 1) sa' sb ot fr said heard) := by
  have n1 := h.n1
  unfold sayL
  by_cases h1 : sa.lost = true
  · rw [if_pos h1]
    exact ⟨_, _, _, rfl, .inr ⟨by decide, h.more⟩⟩
  · rw [if_neg h1, if_neg (by simp [bodyN])]
    by_cases h2 : sa.busy = true
    · rw [if_pos h2]
      exact ⟨_, _, _, rfl, .inr ⟨by decide, h.more⟩⟩
    · rw [if_neg h2, h.hs, up_nat said (by omega)]
      have hq := h.idle (by simpa using h2) (by simpa using h1)
      have hF : putF ⟨false, ((said + 1 : Nat) : Int), bodyN (said : Int)⟩ = FN (said + 1) := by
        unfold FN
        rw [show ((said + 1 : Nat) : Int) - 1 = (said : Int) by omega]
      rw [hF]
      refine ⟨_, _, _, rfl, .inl ⟨rfl, rfl, h.hh, by omega, by simp; exact h.n2, by have := h.n3; omega, by omega, by omega, fun hx => by simp at hx, fun _ => ⟨rfl, by omega⟩, putF_len _, fun x hx => ?_, h.outs⟩⟩
      rcases List.mem_append.1 hx with hx | hx
      · obtain ⟨n, a, b, c⟩ := h.ins x hx
        exact ⟨n, a, by omega, c⟩
      · exact ⟨said + 1, by omega, by omega, List.mem_singleton.1 hx⟩
theorem Ok.tick {i sa sb ot fr said heard} (h : Ok i sa sb ot fr said heard) :
    ∃ sa' r e, tickL sa = (sa', r, e) ∧ (e = 0 ∧ Ok (i + 1) sa' sb (ot ++ [r]) fr said heard ∨ e ≠ 0 ∧ Ok (i + 1) sa' sb ot fr said heard) := by
  have n1 := h.n1
  have n2 := h.n2
  have n3 := h.n3
  unfold tickL
  by_cases h1 : sa.busy = false
  · rw [if_pos h1]
    exact ⟨_, _, _, rfl, .inr ⟨by decide, h.more⟩⟩
  · rw [if_neg h1]
    have h1' : sa.busy = true := by simpa using h1
    by_cases h2 : sa.tries ≥ 12
    · rw [if_pos h2]
      exact ⟨_, _, _, rfl, .inr ⟨by decide, h.hs, h.hh, by omega, by omega, by omega, h.le, h.ge, fun _ hx => by simp at hx, fun hx => by simp at hx, h.small, h.ins, h.outs⟩⟩
    · rw [if_neg h2]
      refine ⟨_, _, _, rfl, .inl ⟨rfl, h.hs, h.hh, by omega, by simp; omega, by omega, h.le, h.ge, fun hx => absurd hx (by simp [h1']), fun _ => h.wait h1', h.small, fun x hx => ?_, h.outs⟩⟩
      rcases List.mem_append.1 hx with hx | hx
      · exact h.ins x hx
      · exact ⟨said, (h.wait h1').2, Nat.le_refl _, by rw [List.mem_singleton.1 hx, (h.wait h1').1]⟩
theorem Ok.dup {i sa sb ot fr said heard} (h : Ok i sa sb ot fr said heard) (k : Nat) (hk : k < ot.length) : Ok (i + 1) sa sb (ot ++ [ot.getD k []]) fr said heard := by
  have n2 := h.n2
  refine ⟨h.hs, h.hh, by have := h.n1; omega, by simp; omega, by have := h.n3; omega, h.le, h.ge, h.idle, h.wait, h.small, fun x hx => ?_, h.outs⟩
  rcases List.mem_append.1 hx with hx | hx
  · exact h.ins x hx
  · refine h.ins x ?_
    rw [List.mem_singleton.1 hx, List.getD_eq_getElem?_getD, List.getElem?_eq_getElem hk]
    exact List.getElem_mem hk
theorem Ok.dupR {i sa sb ot fr said heard} (h : Ok i sa sb ot fr said heard) (k : Nat) (hk : k < fr.length) : Ok (i + 1) sa sb ot (fr ++ [fr.getD k []]) said heard := by
  have n2 := h.n3
  refine ⟨h.hs, h.hh, by have := h.n1; omega, by have := h.n2; omega, by simp; omega, h.le, h.ge, h.idle, h.wait, h.small, h.ins, fun x hx => ?_⟩
  rcases List.mem_append.1 hx with hx | hx
  · exact h.outs x hx
  · refine h.outs x ?_
    rw [List.mem_singleton.1 hx, List.getD_eq_getElem?_getD, List.getElem?_eq_getElem hk]
    exact List.getElem_mem hk
theorem mem_cut {x : List Int} {ot : List (List Int)} {k : Nat} (h : x ∈ ot.take k ++ ot.drop (k + 1)) : x ∈ ot := by
  rcases List.mem_append.1 h with h | h
  · exact List.mem_of_mem_take h
  · exact List.mem_of_mem_drop h
theorem Ok.cut {i sa sb ot fr said heard} (h : Ok i sa sb ot fr said heard) (k : Nat) : Ok i sa sb (ot.take k ++ ot.drop (k + 1)) fr said heard :=
  ⟨h.hs, h.hh, h.n1, by have := h.n2; simp; omega, h.n3, h.le, h.ge, h.idle, h.wait, h.small, fun x hx => h.ins x (mem_cut hx), h.outs⟩
theorem Ok.cutR {i sa sb ot fr said heard} (h : Ok i sa sb ot fr said heard) (k : Nat) : Ok i sa sb ot (fr.take k ++ fr.drop (k + 1)) said heard :=
  ⟨h.hs, h.hh, h.n1, h.n2, by have := h.n3; simp; omega, h.le, h.ge, h.idle, h.wait, h.small, h.ins, fun x hx => h.outs x (mem_cut hx)⟩
theorem Ok.addR {i sa sb ot fr said heard} (h : Ok i sa sb ot fr said heard) (hl : fr.length < i) {x : List Int} (hx : ∃ n : Nat, 1 ≤ n ∧ n ≤ heard ∧ x = KN n) : Ok i sa sb ot (fr ++ [x]) said heard :=
  ⟨h.hs, h.hh, h.n1, h.n2, by simp; omega, h.le, h.ge, h.idle, h.wait, h.small, h.ins, fun y hy => by
    rcases List.mem_append.1 hy with hy | hy
    · exact h.outs y hy
    · rw [List.mem_singleton.1 hy]; exact hx⟩
/-- b hears what went to it. -/
theorem Ok.hear {i sa sb ot fr said heard} (h : Ok i sa sb ot fr said heard) (hi : i ≤ 200) {n : Nat} (h1 : 1 ≤ n) (h2 : n ≤ said) :
    ∃ sb' p b q, hearL sb (FN n) = (sb', p, b, q) ∧ ((b = true ∧ p = bodyN heard ∧ Ok (i + 1) sa sb' ot fr said (heard + 1) ∧ Ok (i + 1) sa sb' ot (fr ++ [q]) said (heard + 1)) ∨
      (b = false ∧ Ok (i + 1) sa sb' ot fr said heard ∧ (q.length = 0 ∨ Ok (i + 1) sa sb' ot (fr ++ [q]) said heard))) := by
  have n1 := h.n1
  have n3 := h.n3
  have n4 := h.le
  have n5 := h.ge
  unfold hearL
  rw [FN_get n h1 (by omega)]
  dsimp only
  rw [if_neg (by simp), h.hh, up_nat heard (by omega)]
  by_cases c1 : ((heard + 1 : Nat) : Int) < (n : Int)
  · rw [if_pos c1]
    exact ⟨_, _, _, _, rfl, .inr ⟨rfl, h.more, .inl rfl⟩⟩
  · rw [if_neg c1]
    by_cases c2 : (n : Int) = ((heard + 1 : Nat) : Int)
    · rw [if_pos c2]
      have hn : n = heard + 1 := by omega
      subst hn
      have hk : Ok (i + 1) sa ⟨sb.said, ((heard + 1 : Nat) : Int), sb.wait, sb.busy, sb.tries, sb.lost⟩ ot fr said (heard + 1) :=
        ⟨h.hs, rfl, by omega, by have := h.n2; omega, by omega, h2, by omega, fun a b => by have := h.idle a b; omega, h.wait, h.small, h.ins, fun x hx => by
          obtain ⟨m, a, b, c⟩ := h.outs x hx
          exact ⟨m, a, by omega, c⟩⟩
      refine ⟨_, _, _, _, rfl, .inl ⟨rfl, ?_, hk, hk.addR (by omega) ⟨heard + 1, by omega, Nat.le_refl _, rfl⟩⟩⟩
      rw [show ((heard + 1 : Nat) : Int) - 1 = (heard : Int) by omega]
    · rw [if_neg c2]
      exact ⟨_, _, _, _, rfl, .inr ⟨rfl, h.more, .inr (h.more.addR (by omega) ⟨n, h1, by omega, rfl⟩)⟩⟩
/-- a hears what went to it. -/
theorem Ok.hearR {i sa sb ot fr said heard} (h : Ok i sa sb ot fr said heard) (hi : i ≤ 200) {n : Nat} (h1 : 1 ≤ n) (h2 : n ≤ heard) :
    ∃ sa' p b q, hearL sa (KN n) = (sa', p, b, q) ∧ Ok (i + 1) sa' sb ot fr said heard := by
  have n1 := h.n1
  have n4 := h.le
  unfold hearL
  rw [KN_get n h1 (by omega)]
  dsimp only
  rw [if_pos rfl]
  split
  · rename_i c
    obtain ⟨c1, c2⟩ := c
    rw [h.hs] at c2
    exact ⟨_, _, _, _, rfl, h.hs, h.hh, by omega, by have := h.n2; omega, by have := h.n3; omega, h.le, h.ge, fun _ _ => by omega, fun hx => by simp at hx, h.small, h.ins, h.outs⟩
  · exact ⟨_, _, _, _, rfl, h.more⟩

structure Hold (p : Prop) : Prop where
  out : p
theorem hold {p : Prop} (h : Hold p) : p := h.out
structure S88 where
  f0 : Int
  f1 : Int
def z88 : S88 := ⟨(0 : Int), (0 : Int)⟩
def k88 : Kd S88 := Kd.iso (Kd.pair (Kd.int .i64) (Kd.int .i64)) (fun x : S88 => (x.f0, x.f1))
theorem k88_open {w : World} {x : S88} {cs : List Value} (h : k88.K w x cs) : cs = [.int .i64 x.f0, .int .i64 x.f1] := by
  obtain ⟨_, _, rfl, rfl, rfl⟩ := h
  rfl
def rd_T88 (xs : List S88) (i : Int) : S88 := xs.getD i.toNat z88
theorem cell_lt2 {w : World} {a : Addr} {v : Value} (h : w.cell? a = some v) : a.block < w.heap.size := by
  rcases Nat.lt_or_ge a.block w.heap.size with h1 | h1
  · exact h1
  · have : w.heap[a.block]? = none := by simp [h1]
    simp [World.cell?, this] at h
theorem at_T88 {w w1 : World} {A : Option Addr} {n : Nat} {xs : List S88} (h : Kd.C k88 w A n xs) (hb : Below w.heap.size w w1) (i : Int) (h0 : 0 ≤ i) (h1 : i < n) : ∃ ad, A = some ad ∧ w1.cell? (ad.add (i.toNat * 2)) = some (.int .i64 (rd_T88 xs i).f0) ∧ w1.cell? ⟨(ad.add (i.toNat * 2)).block, (ad.add (i.toNat * 2)).off + 1, none⟩ = some (.int .i64 (rd_T88 xs i).f1) := by
  obtain ⟨ad, c, e, _, hK, hc0⟩ := Kd.C_get h z88 i h0 h1
  have hc : ∀ j u, c[j]? = some u → w.cell? (ad.add (i.toNat * 2 + j)) = some u := hc0
  rw [k88_open hK] at hc
  have hd : ∀ j u, ([.int .i64 (xs.getD i.toNat z88).f0, .int .i64 (xs.getD i.toNat z88).f1] : List Value)[j]? = some u → w1.cell? (ad.add (i.toNat * 2 + j)) = some u := fun j u hj => (Below.cell hb (cell_lt2 (hc j u hj))).trans (hc j u hj)
  exact ⟨ad, e, hd 0 _ rfl, by rw [← add_field _ _ 1 (by omega)]; exact hd 1 _ rfl⟩

/-- A row of byte strings that is the call's own; its elements lie in none of the two links, nor in the other row's block. -/
def Rz (W : World) (B ga gb : Nat) (o v : Value) (xs : List (List Int)) : Prop :=
  Kd.N (Kd.slice 5 (Kd.int .u8)) 24 W B (fun k => (k ≠ ga ∧ k ≠ gb) ∧ some k ≠ o.ownBlock) v xs
theorem Rz.nil (W : World) (B ga gb : Nat) (o : Value) : Rz W B ga gb o (.slice none 0 0) [] := Kd.N_nil _ _ _ _ _
theorem Rz.below {W W1 : World} {B ga gb : Nat} {o v : Value} {xs : List (List Int)} (h : Rz W B ga gb o v xs) (hb : Below W.heap.size W W1) : Rz W1 B ga gb o v xs := Kd.N_below h hb
theorem Rz.near {W W1 : World} {B ga gb : Nat} {o v : Value} {xs : List (List Int)} (h : Rz W B ga gb o v xs) (hb : Near W W1 ga) : Rz W1 B ga gb o v xs := Kd.N_keep h hb.1 (fun _ hk => hk.1.1)
theorem Rz.near' {W W1 : World} {B ga gb : Nat} {o v : Value} {xs : List (List Int)} (h : Rz W B ga gb o v xs) (hb : Near W W1 gb) : Rz W1 B ga gb o v xs := Kd.N_keep h hb.1 (fun _ hk => hk.1.2)
theorem Rz.slice {W : World} {B ga gb : Nat} {o v : Value} {xs : List (List Int)} (h : Rz W B ga gb o v xs) : ∃ A c, v = .slice A xs.length c := Kd.N_slice h
theorem grown_At {W W1 : World} {B g : Nat} {ok : Nat → Prop} {v : Value} {xs : List (List Int)} {s : L} (hA : At W g s) (h : Kd.N (Kd.slice 5 (Kd.int .u8)) 24 W B ok v xs) (hg : W.grownBy W1 v.ownBlock) : At W1 g s := by
  obtain ⟨u, base, hb, hR⟩ := hA
  have hne : some g ≠ v.ownBlock := Kd.N_ne h hb (by decide)
  refine ⟨u, base, (hg.block g (blk_lt hb) hne).trans hb, Kd.R_mono (Kd.R_step (Kd.R_bound hR) (fun k hk _ => hg.block k hk.2.2.1 (fun he => ?_))) (fun _ _ => trivial)⟩
  obtain ⟨cells, hc⟩ := Kd.N_typed h k he.symm
  obtain ⟨q, hq, cells', hc'⟩ := hk.2.2.2
  rw [hc] at hc'
  have hq5 : q = 5 := by simpa [Kd.int, Kd.scalar] using hq
  have h24 : (24 : Nat) = q := by injection hc' with hc'; injection hc'
  omega
/-- x's bytes, read, and what they lie in. -/
theorem Rz.get {W : World} {B ga gb : Nat} {o : Value} {xs : List (List Int)} {A : Option Addr} {n c : Nat} (h : Rz W B ga gb o (.slice A n c) xs) (i : Int) (h0 : 0 ≤ i) (h1 : i < xs.length) :
    ∃ g A1 c1, A = some ⟨g, 0, none⟩ ∧ W.cell? (⟨g, i.toNat, none⟩ : Addr) = some (.slice A1 (xs.getD i.toNat []).length c1) ∧ (xs.getD i.toNat []).length ≤ c1 ∧ Kd.F (Kd.int .u8) W (fun k => ((k ≠ ga ∧ k ≠ gb) ∧ some k ≠ o.ownBlock) ∧ k ≠ g) A1 (xs.getD i.toNat []).length (xs.getD i.toNat []) := by
  obtain ⟨g, cap, hv, _⟩ := Kd.N_form h (by omega)
  injection hv with hA hn hc
  subst hA
  have hnl := (Kd.N_reads' h).1
  subst hnl
  obtain ⟨cs, hcl, hF, hcc, _⟩ := Kd.N_elem h ([] : List Int) i h0 (by omega)
  obtain ⟨A1, c1, rfl, hle, hF1⟩ := Kd.FK_slice_open hF
  have hq := hcc 0 _ rfl
  rw [show (Kd.slice 5 (Kd.int .u8)).sz = 1 from rfl, Nat.mul_one, Nat.add_zero] at hq
  exact ⟨g, A1, c1, rfl, hq, hle, hF1⟩
theorem lit2 (W : World) (a b : Int) : (Kd.int .u8).C (W.alloc (.cells #[.int .u8 a, .int .u8 b] 5)) (some ⟨W.heap.size, 0, none⟩) 2 [a, b] := C_of_block .u8 (xs := [a, b]) (blk_new W _) (by simp)
theorem fresh_F {W w2 : World} {B ga gb b c : Nat} {o v : Value} {xs ys : List (List Int)} {y : List Int} {A : Option Addr} (hR : Kd.R (Kd.int .u8) 5 w2 b (fun _ => True) (.slice A y.length c) y) (hT : Rz W B ga gb o v xs) (hO : Rz W B ga gb v o ys) (hb : W.heap.size ≤ b) (hga : ga < W.heap.size) (hgb : gb < W.heap.size) :
    ∃ okp : Nat → Prop, Kd.F (Kd.int .u8) w2 okp A y.length y ∧ ∀ k, okp k → ((k ≠ ga ∧ k ≠ gb) ∧ some k ≠ o.ownBlock) ∧ some k ≠ v.ownBlock := by
  refine ⟨_, Kd.V_F (Kd.R_V (base' := 0) (Kd.R_bound hR)), fun k hk => ?_⟩
  have h1 := hk.2.1
  refine ⟨⟨⟨by omega, by omega⟩, fun he => ?_⟩, fun he => ?_⟩
  · have := Kd.N_lt hO k he.symm
    omega
  · have := Kd.N_lt hT k he.symm
    omega
section
variable {ops : Array Oper} {rest : List Oper} {op : Oper} {a : Act} {Q : Exit → Act → World → Prop}
/-- One more. -/
theorem Rz.push {w0 W : World} {B ga gb : Nat} (hgd : op.guard = none) (s x : Operand) (ho : op.op = .call { callee := .builtin .append, args := #[s, x], argTypes := #[35, 35] })
    {o v : Value} {xs ys : List (List Int)} {y : List Int} {A : Option Addr} {c : Nat} (okp : Nat → Prop) (hs : a.eval s = v) (hx : a.eval x = .slice (some ⟨W.heap.size, 0, none⟩) 1 1)
    (HV : Rz W B ga gb o v xs) (HO : Rz W B ga gb v o ys) {sa sb : L} (hA : At W ga sa) (hB : At W gb sb) (hbw : Below B w0 W) (hyc : y.length ≤ c) (hF : Kd.F (Kd.int .u8) W okp A y.length y)
    (hok : ∀ k, okp k → ((k ≠ ga ∧ k ≠ gb) ∧ some k ≠ o.ownBlock) ∧ some k ≠ v.ownBlock) (hBW : B ≤ W.heap.size) (hl : xs.length ≤ 1000)
    (h : ∀ v1 w1, Rz w1 B ga gb o v1 (xs ++ [y]) → Rz w1 B ga gb v1 o ys → At w1 ga sa → At w1 gb sb → Below B w0 w1 → wpList Try.prog ops Q rest (a.put op.dst v1) w1) :
    wpList Try.prog ops Q (op :: rest) a (W.alloc (.cells #[.slice A y.length c] 24)) := by
  refine Kd.N_append (Kd.slice 5 (Kd.int .u8)) (w0 := w0) B hgd s x 35 24 (.slice none 0 0) 24 ho Try.underlying35 info24 rfl (by decide) (by omega) v xs y [.slice A y.length c] _ okp hs hx (Kd.FK_slice_mk hyc hF) hok (fun k hk => ⟨⟨?_, ?_⟩, ?_⟩) HV hbw hBW (by omega) ?_
  · have := At.lt hA; omega
  · have := At.lt hB; omega
  · intro he
    have := Kd.N_lt HO k he.symm
    omega
  · intro v1 w1 h1 hb hg hat
    exact h v1 w1 h1 (Kd.N_after HO hg hat) (grown_At hA HV hg) (grown_At hB HV hg) hb
variable {Kc : Act → World → Prop}
theorem newE (W : World) (B : Nat) (ok : Nat → Prop) (hB : B ≤ W.heap.size) (h : ok W.heap.size) : Kd.N (Kd.slice 5 (Kd.int .u8)) 24 (W.alloc (.cells #[] 24)) B ok (.slice (some ⟨W.heap.size, 0, none⟩) 0 0) [] := by
  refine Kd.R_N ⟨fun k hk => ?_, [], ?_, ⟨rfl, fun j p hj => by simp at hj⟩⟩
  · have : W.heap.size = k := by simpa [Value.ownBlock] using hk
    subst this
    exact h
  · have h2 := World.ownsRow_lit (base := B) (e := 24) (size := 1) W #[] 0 hB (by decide) (by rfl)
    exact h2
/-- The head of a row, put onto a new one. -/
theorem Rz.cat1 {wd : World} {B ga gb g cT k : Nat} (hw : Region.wanted op (yielded ops a.tmps) = true) (s x : Operand) (ho : op.op = .call { callee := .builtin .append, args := #[s, x], argTypes := #[35, 35] })
    {o : Value} {xs : List (List Int)} (hs : a.eval s = .slice (some ⟨wd.heap.size, 0, none⟩) 0 0) (hx : a.eval x = .slice (some ⟨g, 0, none⟩) k cT)
    (HV : Rz wd B ga gb o (.slice (some ⟨g, 0, none⟩) xs.length cT) xs) (hk : k ≤ xs.length) (hl : xs.length ≤ 1000) (hga : ga < wd.heap.size) (hgb : gb < wd.heap.size) (ho2 : ∀ j, o.ownBlock = some j → j < wd.heap.size)
    (h : ∀ v1 w1, Kd.N (Kd.slice 5 (Kd.int .u8)) 24 w1 wd.heap.size (fun k => (k ≠ ga ∧ k ≠ gb) ∧ some k ≠ o.ownBlock) v1 (xs.take k) → Below wd.heap.size wd w1 → Kc (a.put op.dst v1) w1) :
    if Region.wanted op (yielded ops a.tmps) = true then Oper.wp Try.prog op a (wd.alloc (.cells #[] 24)) Kc Q else Kc (a.put op.dst undef) (wd.alloc (.cells #[] 24)) := by
  have hf : ∀ j, wd.heap.size ≤ j → (j ≠ ga ∧ j ≠ gb) ∧ some j ≠ o.ownBlock := fun j hj => ⟨⟨by omega, by omega⟩, fun he => by have := ho2 j he.symm; omega⟩
  have hF := Kd.F_alloc (Kd.F_bound (Kd.F_take (Kd.N_F HV) hk)) (.cells #[] 24)
  rw [List.length_take, Nat.min_eq_left hk] at hF
  refine Kd.N_append_rows_step (Kd.slice 5 (Kd.int .u8)) (w0 := wd) wd.heap.size hw s x 35 24 (.slice none 0 0) 24 ho Try.underlying35 info24 rfl (by decide) (by omega) _ [] (xs.take k) _ k cT _ _ hs hx (newE wd wd.heap.size _ (Nat.le_refl _) (hf _ (Nat.le_refl _))) hF (fun j hj => ⟨hj.1, fun he => ?_⟩) (fun j hj => hf j (Nat.le_trans (by rw [World.size_alloc]; omega) hj)) (below_alloc (Below.refl _ _) _) (by rw [World.size_alloc]; omega) (by simp; omega) ?_
  · have h1 := hj.2
    have h2 : j = wd.heap.size := by simpa [Value.ownBlock] using he
    omega
  · intro v1 w1 h1 hb _ _
    exact h v1 w1 h1 hb
/-- .. and its tail behind it. -/
theorem Rz.cat2 {wd W : World} {B ga gb g cT k : Nat} (hw : Region.wanted op (yielded ops a.tmps) = true) (s x : Operand) (ho : op.op = .call { callee := .builtin .append, args := #[s, x], argTypes := #[35, 35] })
    {o v : Value} {A' : Option Addr} {m c' : Nat} {xs ys : List (List Int)} (hs : a.eval s = v) (hx : a.eval x = .slice A' m c') (hA' : A' = if cT = k + 1 then some ⟨g, 0, none⟩ else some ⟨g, k + 1, none⟩) (hm : m = xs.length - (k + 1))
    (HV : Rz wd B ga gb o (.slice (some ⟨g, 0, none⟩) xs.length cT) xs) (hk : k + 1 ≤ xs.length) (hl : xs.length ≤ 1000) (hyl : ys.length ≤ 1000) (hga : ga < wd.heap.size) (hgb : gb < wd.heap.size) (ho2 : ∀ j, o.ownBlock = some j → j < wd.heap.size)
    (HN : Kd.N (Kd.slice 5 (Kd.int .u8)) 24 W wd.heap.size (fun k => (k ≠ ga ∧ k ≠ gb) ∧ some k ≠ o.ownBlock) v ys) (hb : Below wd.heap.size wd W)
    (h : ∀ v1 w1, Kd.N (Kd.slice 5 (Kd.int .u8)) 24 w1 wd.heap.size (fun k => (k ≠ ga ∧ k ≠ gb) ∧ some k ≠ o.ownBlock) v1 (ys ++ xs.drop (k + 1)) → Below wd.heap.size wd w1 → Kc (a.put op.dst v1) w1) :
    if Region.wanted op (yielded ops a.tmps) = true then Oper.wp Try.prog op a W Kc Q else Kc (a.put op.dst undef) W := by
  have hf : ∀ j, wd.heap.size ≤ j → (j ≠ ga ∧ j ≠ gb) ∧ some j ≠ o.ownBlock := fun j hj => ⟨⟨by omega, by omega⟩, fun he => by have := ho2 j he.symm; omega⟩
  have hF := Kd.F_below (Kd.F_bound (Kd.F_cut (Kd.N_F HV) hk (Kd.N_reads' HV).2.1)) hb
  have hA2 : (if cT = k + 1 then (some ⟨g, 0, none⟩ : Option Addr) else (some ⟨g, 0, none⟩ : Option Addr).map (·.add ((k + 1) * (Kd.slice 5 (Kd.int .u8)).sz))) = A' := by
    rw [hA', show (Kd.slice 5 (Kd.int .u8)).sz = 1 from rfl, Nat.mul_one]
    split
    · rfl
    · rw [Option.map_some, Addr.add_lit, Nat.zero_add]
  rw [hA2, List.length_drop, ← hm] at hF
  refine Kd.N_append_rows_step (Kd.slice 5 (Kd.int .u8)) (w0 := wd) wd.heap.size hw s x 35 24 (.slice none 0 0) 24 ho Try.underlying35 info24 rfl (by decide) (by omega) v ys (xs.drop (k + 1)) A' m c' _ _ hs hx HN hF (fun j hj => ⟨hj.1, fun he => ?_⟩) (fun j hj => hf j (Nat.le_trans hb.size hj)) hb hb.size (by omega) ?_
  · have h1 := hj.2
    have h2 := Kd.N_base HN j he.symm
    omega
  · intro v1 w1 h1 hb _ _
    exact h v1 w1 h1 hb
end

set_option maxHeartbeats 16000000 in
set_option maxRecDepth 100000 in
theorem LinkOrder_calls (A0 : Option Addr) (c0 : Nat) (l0 : List S88) (w : World) (hC0 : Kd.C k88 w A0 l0.length l0) (_hc0 : l0.length ≤ c0) :
    Calls Try.prog 17 #[.slice A0 l0.length c0] w fun e w' => e = .returned (.bool true) ∧ Below w.heap.size w w' := by
  by_cases h1 : (200 : Int) < (l0.length : Int)
  · have h1b : decide ((200 : Int) < (l0.length : Int)) = true := decide_eq_true h1
    go_enter Try.func17, Try.ntmps17
    go_wp2_with (go_at_call 57; refine (awake_calls w).mono ?_; rintro e wa ⟨rfl, ba⟩)
    go_ret
    exact ⟨rfl, ba⟩
  have h1b : decide ((200 : Int) < (l0.length : Int)) = false := decide_eq_false h1
  have hl200 : l0.length ≤ 200 := by omega
  clear h1
  go_enter Try.func17, Try.ntmps17
  go_wp2_with (first
    | (go_at_call 57; refine (awake_calls w).mono ?_; rintro e wa ⟨rfl, ba⟩)
    | (go_at_call 58; refine (New_calls wa).mono ?_; rintro e wb ⟨rfl, hA, bb⟩)
    | (go_at_call 58; refine (New_calls wb).mono ?_; rintro e wc ⟨rfl, hB, bc⟩))
  have hlt := At.lt hA
  have hA' := At.below hA bc
  have hga := ba.size
  have hgb : w.heap.size ≤ wb.heap.size := Nat.le_trans hga bb.size
  have B1 : Below w.heap.size w wc := (ba.trans (bb.mono hga)).trans (bc.mono hgb)
  have hne : wa.heap.size ≠ wb.heap.size := Nat.ne_of_lt hlt
  generalize wa.heap.size = ga at *
  generalize wb.heap.size = gb at *
  clear hA ba bb bc hlt
  go_loopg [5, 6, 7, 8, 9] l0.length (fun gg s5 s6 s7 s8 s9 wr => ∃ (i : Nat) (sa sb : L) (ot fr : List (List Int)) (said heard : Nat), i ≤ l0.length ∧ gg = l0.length - i ∧ s9 = .int .i64 i ∧ s7 = .int .i64 said ∧ s8 = .int .i64 heard ∧ At wr ga sa ∧ At wr gb sb ∧ Rz wr w.heap.size ga gb s6 s5 ot ∧ Rz wr w.heap.size ga gb s5 s6 fr ∧ Below w.heap.size w wr ∧ Ok i sa sb ot fr said heard)
  case atStart => exact ⟨0, L0, L0, [], [], 0, 0, Nat.zero_le _, rfl, rfl, rfl, rfl, hA', hB, Rz.nil _ _ _ _ _, Rz.nil _ _ _ _ _, B1, ok0⟩
  case round =>
    obtain ⟨i, sa, sb, ot, fr, said, heard, hi, rfl, rfl, rfl, rfl, hA, hB, hT, hF, hW, hok⟩ := hrel
    clear hA' B1
    by_cases hlt : i < l0.length
    · have hltb : decide ((i : Int) < (l0.length : Int)) = true := decide_eq_true (by omega)
      obtain ⟨ad, rfl, e0, e1⟩ := at_T88 hC0 hW (i : Int) (by omega) (by omega)
      generalize rd_T88 l0 (i : Int) = x at *
      obtain ⟨pk, kk⟩ := x
      dsimp only at *
      simp only [Int.toNat_natCast] at *
      obtain ⟨AT, cT, rfl⟩ := hT.slice
      obtain ⟨AF, cF, rfl⟩ := hF.slice
      go_upto_block 2 with (fail)
      go_cut [5, 6, 7, 8] (fun v5 v6 v7 v8 wc => ∃ (sa' sb' : L) (ot' fr' : List (List Int)) (said' heard' : Nat), v7 = .int .i64 said' ∧ v8 = .int .i64 heard' ∧ At wc ga sa' ∧ At wc gb sb' ∧ Rz wc w.heap.size ga gb v6 v5 ot' ∧ Rz wc w.heap.size ga gb v5 v6 fr' ∧ Below w.heap.size w wc ∧ Ok (i + 1) sa' sb' ot' fr' said' heard')
      case first =>
        by_cases p0 : pk = 0
        · subst p0
          as_aux_lemma =>
            obtain ⟨sa', r, e, hsay, hcase⟩ := Ok.say hok (by omega)
            go_wp2_with (fail)
            have hsm : heard ≤ said ∧ said ≤ 200 := ⟨hok.le, by have := hok.n1; omega⟩
            have hga' := At.lt hA
            have hgb' := At.lt hB
            have hT1 := hT.below (below_alloc (Below.refl _ _) (.cells #[.int .u8 ((said : Int) % 256), .int .u8 ((said : Int) / 256 % 256)] 5))
            have hS := SayL ga sa (some ⟨wr.heap.size, 0, none⟩) 2 (bodyN said) _ (hA.alloc (.cells #[.int .u8 ((said : Int) % 256), .int .u8 ((said : Int) / 256 % 256)] 5)) (lit2 wr _ _) (by simp [bodyN]) (by intro a ha _; injection ha with ha; subst ha; exact Nat.ne_of_gt hga')
            rw [hsay] at hS
            refine hS.mono ?_
            clear hS
            rintro e' w2 ⟨v2, rfl, hR2, hA2, hN2⟩
            obtain ⟨A2, c2, rfl, hcy, hC2⟩ := Kd.R_reads hR2
            have hsz := hN2.size
            have hsz' := World.size_alloc wr (.cells #[.int .u8 ((said : Int) % 256), .int .u8 ((said : Int) / 256 % 256)] 5)
            obtain ⟨okp, hFy, hoky⟩ := fresh_F hR2 hT hF (by omega) hga' hgb'
            have hT2 := hT1.near hN2
            have hF2 := (hF.below (below_alloc (Below.refl _ _) (.cells #[.int .u8 ((said : Int) % 256), .int .u8 ((said : Int) / 256 % 256)] 5))).near hN2
            have hB2 := At.keep (hB.alloc (.cells #[.int .u8 ((said : Int) % 256), .int .u8 ((said : Int) / 256 % 256)] 5)) (hA.alloc _) hne.symm hN2.1
            have hW2 : Below w.heap.size w w2 := (below_alloc hW _).trans (hN2.below (B := w.heap.size) (by have := hW.size; omega) hga)
            dsimp only
            clear hR2 hC2 hT1
            rcases hcase with ⟨rfl, hok'⟩ | ⟨he, hok'⟩
            · have f9 : IntKind.i64.wrap ((said : Int) + 1) = (said : Int) + 1 := by rw [IntKind.wrap_i64]; omega
              go_wp2_with (first | ((with_reducible refine gate_builtin (b := .append) (xs := #[.tmp 104, .tmp 106]) rfl ?_); at_builtin; refine Rz.push (w0 := w) rfl (.tmp 104) (.tmp 106) rfl okp rfl rfl hT2 hF2 hA2 hB2 hW2 hcy hFy hoky (Nat.le_trans hW2.size (Nat.le_refl _)) (by have := hok.n2; omega) ?_; intro v1 w3 hT3 hF3 hA3 hB3 hW3))
              go_meet
              case rel => exact ⟨sa', sb, ot ++ [r], fr, said + 1, heard, by go_num, by go_num, hA3, hB3, hT3, hF3, hW3, hok'⟩
            · have he' : (e == (0 : Int)) = false := beq_eq_false_iff_ne.2 he
              go_wp2_with (fail)
              go_meet
              case rel => exact ⟨sa', sb, ot, fr, said, heard, by go_num, by go_num, hA2, hB2, hT2, hF2, hW2, hok'⟩
        have p0b : (pk == (0 : Int)) = false := beq_eq_false_iff_ne.2 p0
        by_cases p1 : pk = 1
        · subst p1
          as_aux_lemma =>
            obtain ⟨sa', r, e, hsay, hcase⟩ := Ok.tick hok
            have hsm : heard ≤ said ∧ said ≤ 200 := ⟨hok.le, by have := hok.n1; omega⟩
            have hga' := At.lt hA
            have hgb' := At.lt hB
            have hS := TickL ga sa wr hA hok.small
            rw [hsay] at hS
            go_wp2_with (fail)
            refine hS.mono ?_
            clear hS
            rintro e' w2 ⟨v2, rfl, hR2, hA2, hN2⟩
            obtain ⟨A2, c2, rfl, hcy, hC2⟩ := Kd.R_reads hR2
            have hsz := hN2.size
            obtain ⟨okp, hFy, hoky⟩ := fresh_F hR2 hT hF (by omega) hga' hgb'
            have hT2 := hT.near hN2
            have hF2 := hF.near hN2
            have hB2 := At.keep hB hA hne.symm hN2.1
            have hW2 : Below w.heap.size w w2 := hW.trans (hN2.below (B := w.heap.size) (by have := hW.size; omega) hga)
            dsimp only
            clear hR2 hC2
            rcases hcase with ⟨rfl, hok'⟩ | ⟨he, hok'⟩
            · skip
              go_wp2_with (first | ((with_reducible refine gate_builtin (b := .append) (xs := #[.tmp 117, .tmp 119]) rfl ?_); at_builtin; refine Rz.push (w0 := w) rfl (.tmp 117) (.tmp 119) rfl okp rfl rfl hT2 hF2 hA2 hB2 hW2 hcy hFy hoky (Nat.le_trans hW2.size (Nat.le_refl _)) (by have := hok.n2; omega) ?_; intro v1 w3 hT3 hF3 hA3 hB3 hW3))
              go_meet
              case rel => exact ⟨sa', sb, ot ++ [r], fr, said, heard, by go_num, by go_num, hA3, hB3, hT3, hF3, hW3, hok'⟩
            · have he' : (e == (0 : Int)) = false := beq_eq_false_iff_ne.2 he
              go_wp2_with (fail)
              go_meet
              case rel => exact ⟨sa', sb, ot, fr, said, heard, by go_num, by go_num, hA2, hB2, hT2, hF2, hW2, hok'⟩
        have p1b : (pk == (1 : Int)) = false := beq_eq_false_iff_ne.2 p1
        by_cases p6 : pk = 6
        · subst p6
          by_cases hin : 0 ≤ kk ∧ kk < (ot.length : Int)
          · skip
            as_aux_lemma =>
              obtain ⟨k, rfl⟩ : ∃ k : Nat, kk = k := ⟨kk.toNat, by omega⟩
              have hk : k < ot.length := by omega
              have hL := hok.n2
              have hL' := hok.n3
              obtain ⟨g, A1, c1, rfl, hx0, hle, hFx⟩ := hT.get (k : Int) (by omega) (by omega)
              rw [Int.toNat_natCast] at hx0 hle hFx
              have hmem : ot.getD k [] ∈ ot := by rw [List.getD_eq_getElem?_getD, List.getElem?_eq_getElem hk]; exact List.getElem_mem hk
              obtain ⟨x, hxe⟩ : ∃ x, x = ot.getD k [] := ⟨_, rfl⟩
              have hdup := hok.dup k hk
              rw [← hxe] at hx0 hle hFx hmem hdup
              clear hxe
              have hcc := (Kd.N_reads' hT).2.1
              have hkc : k ≤ cT := by omega
              have hk0 : (0 : Int) ≤ (k : Int) + 1 := by omega
              have hk1 : (k : Int) + 1 ≤ (ot.length : Int) := by omega
              have hk1c : k + 1 ≤ cT := by omega
              have hwk : IntKind.i64.wrap ((k : Int) + 1) = (k : Int) + 1 := by rw [IntKind.wrap_i64]; omega
              have g1 : decide ((k : Int) < 0) = false := decide_eq_false (by omega)
              have g2 : decide ((ot.length : Int) ≤ (k : Int)) = false := decide_eq_false (by omega)
              have g3 : ¬ ot.length ≤ k := by omega
              obtain ⟨A', hA'⟩ : ∃ A' : Option Addr, (if cT = k + 1 then (some ⟨g, 0, none⟩ : Option Addr) else some ⟨g, k + 1, none⟩) = A' := ⟨_, rfl⟩
              have hoky := fun j (hj : (((j ≠ ga ∧ j ≠ gb) ∧ some j ≠ (Value.slice AF fr.length cF).ownBlock) ∧ j ≠ g)) => (⟨hj.1, fun he => hj.2 (by simpa [Value.ownBlock] using he)⟩ : ((j ≠ ga ∧ j ≠ gb) ∧ some j ≠ (Value.slice AF fr.length cF).ownBlock) ∧ some j ≠ (Value.slice (some ⟨g, 0, none⟩) ot.length cT).ownBlock)
              go_wp2_with (((with_reducible refine gate_builtin (b := .append) (xs := #[.tmp 139, .tmp 144]) rfl ?_); at_builtin; refine Rz.push (w0 := w) rfl (.tmp 139) (.tmp 144) rfl _ rfl rfl hT hF hA hB hW hle hFx hoky (Nat.le_trans (hW).size (Nat.le_refl _)) (by have := hok.n2; have := hok.n3; omega) ?_; intro v1 w3 hT3 hF3 hA3 hB3 hW3))
              go_roundg (l0.length - (i + 1))
              case measure => omega
              case rel => exact ⟨i + 1, sa, sb, ot ++ [x], fr, said, heard, by omega, rfl, by go_num, by go_num, by go_num, hA3, hB3, hT3, hF3, hW3, hdup⟩
          · skip
            as_aux_lemma =>
              have hmore := hok.more
              by_cases hneg : kk < 0
              · have g1 : decide (kk < 0) = true := decide_eq_true hneg
                go_wp2_with (fail)
                go_roundg (l0.length - (i + 1))
                case measure => omega
                case rel => exact ⟨i + 1, sa, sb, ot, fr, said, heard, by omega, rfl, by go_num, by go_num, by go_num, hA, hB, hT, hF, hW, hmore⟩
              · have g1 : decide (kk < 0) = false := decide_eq_false hneg
                have g2 : decide ((ot.length : Int) ≤ kk) = true := decide_eq_true (by omega)
                go_wp2_with (fail)
                go_roundg (l0.length - (i + 1))
                case measure => omega
                case rel => exact ⟨i + 1, sa, sb, ot, fr, said, heard, by omega, rfl, by go_num, by go_num, by go_num, hA, hB, hT, hF, hW, hmore⟩
        have p6b : (pk == (6 : Int)) = false := beq_eq_false_iff_ne.2 p6
        by_cases p4 : pk = 4
        · subst p4
          by_cases hin : 0 ≤ kk ∧ kk < (ot.length : Int)
          · skip
            as_aux_lemma =>
              obtain ⟨k, rfl⟩ : ∃ k : Nat, kk = k := ⟨kk.toNat, by omega⟩
              have hk : k < ot.length := by omega
              have hL := hok.n2
              have hL' := hok.n3
              obtain ⟨g, A1, c1, rfl, hx0, hle, hFx⟩ := hT.get (k : Int) (by omega) (by omega)
              rw [Int.toNat_natCast] at hx0 hle hFx
              have hmem : ot.getD k [] ∈ ot := by rw [List.getD_eq_getElem?_getD, List.getElem?_eq_getElem hk]; exact List.getElem_mem hk
              obtain ⟨x, hxe⟩ : ∃ x, x = ot.getD k [] := ⟨_, rfl⟩
              have hdup := hok.dup k hk
              rw [← hxe] at hx0 hle hFx hmem hdup
              clear hxe
              have hcc := (Kd.N_reads' hT).2.1
              have hkc : k ≤ cT := by omega
              have hk0 : (0 : Int) ≤ (k : Int) + 1 := by omega
              have hk1 : (k : Int) + 1 ≤ (ot.length : Int) := by omega
              have hk1c : k + 1 ≤ cT := by omega
              have hwk : IntKind.i64.wrap ((k : Int) + 1) = (k : Int) + 1 := by rw [IntKind.wrap_i64]; omega
              have g1 : decide ((k : Int) < 0) = false := decide_eq_false (by omega)
              have g2 : decide ((ot.length : Int) ≤ (k : Int)) = false := decide_eq_false (by omega)
              have g3 : ¬ ot.length ≤ k := by omega
              obtain ⟨A', hA'⟩ : ∃ A' : Option Addr, (if cT = k + 1 then (some ⟨g, 0, none⟩ : Option Addr) else some ⟨g, k + 1, none⟩) = A' := ⟨_, rfl⟩
              have hoky := fun j (hj : (((j ≠ ga ∧ j ≠ gb) ∧ some j ≠ (Value.slice AF fr.length cF).ownBlock) ∧ j ≠ g)) => (⟨hj.1, fun he => hj.2 (by simpa [Value.ownBlock] using he)⟩ : ((j ≠ ga ∧ j ≠ gb) ∧ some j ≠ (Value.slice AF fr.length cF).ownBlock) ∧ some j ≠ (Value.slice (some ⟨g, 0, none⟩) ot.length cT).ownBlock)
              go_wp2_with (fail)
              have hAd : At wr.drew ga sa := hA.below (below_drew (Below.refl _ _))
              have hBd : At wr.drew gb sb := hB.below (below_drew (Below.refl _ _))
              have hTd := hT.below (below_drew (Below.refl wr.heap.size wr))
              have hFd := hF.below (below_drew (Below.refl wr.heap.size wr))
              have hWd := below_drew hW
              have hFxd := Kd.F_drew hFx
              have hEd : wr.drew.cell? (ad.add (i * 2)) = some (.int .i64 4) := e0
              have hgad := At.lt hAd
              have hgbd := At.lt hBd
              refine start_ (n := 11) (S := fun w' => True) (ds := []) #[false, false, false, false, false, false, false, false, false, false, false] (by kernel_rfl) rfl rfl trivial (fun hHeld => ?_)
              generalize wr.drew = wd at hAd hBd hTd hFd hWd hFxd hHeld hgad hgbd hEd ⊢
              refine pure_ (i := 1) (N := some 151) (v := ?_) (a' := ?_) #[false, true, false, false, false, false, false, false, false, false, false] rfl rfl (by kernel_rfl) (fun _ _ _ h => h) (Or.inl ⟨by rfl, ?_⟩) ?_ ?_
              rotate_left
              · intro w'
                go_simp
                with_reducible rfl
              rotate_left
              · simp only [Act.put, List.setIfInBounds_toArray, List.set_cons_zero, List.set_cons_succ, i64_w, i32_w]
                rfl
              refine pure_ (i := 2) (N := some 152) (v := ?_) (a' := ?_) #[false, true, true, false, false, false, false, false, false, false, false] rfl rfl (by kernel_rfl) (fun _ _ _ h => h) (Or.inl ⟨by rfl, ?_⟩) ?_ ?_
              rotate_left
              · intro w'
                go_simp
                with_reducible rfl
              rotate_left
              · simp only [Act.put, List.setIfInBounds_toArray, List.set_cons_zero, List.set_cons_succ, i64_w, i32_w]
                rfl
              refine pure_ (i := 3) (N := some 153) (v := ?_) (a' := ?_) #[false, true, true, true, false, false, false, false, false, false, false] rfl rfl (by kernel_rfl) (fun _ _ _ h => h) (Or.inl ⟨by rfl, ?_⟩) ?_ ?_
              rotate_left
              · intro w'
                go_simp
                with_reducible rfl
              rotate_left
              · simp only [Act.put, List.setIfInBounds_toArray, List.set_cons_zero, List.set_cons_succ, i64_w, i32_w]
                rfl
              refine pure_ (i := 5) (N := some 155) (v := ?_) (a' := ?_) #[false, true, true, true, false, true, false, false, false, false, false] rfl rfl (by kernel_rfl) (fun _ _ _ h => h) (Or.inl ⟨by rfl, ?_⟩) ?_ ?_
              rotate_left
              · intro w'
                go_simp
                with_reducible rfl
              rotate_left
              · simp only [Act.put, List.setIfInBounds_toArray, List.set_cons_zero, List.set_cons_succ, i64_w, i32_w]
                rfl
              refine pure_ (i := 6) (N := some 156) (v := ?_) (a' := ?_) #[false, true, true, true, false, true, true, false, false, false, false] rfl rfl (by kernel_rfl) (fun _ _ _ h => h) (Or.inl ⟨by rfl, ?_⟩) ?_ ?_
              rotate_left
              · intro w'
                go_simp
                with_reducible rfl
              rotate_left
              · simp only [Act.put, List.setIfInBounds_toArray, List.set_cons_zero, List.set_cons_succ, i64_w, i32_w]
                rfl
              refine pure_ (i := 7) (N := some 157) (v := ?_) (a' := ?_) #[false, true, true, true, false, true, true, true, false, false, false] rfl rfl (by kernel_rfl) (fun _ _ _ h => h) (Or.inl ⟨by rfl, ?_⟩) ?_ ?_
              rotate_left
              · intro w'
                go_simp
                with_reducible rfl
              rotate_left
              · simp only [Act.put, List.setIfInBounds_toArray, List.set_cons_zero, List.set_cons_succ, i64_w, i32_w]
                rfl
              refine pure_ (i := 8) (N := some 158) (v := ?_) (a' := ?_) #[false, true, true, true, false, true, true, true, true, false, false] rfl rfl (by kernel_rfl) (fun _ _ _ h => h) (Or.inl ⟨by rfl, ?_⟩) ?_ ?_
              rotate_left
              · intro w'
                go_simp
                with_reducible rfl
              rotate_left
              · simp only [Act.put, List.setIfInBounds_toArray, List.set_cons_zero, List.set_cons_succ, i64_w, i32_w]
                rfl
              refine one_ (i := 0) (N := some 150) #[true, true, true, true, false, true, true, true, true, false, false] rfl rfl (by kernel_rfl) (by decide) (fun K hK => ?_)
              refine value_ (w1 := ?_) (v := ?_) (by rfl) rfl ?_ ?_
              rotate_left 2
              · go_simp
                constructor
                · rfl
                · rfl
              refine hK.out _ _ trivial (fun hHeld => ?_)
              clear hK K
              refine norm_ (a' := ?_) ?_ ?_
              rotate_left
              · show Act.put _ (some 150) _ = _
                simp only [Act.put, List.setIfInBounds_toArray, List.set_cons_zero, List.set_cons_succ, i64_w, i32_w]
                rfl
              refine one_ (i := 4) (N := some 154) #[true, true, true, true, true, true, true, true, true, false, false] rfl rfl (by kernel_rfl) (by decide) (fun K hK => ?_)
              refine Rz.cat1 (wd := wd) (by rfl) (.tmp 150) (.tmp 153) rfl rfl rfl hTd (Nat.le_of_lt hk) (by omega) hgad hgbd (Kd.N_lt hFd) ?_
              intro v1 w1 hN1 hb1
              refine hK.out _ _ trivial (fun hHeld => ?_)
              clear hK K
              refine norm_ (a' := ?_) ?_ ?_
              rotate_left
              · show Act.put _ (some 154) _ = _
                simp only [Act.put, List.setIfInBounds_toArray, List.set_cons_zero, List.set_cons_succ, i64_w, i32_w]
                rfl
              refine one_ (i := 9) (N := some 159) #[true, true, true, true, true, true, true, true, true, true, false] rfl rfl (by kernel_rfl) (by decide) (fun K hK => ?_)
              refine Rz.cat2 (wd := wd) (by rfl) (.tmp 154) (.tmp 158) rfl rfl rfl hA'.symm (by first | rfl | (simp; done) | omega) hTd (by omega) (by omega) (by simp; omega) hgad hgbd (Kd.N_lt hFd) hN1 hb1 ?_
              intro v2 w2 hN2 hb2
              refine hK.out _ _ trivial (fun hHeld => ?_)
              clear hK K
              refine norm_ (a' := ?_) ?_ ?_
              rotate_left
              · show Act.put _ (some 159) _ = _
                simp only [Act.put, List.setIfInBounds_toArray, List.set_cons_zero, List.set_cons_succ, i64_w, i32_w]
                rfl
              refine pure_ (i := 10) (N := some 5) (v := ?_) (a' := ?_) #[true, true, true, true, true, true, true, true, true, true, true] rfl rfl (by kernel_rfl) (fun _ _ _ h => h) (Or.inl ⟨by rfl, ?_⟩) ?_ ?_
              rotate_left
              · intro w'
                go_simp
                with_reducible rfl
              rotate_left
              · simp only [Act.put, List.setIfInBounds_toArray, List.set_cons_zero, List.set_cons_succ, i64_w, i32_w]
                rfl
              refine done_ (by kernel_rfl) ?_

              have hA2 := At.below hAd (hb2.mono (Nat.le_refl _))
              have hB2 := At.below hBd (hb2.mono (Nat.le_refl _))
              have hT2 : Rz w2 w.heap.size ga gb _ v2 _ := Kd.N_lower hN2 hWd.size
              have hF2 : Rz w2 w.heap.size ga gb v2 _ _ := Kd.N_mono (Kd.N_below (Kd.N_bound hFd) hb2) (fun j hj => ⟨hj.1.1, fun he => by have := Kd.N_base hN2 j he.symm; have := hj.2; omega⟩)
              have hW2 : Below w.heap.size w w2 := hWd.trans (hb2.mono hWd.size)
              have hFx2 := Kd.F_below (Kd.F_bound hFxd) hb2
              have e02 := (Below.cell hb2 (cell_lt2 hEd)).trans hEd
              clear hN2 hb2 hN1 hb1 hFxd hAd hBd hTd hFd hWd hFx hEd
              have hokc := (hok.cut k).more
              go_wp2_with (fail)
              go_roundg (l0.length - (i + 1))
              case measure => omega
              case rel => exact ⟨i + 1, sa, sb, ot.take k ++ ot.drop (k + 1), fr, said, heard, by omega, rfl, by go_num, by go_num, by go_num, hA2, hB2, hT2, hF2, hW2, hokc⟩
          · skip
            as_aux_lemma =>
              have hmore := hok.more
              by_cases hneg : kk < 0
              · have g1 : decide (kk < 0) = true := decide_eq_true hneg
                go_wp2_with (fail)
                go_roundg (l0.length - (i + 1))
                case measure => omega
                case rel => exact ⟨i + 1, sa, sb, ot, fr, said, heard, by omega, rfl, by go_num, by go_num, by go_num, hA, hB, hT, hF, hW, hmore⟩
              · have g1 : decide (kk < 0) = false := decide_eq_false hneg
                have g2 : decide ((ot.length : Int) ≤ kk) = true := decide_eq_true (by omega)
                go_wp2_with (fail)
                go_roundg (l0.length - (i + 1))
                case measure => omega
                case rel => exact ⟨i + 1, sa, sb, ot, fr, said, heard, by omega, rfl, by go_num, by go_num, by go_num, hA, hB, hT, hF, hW, hmore⟩
        have p4b : (pk == (4 : Int)) = false := beq_eq_false_iff_ne.2 p4
        by_cases p2 : pk = 2
        · subst p2
          by_cases hin : 0 ≤ kk ∧ kk < (ot.length : Int)
          · skip
            as_aux_lemma =>
              obtain ⟨k, rfl⟩ : ∃ k : Nat, kk = k := ⟨kk.toNat, by omega⟩
              have hk : k < ot.length := by omega
              have hL := hok.n2
              have hL' := hok.n3
              obtain ⟨g, A1, c1, rfl, hx0, hle, hFx⟩ := hT.get (k : Int) (by omega) (by omega)
              rw [Int.toNat_natCast] at hx0 hle hFx
              have hmem : ot.getD k [] ∈ ot := by rw [List.getD_eq_getElem?_getD, List.getElem?_eq_getElem hk]; exact List.getElem_mem hk
              obtain ⟨x, hxe⟩ : ∃ x, x = ot.getD k [] := ⟨_, rfl⟩
              have hdup := hok.dup k hk
              rw [← hxe] at hx0 hle hFx hmem hdup
              clear hxe
              have hcc := (Kd.N_reads' hT).2.1
              have hkc : k ≤ cT := by omega
              have hk0 : (0 : Int) ≤ (k : Int) + 1 := by omega
              have hk1 : (k : Int) + 1 ≤ (ot.length : Int) := by omega
              have hk1c : k + 1 ≤ cT := by omega
              have hwk : IntKind.i64.wrap ((k : Int) + 1) = (k : Int) + 1 := by rw [IntKind.wrap_i64]; omega
              have g1 : decide ((k : Int) < 0) = false := decide_eq_false (by omega)
              have g2 : decide ((ot.length : Int) ≤ (k : Int)) = false := decide_eq_false (by omega)
              have g3 : ¬ ot.length ≤ k := by omega
              obtain ⟨A', hA'⟩ : ∃ A' : Option Addr, (if cT = k + 1 then (some ⟨g, 0, none⟩ : Option Addr) else some ⟨g, k + 1, none⟩) = A' := ⟨_, rfl⟩
              have hoky := fun j (hj : (((j ≠ ga ∧ j ≠ gb) ∧ some j ≠ (Value.slice AF fr.length cF).ownBlock) ∧ j ≠ g)) => (⟨hj.1, fun he => hj.2 (by simpa [Value.ownBlock] using he)⟩ : ((j ≠ ga ∧ j ≠ gb) ∧ some j ≠ (Value.slice AF fr.length cF).ownBlock) ∧ some j ≠ (Value.slice (some ⟨g, 0, none⟩) ot.length cT).ownBlock)
              go_wp2_with (fail)
              have hAd : At wr.drew ga sa := hA.below (below_drew (Below.refl _ _))
              have hBd : At wr.drew gb sb := hB.below (below_drew (Below.refl _ _))
              have hTd := hT.below (below_drew (Below.refl wr.heap.size wr))
              have hFd := hF.below (below_drew (Below.refl wr.heap.size wr))
              have hWd := below_drew hW
              have hFxd := Kd.F_drew hFx
              have hEd : wr.drew.cell? (ad.add (i * 2)) = some (.int .i64 2) := e0
              have hgad := At.lt hAd
              have hgbd := At.lt hBd
              refine start_ (n := 11) (S := fun w' => True) (ds := []) #[false, false, false, false, false, false, false, false, false, false, false] (by kernel_rfl) rfl rfl trivial (fun hHeld => ?_)
              generalize wr.drew = wd at hAd hBd hTd hFd hWd hFxd hHeld hgad hgbd hEd ⊢
              refine pure_ (i := 1) (N := some 151) (v := ?_) (a' := ?_) #[false, true, false, false, false, false, false, false, false, false, false] rfl rfl (by kernel_rfl) (fun _ _ _ h => h) (Or.inl ⟨by rfl, ?_⟩) ?_ ?_
              rotate_left
              · intro w'
                go_simp
                with_reducible rfl
              rotate_left
              · simp only [Act.put, List.setIfInBounds_toArray, List.set_cons_zero, List.set_cons_succ, i64_w, i32_w]
                rfl
              refine pure_ (i := 2) (N := some 152) (v := ?_) (a' := ?_) #[false, true, true, false, false, false, false, false, false, false, false] rfl rfl (by kernel_rfl) (fun _ _ _ h => h) (Or.inl ⟨by rfl, ?_⟩) ?_ ?_
              rotate_left
              · intro w'
                go_simp
                with_reducible rfl
              rotate_left
              · simp only [Act.put, List.setIfInBounds_toArray, List.set_cons_zero, List.set_cons_succ, i64_w, i32_w]
                rfl
              refine pure_ (i := 3) (N := some 153) (v := ?_) (a' := ?_) #[false, true, true, true, false, false, false, false, false, false, false] rfl rfl (by kernel_rfl) (fun _ _ _ h => h) (Or.inl ⟨by rfl, ?_⟩) ?_ ?_
              rotate_left
              · intro w'
                go_simp
                with_reducible rfl
              rotate_left
              · simp only [Act.put, List.setIfInBounds_toArray, List.set_cons_zero, List.set_cons_succ, i64_w, i32_w]
                rfl
              refine pure_ (i := 5) (N := some 155) (v := ?_) (a' := ?_) #[false, true, true, true, false, true, false, false, false, false, false] rfl rfl (by kernel_rfl) (fun _ _ _ h => h) (Or.inl ⟨by rfl, ?_⟩) ?_ ?_
              rotate_left
              · intro w'
                go_simp
                with_reducible rfl
              rotate_left
              · simp only [Act.put, List.setIfInBounds_toArray, List.set_cons_zero, List.set_cons_succ, i64_w, i32_w]
                rfl
              refine pure_ (i := 6) (N := some 156) (v := ?_) (a' := ?_) #[false, true, true, true, false, true, true, false, false, false, false] rfl rfl (by kernel_rfl) (fun _ _ _ h => h) (Or.inl ⟨by rfl, ?_⟩) ?_ ?_
              rotate_left
              · intro w'
                go_simp
                with_reducible rfl
              rotate_left
              · simp only [Act.put, List.setIfInBounds_toArray, List.set_cons_zero, List.set_cons_succ, i64_w, i32_w]
                rfl
              refine pure_ (i := 7) (N := some 157) (v := ?_) (a' := ?_) #[false, true, true, true, false, true, true, true, false, false, false] rfl rfl (by kernel_rfl) (fun _ _ _ h => h) (Or.inl ⟨by rfl, ?_⟩) ?_ ?_
              rotate_left
              · intro w'
                go_simp
                with_reducible rfl
              rotate_left
              · simp only [Act.put, List.setIfInBounds_toArray, List.set_cons_zero, List.set_cons_succ, i64_w, i32_w]
                rfl
              refine pure_ (i := 8) (N := some 158) (v := ?_) (a' := ?_) #[false, true, true, true, false, true, true, true, true, false, false] rfl rfl (by kernel_rfl) (fun _ _ _ h => h) (Or.inl ⟨by rfl, ?_⟩) ?_ ?_
              rotate_left
              · intro w'
                go_simp
                with_reducible rfl
              rotate_left
              · simp only [Act.put, List.setIfInBounds_toArray, List.set_cons_zero, List.set_cons_succ, i64_w, i32_w]
                rfl
              refine one_ (i := 0) (N := some 150) #[true, true, true, true, false, true, true, true, true, false, false] rfl rfl (by kernel_rfl) (by decide) (fun K hK => ?_)
              refine value_ (w1 := ?_) (v := ?_) (by rfl) rfl ?_ ?_
              rotate_left 2
              · go_simp
                constructor
                · rfl
                · rfl
              refine hK.out _ _ trivial (fun hHeld => ?_)
              clear hK K
              refine norm_ (a' := ?_) ?_ ?_
              rotate_left
              · show Act.put _ (some 150) _ = _
                simp only [Act.put, List.setIfInBounds_toArray, List.set_cons_zero, List.set_cons_succ, i64_w, i32_w]
                rfl
              refine one_ (i := 4) (N := some 154) #[true, true, true, true, true, true, true, true, true, false, false] rfl rfl (by kernel_rfl) (by decide) (fun K hK => ?_)
              refine Rz.cat1 (wd := wd) (by rfl) (.tmp 150) (.tmp 153) rfl rfl rfl hTd (Nat.le_of_lt hk) (by omega) hgad hgbd (Kd.N_lt hFd) ?_
              intro v1 w1 hN1 hb1
              refine hK.out _ _ trivial (fun hHeld => ?_)
              clear hK K
              refine norm_ (a' := ?_) ?_ ?_
              rotate_left
              · show Act.put _ (some 154) _ = _
                simp only [Act.put, List.setIfInBounds_toArray, List.set_cons_zero, List.set_cons_succ, i64_w, i32_w]
                rfl
              refine one_ (i := 9) (N := some 159) #[true, true, true, true, true, true, true, true, true, true, false] rfl rfl (by kernel_rfl) (by decide) (fun K hK => ?_)
              refine Rz.cat2 (wd := wd) (by rfl) (.tmp 154) (.tmp 158) rfl rfl rfl hA'.symm (by first | rfl | (simp; done) | omega) hTd (by omega) (by omega) (by simp; omega) hgad hgbd (Kd.N_lt hFd) hN1 hb1 ?_
              intro v2 w2 hN2 hb2
              refine hK.out _ _ trivial (fun hHeld => ?_)
              clear hK K
              refine norm_ (a' := ?_) ?_ ?_
              rotate_left
              · show Act.put _ (some 159) _ = _
                simp only [Act.put, List.setIfInBounds_toArray, List.set_cons_zero, List.set_cons_succ, i64_w, i32_w]
                rfl
              refine pure_ (i := 10) (N := some 5) (v := ?_) (a' := ?_) #[true, true, true, true, true, true, true, true, true, true, true] rfl rfl (by kernel_rfl) (fun _ _ _ h => h) (Or.inl ⟨by rfl, ?_⟩) ?_ ?_
              rotate_left
              · intro w'
                go_simp
                with_reducible rfl
              rotate_left
              · simp only [Act.put, List.setIfInBounds_toArray, List.set_cons_zero, List.set_cons_succ, i64_w, i32_w]
                rfl
              refine done_ (by kernel_rfl) ?_

              have hA2 := At.below hAd (hb2.mono (Nat.le_refl _))
              have hB2 := At.below hBd (hb2.mono (Nat.le_refl _))
              have hT2 : Rz w2 w.heap.size ga gb _ v2 _ := Kd.N_lower hN2 hWd.size
              have hF2 : Rz w2 w.heap.size ga gb v2 _ _ := Kd.N_mono (Kd.N_below (Kd.N_bound hFd) hb2) (fun j hj => ⟨hj.1.1, fun he => by have := Kd.N_base hN2 j he.symm; have := hj.2; omega⟩)
              have hW2 : Below w.heap.size w w2 := hWd.trans (hb2.mono hWd.size)
              have hFx2 := Kd.F_below (Kd.F_bound hFxd) hb2
              have e02 := (Below.cell hb2 (cell_lt2 hEd)).trans hEd
              clear hN2 hb2 hN1 hb1 hFxd hAd hBd hTd hFd hWd hFx hEd
              obtain ⟨n, hn1, hn2, hxn⟩ := hok.ins x hmem
              obtain ⟨sb', p, b, q, hhear, hcase⟩ := Ok.hear (hok.cut k) (by omega) hn1 hn2
              rw [← hxn] at hhear
              have hHr := HearL gb sb A1 c1 x w2 hB2 (Kd.F_now hFx2) hle (hxn ▸ FN_bytes n) (hxn ▸ Nat.le_trans (putF_len _) (by omega))
              rw [hhear] at hHr
              clear hhear hxn hn1 hn2 hmem
              go_wp2_with (fail)
              refine hHr.mono ?_
              clear hHr
              rintro e' w3 ⟨v3, v3', rfl, hR3, hR3', hB3, hN3⟩
              dsimp only
              have hgb2 := At.lt hB2
              have hga2 := At.lt hA2
              have hA3 := At.keep hA2 hB2 hne hN3.1
              have hW3 : Below w.heap.size w w3 := hW2.trans (hN3.below (B := w.heap.size) (by have := hW2.size; omega) hgb)
              have hT3 := hT2.near' hN3
              have hF3 := hF2.near' hN3
              obtain ⟨D3, d3, rfl, hqc, hD3⟩ := Kd.R_reads hR3'
              obtain ⟨okp, hFy, hoky2⟩ := fresh_F hR3' hF2 hT2 (Nat.le_refl _) hga2 hgb2
              rcases hcase with ⟨rfl, rfl, hok1, hok2⟩ | ⟨rfl, hok1, hq⟩
              · have hsm : heard ≤ said ∧ said ≤ 200 := ⟨hok.le, by have := hok.n1; omega⟩
                rw [show bodyN (heard : Int) = [(heard : Int), 0] from by unfold bodyN; rw [show (heard : Int) % 256 = heard by omega, show (heard : Int) / 256 % 256 = 0 by omega]] at hR3
                obtain ⟨A3, c3, rfl, hpc, hC3⟩ := Kd.R_reads hR3
                obtain ⟨g3, hg3⟩ : ∃ g3, A3 = some ⟨g3, 0, none⟩ := by
                  obtain ⟨ad3, e3, _⟩ := hC3.2.2 (by simp)
                  subst e3
                  obtain ⟨g3, rfl⟩ := Kd.R_head hR3
                  exact ⟨g3, rfl⟩
                subst hg3
                have r0 : w3.cell? ⟨g3, 0, none⟩ = some (.int .u8 (heard : Int)) := Kd.foot_int hC3 0 (by omega) (by simp)
                have r1 : w3.cell? ⟨g3, 1, none⟩ = some (.int .u8 0) := Kd.foot_int hC3 1 (by omega) (by simp)
                have f9 : IntKind.i64.wrap ((heard : Int) + 1) = (heard : Int) + 1 := by rw [IntKind.wrap_i64]; omega
                have f8 : IntKind.i64.wrap (heard : Int) = (heard : Int) := by rw [IntKind.wrap_i64]; omega
                go_wp2_with (fail)
                go_quiet (fail)
                clear hR3 hR3' hD3 hC3 hpc
                have hAx : ∀ m, At (w3.drewN m) ga sa := fun m => hA3.drewN m
                have hBx : ∀ m, At (w3.drewN m) gb sb' := fun m => hB3.drewN m
                have hTx : ∀ m, Rz (w3.drewN m) _ ga gb _ _ _ := fun m => hT3.below (pw_below_drewN (Below.refl _ _) m)
                have hFx' : ∀ m, Rz (w3.drewN m) _ ga gb _ _ _ := fun m => hF3.below (pw_below_drewN (Below.refl _ _) m)
                have hWx : ∀ m, Below w.heap.size w (w3.drewN m) := fun m => pw_below_drewN hW3 m
                have hYx : ∀ m, Kd.F (Kd.int .u8) (w3.drewN m) okp D3 q.length q := fun m => Kd.F_drewN hFy m
                clear hFx2
                have hFx := hFx'
                clear hFx'
                by_cases hq : q.length = 0
                · have hq0 : decide (0 < (q.length : Int)) = false := decide_eq_false (by omega)
                  have hok' := hok1
                  go_wp2_with (fail)
                  go_meet
                  case rel => exact ⟨sa, sb', ot.take k ++ ot.drop (k + 1), fr, said, heard + 1, by go_num, by go_num, (hAx _), (hBx _), (hTx _), (hFx _), (hWx _), hok'⟩
                · have hq0 : decide (0 < (q.length : Int)) = true := decide_eq_true (by omega)
                  have hok' := hok2
                  go_wp2_with (first | ((with_reducible refine gate_builtin (b := .append) (xs := #[.tmp 196, .tmp 198]) rfl ?_); at_builtin; refine Rz.push (w0 := w) rfl (.tmp 196) (.tmp 198) rfl okp rfl rfl (hFx _) (hTx _) (hAx _) (hBx _) (hWx _) hqc (hYx _) hoky2 (Nat.le_trans ((hWx _)).size (Nat.le_refl _)) (by have := hok.n2; have := hok.n3; omega) ?_; intro v1 w4 hF4 hT4 hA4 hB4 hW4))
                  go_meet
                  case rel => exact ⟨sa, sb', ot.take k ++ ot.drop (k + 1), fr ++ [q], said, heard + 1, by go_num, by go_num, hA4, hB4, hT4, hF4, hW4, hok'⟩
              · clear hR3 hR3' hD3
                by_cases hq1 : q.length = 0
                · have hq0 : decide (0 < (q.length : Int)) = false := decide_eq_false (by omega)
                  have hok' := hok1
                  go_wp2_with (fail)
                  go_meet
                  case rel => exact ⟨sa, sb', ot.take k ++ ot.drop (k + 1), fr, said, heard, by go_num, by go_num, hA3, hB3, hT3, hF3, hW3, hok'⟩
                · have hq0 : decide (0 < (q.length : Int)) = true := decide_eq_true (by omega)
                  have hok' := hq.resolve_left hq1
                  go_wp2_with (first | ((with_reducible refine gate_builtin (b := .append) (xs := #[.tmp 196, .tmp 198]) rfl ?_); at_builtin; refine Rz.push (w0 := w) rfl (.tmp 196) (.tmp 198) rfl okp rfl rfl hF3 hT3 hA3 hB3 hW3 hqc hFy hoky2 (Nat.le_trans (hW3).size (Nat.le_refl _)) (by have := hok.n2; have := hok.n3; omega) ?_; intro v1 w4 hF4 hT4 hA4 hB4 hW4))
                  go_meet
                  case rel => exact ⟨sa, sb', ot.take k ++ ot.drop (k + 1), fr ++ [q], said, heard, by go_num, by go_num, hA4, hB4, hT4, hF4, hW4, hok'⟩
          · skip
            as_aux_lemma =>
              have hmore := hok.more
              by_cases hneg : kk < 0
              · have g1 : decide (kk < 0) = true := decide_eq_true hneg
                go_wp2_with (fail)
                go_roundg (l0.length - (i + 1))
                case measure => omega
                case rel => exact ⟨i + 1, sa, sb, ot, fr, said, heard, by omega, rfl, by go_num, by go_num, by go_num, hA, hB, hT, hF, hW, hmore⟩
              · have g1 : decide (kk < 0) = false := decide_eq_false hneg
                have g2 : decide ((ot.length : Int) ≤ kk) = true := decide_eq_true (by omega)
                go_wp2_with (fail)
                go_roundg (l0.length - (i + 1))
                case measure => omega
                case rel => exact ⟨i + 1, sa, sb, ot, fr, said, heard, by omega, rfl, by go_num, by go_num, by go_num, hA, hB, hT, hF, hW, hmore⟩
        have p2b : (pk == (2 : Int)) = false := beq_eq_false_iff_ne.2 p2
        by_cases hin : 0 ≤ kk ∧ kk < (fr.length : Int)
        · skip
          obtain ⟨k, rfl⟩ : ∃ k : Nat, kk = k := ⟨kk.toNat, by omega⟩
          have hk : k < fr.length := by omega
          have hL := hok.n2
          have hL' := hok.n3
          obtain ⟨g, A1, c1, rfl, hx0, hle, hFx⟩ := hF.get (k : Int) (by omega) (by omega)
          rw [Int.toNat_natCast] at hx0 hle hFx
          have hmem : fr.getD k [] ∈ fr := by rw [List.getD_eq_getElem?_getD, List.getElem?_eq_getElem hk]; exact List.getElem_mem hk
          obtain ⟨x, hxe⟩ : ∃ x, x = fr.getD k [] := ⟨_, rfl⟩
          have hdup := hok.dupR k hk
          rw [← hxe] at hx0 hle hFx hmem hdup
          clear hxe
          have hcc := (Kd.N_reads' hF).2.1
          have hkc : k ≤ cF := by omega
          have hk0 : (0 : Int) ≤ (k : Int) + 1 := by omega
          have hk1 : (k : Int) + 1 ≤ (fr.length : Int) := by omega
          have hk1c : k + 1 ≤ cF := by omega
          have hwk : IntKind.i64.wrap ((k : Int) + 1) = (k : Int) + 1 := by rw [IntKind.wrap_i64]; omega
          have g1 : decide ((k : Int) < 0) = false := decide_eq_false (by omega)
          have g2 : decide ((fr.length : Int) ≤ (k : Int)) = false := decide_eq_false (by omega)
          have g3 : ¬ fr.length ≤ k := by omega
          obtain ⟨A', hA'⟩ : ∃ A' : Option Addr, (if cF = k + 1 then (some ⟨g, 0, none⟩ : Option Addr) else some ⟨g, k + 1, none⟩) = A' := ⟨_, rfl⟩
          have hoky := fun j (hj : (((j ≠ ga ∧ j ≠ gb) ∧ some j ≠ (Value.slice AT ot.length cT).ownBlock) ∧ j ≠ g)) => (⟨hj.1, fun he => hj.2 (by simpa [Value.ownBlock] using he)⟩ : ((j ≠ ga ∧ j ≠ gb) ∧ some j ≠ (Value.slice AT ot.length cT).ownBlock) ∧ some j ≠ (Value.slice (some ⟨g, 0, none⟩) fr.length cF).ownBlock)
          by_cases p7 : pk = 7
          · subst p7
            as_aux_lemma =>
              go_wp2_with (((with_reducible refine gate_builtin (b := .append) (xs := #[.tmp 57, .tmp 62]) rfl ?_); at_builtin; refine Rz.push (w0 := w) rfl (.tmp 57) (.tmp 62) rfl _ rfl rfl hF hT hA hB hW hle hFx hoky (Nat.le_trans (hW).size (Nat.le_refl _)) (by have := hok.n2; have := hok.n3; omega) ?_; intro v1 w3 hF3 hT3 hA3 hB3 hW3))
              go_roundg (l0.length - (i + 1))
              case measure => omega
              case rel => exact ⟨i + 1, sa, sb, ot, fr ++ [x], said, heard, by omega, rfl, by go_num, by go_num, by go_num, hA3, hB3, hT3, hF3, hW3, hdup⟩
          have p7b : (pk == (7 : Int)) = false := beq_eq_false_iff_ne.2 p7
          by_cases p3 : pk = 3
          · subst p3
            as_aux_lemma =>
              go_wp2_with (fail)
              have hAd : At wr.drew ga sa := hA.below (below_drew (Below.refl _ _))
              have hBd : At wr.drew gb sb := hB.below (below_drew (Below.refl _ _))
              have hTd := hT.below (below_drew (Below.refl wr.heap.size wr))
              have hFd := hF.below (below_drew (Below.refl wr.heap.size wr))
              have hWd := below_drew hW
              have hFxd := Kd.F_drew hFx
              have hEd : wr.drew.cell? (ad.add (i * 2)) = some (.int .i64 3) := e0
              have hgad := At.lt hAd
              have hgbd := At.lt hBd
              refine start_ (n := 11) (S := fun w' => True) (ds := []) #[false, false, false, false, false, false, false, false, false, false, false] (by kernel_rfl) rfl rfl trivial (fun hHeld => ?_)
              generalize wr.drew = wd at hAd hBd hTd hFd hWd hFxd hHeld hgad hgbd hEd ⊢
              refine pure_ (i := 1) (N := some 69) (v := ?_) (a' := ?_) #[false, true, false, false, false, false, false, false, false, false, false] rfl rfl (by kernel_rfl) (fun _ _ _ h => h) (Or.inl ⟨by rfl, ?_⟩) ?_ ?_
              rotate_left
              · intro w'
                go_simp
                with_reducible rfl
              rotate_left
              · simp only [Act.put, List.setIfInBounds_toArray, List.set_cons_zero, List.set_cons_succ, i64_w, i32_w]
                rfl
              refine pure_ (i := 2) (N := some 70) (v := ?_) (a' := ?_) #[false, true, true, false, false, false, false, false, false, false, false] rfl rfl (by kernel_rfl) (fun _ _ _ h => h) (Or.inl ⟨by rfl, ?_⟩) ?_ ?_
              rotate_left
              · intro w'
                go_simp
                with_reducible rfl
              rotate_left
              · simp only [Act.put, List.setIfInBounds_toArray, List.set_cons_zero, List.set_cons_succ, i64_w, i32_w]
                rfl
              refine pure_ (i := 3) (N := some 71) (v := ?_) (a' := ?_) #[false, true, true, true, false, false, false, false, false, false, false] rfl rfl (by kernel_rfl) (fun _ _ _ h => h) (Or.inl ⟨by rfl, ?_⟩) ?_ ?_
              rotate_left
              · intro w'
                go_simp
                with_reducible rfl
              rotate_left
              · simp only [Act.put, List.setIfInBounds_toArray, List.set_cons_zero, List.set_cons_succ, i64_w, i32_w]
                rfl
              refine pure_ (i := 5) (N := some 73) (v := ?_) (a' := ?_) #[false, true, true, true, false, true, false, false, false, false, false] rfl rfl (by kernel_rfl) (fun _ _ _ h => h) (Or.inl ⟨by rfl, ?_⟩) ?_ ?_
              rotate_left
              · intro w'
                go_simp
                with_reducible rfl
              rotate_left
              · simp only [Act.put, List.setIfInBounds_toArray, List.set_cons_zero, List.set_cons_succ, i64_w, i32_w]
                rfl
              refine pure_ (i := 6) (N := some 74) (v := ?_) (a' := ?_) #[false, true, true, true, false, true, true, false, false, false, false] rfl rfl (by kernel_rfl) (fun _ _ _ h => h) (Or.inl ⟨by rfl, ?_⟩) ?_ ?_
              rotate_left
              · intro w'
                go_simp
                with_reducible rfl
              rotate_left
              · simp only [Act.put, List.setIfInBounds_toArray, List.set_cons_zero, List.set_cons_succ, i64_w, i32_w]
                rfl
              refine pure_ (i := 7) (N := some 75) (v := ?_) (a' := ?_) #[false, true, true, true, false, true, true, true, false, false, false] rfl rfl (by kernel_rfl) (fun _ _ _ h => h) (Or.inl ⟨by rfl, ?_⟩) ?_ ?_
              rotate_left
              · intro w'
                go_simp
                with_reducible rfl
              rotate_left
              · simp only [Act.put, List.setIfInBounds_toArray, List.set_cons_zero, List.set_cons_succ, i64_w, i32_w]
                rfl
              refine pure_ (i := 8) (N := some 76) (v := ?_) (a' := ?_) #[false, true, true, true, false, true, true, true, true, false, false] rfl rfl (by kernel_rfl) (fun _ _ _ h => h) (Or.inl ⟨by rfl, ?_⟩) ?_ ?_
              rotate_left
              · intro w'
                go_simp
                with_reducible rfl
              rotate_left
              · simp only [Act.put, List.setIfInBounds_toArray, List.set_cons_zero, List.set_cons_succ, i64_w, i32_w]
                rfl
              refine one_ (i := 0) (N := some 68) #[true, true, true, true, false, true, true, true, true, false, false] rfl rfl (by kernel_rfl) (by decide) (fun K hK => ?_)
              refine value_ (w1 := ?_) (v := ?_) (by rfl) rfl ?_ ?_
              rotate_left 2
              · go_simp
                constructor
                · rfl
                · rfl
              refine hK.out _ _ trivial (fun hHeld => ?_)
              clear hK K
              refine norm_ (a' := ?_) ?_ ?_
              rotate_left
              · show Act.put _ (some 68) _ = _
                simp only [Act.put, List.setIfInBounds_toArray, List.set_cons_zero, List.set_cons_succ, i64_w, i32_w]
                rfl
              refine one_ (i := 4) (N := some 72) #[true, true, true, true, true, true, true, true, true, false, false] rfl rfl (by kernel_rfl) (by decide) (fun K hK => ?_)
              refine Rz.cat1 (wd := wd) (by rfl) (.tmp 68) (.tmp 71) rfl rfl rfl hFd (Nat.le_of_lt hk) (by omega) hgad hgbd (Kd.N_lt hTd) ?_
              intro v1 w1 hN1 hb1
              refine hK.out _ _ trivial (fun hHeld => ?_)
              clear hK K
              refine norm_ (a' := ?_) ?_ ?_
              rotate_left
              · show Act.put _ (some 72) _ = _
                simp only [Act.put, List.setIfInBounds_toArray, List.set_cons_zero, List.set_cons_succ, i64_w, i32_w]
                rfl
              refine one_ (i := 9) (N := some 77) #[true, true, true, true, true, true, true, true, true, true, false] rfl rfl (by kernel_rfl) (by decide) (fun K hK => ?_)
              refine Rz.cat2 (wd := wd) (by rfl) (.tmp 72) (.tmp 76) rfl rfl rfl hA'.symm (by first | rfl | (simp; done) | omega) hFd (by omega) (by omega) (by simp; omega) hgad hgbd (Kd.N_lt hTd) hN1 hb1 ?_
              intro v2 w2 hN2 hb2
              refine hK.out _ _ trivial (fun hHeld => ?_)
              clear hK K
              refine norm_ (a' := ?_) ?_ ?_
              rotate_left
              · show Act.put _ (some 77) _ = _
                simp only [Act.put, List.setIfInBounds_toArray, List.set_cons_zero, List.set_cons_succ, i64_w, i32_w]
                rfl
              refine pure_ (i := 10) (N := some 6) (v := ?_) (a' := ?_) #[true, true, true, true, true, true, true, true, true, true, true] rfl rfl (by kernel_rfl) (fun _ _ _ h => h) (Or.inl ⟨by rfl, ?_⟩) ?_ ?_
              rotate_left
              · intro w'
                go_simp
                with_reducible rfl
              rotate_left
              · simp only [Act.put, List.setIfInBounds_toArray, List.set_cons_zero, List.set_cons_succ, i64_w, i32_w]
                rfl
              refine done_ (by kernel_rfl) ?_

              have hA2 := At.below hAd (hb2.mono (Nat.le_refl _))
              have hB2 := At.below hBd (hb2.mono (Nat.le_refl _))
              have hF2 : Rz w2 w.heap.size ga gb _ v2 _ := Kd.N_lower hN2 hWd.size
              have hT2 : Rz w2 w.heap.size ga gb v2 _ _ := Kd.N_mono (Kd.N_below (Kd.N_bound hTd) hb2) (fun j hj => ⟨hj.1.1, fun he => by have := Kd.N_base hN2 j he.symm; have := hj.2; omega⟩)
              have hW2 : Below w.heap.size w w2 := hWd.trans (hb2.mono hWd.size)
              have hFx2 := Kd.F_below (Kd.F_bound hFxd) hb2
              have e02 := (Below.cell hb2 (cell_lt2 hEd)).trans hEd
              clear hN2 hb2 hN1 hb1 hFxd hAd hBd hTd hFd hWd hFx hEd
              obtain ⟨n, hn1, hn2, hxn⟩ := hok.outs x hmem
              obtain ⟨sa', p, b, q, hhear, hok'⟩ := Ok.hearR (hok.cutR k) (by omega) hn1 hn2
              rw [← hxn] at hhear
              have hHr := HearL ga sa A1 c1 x w2 hA2 (Kd.F_now hFx2) hle (hxn ▸ KN_bytes n) (hxn ▸ Nat.le_trans (putF_len _) (by omega))
              rw [hhear] at hHr
              clear hhear hxn hn1 hn2 hmem
              go_wp2_with (fail)
              refine hHr.mono ?_
              clear hHr
              rintro e' w3 ⟨v3, v3', rfl, hR3, hR3', hA3, hN3⟩
              dsimp only
              have hB3 := At.keep hB2 hA2 hne.symm hN3.1
              have hW3 : Below w.heap.size w w3 := hW2.trans (hN3.below (B := w.heap.size) (by have := hW2.size; omega) hga)
              have hT3 := hT2.near hN3
              have hF3 := hF2.near hN3
              have hsm : heard ≤ said ∧ said ≤ 200 := ⟨hok.le, by have := hok.n1; omega⟩
              clear hR3 hR3'
              go_wp2_with (fail)
              go_meet
              case rel => exact ⟨sa', sb, ot, fr.take k ++ fr.drop (k + 1), said, heard, by go_num, by go_num, hA3, hB3, hT3, hF3, hW3, hok'⟩
          have p3b : (pk == (3 : Int)) = false := beq_eq_false_iff_ne.2 p3
          as_aux_lemma =>
            go_wp2_with (fail)
            have hAd : At wr.drew ga sa := hA.below (below_drew (Below.refl _ _))
            have hBd : At wr.drew gb sb := hB.below (below_drew (Below.refl _ _))
            have hTd := hT.below (below_drew (Below.refl wr.heap.size wr))
            have hFd := hF.below (below_drew (Below.refl wr.heap.size wr))
            have hWd := below_drew hW
            have hFxd := Kd.F_drew hFx
            have hEd : wr.drew.cell? (ad.add (i * 2)) = some (.int .i64 pk) := e0
            have hgad := At.lt hAd
            have hgbd := At.lt hBd
            refine start_ (n := 11) (S := fun w' => True) (ds := []) #[false, false, false, false, false, false, false, false, false, false, false] (by kernel_rfl) rfl rfl trivial (fun hHeld => ?_)
            generalize wr.drew = wd at hAd hBd hTd hFd hWd hFxd hHeld hgad hgbd hEd ⊢
            refine pure_ (i := 1) (N := some 69) (v := ?_) (a' := ?_) #[false, true, false, false, false, false, false, false, false, false, false] rfl rfl (by kernel_rfl) (fun _ _ _ h => h) (Or.inl ⟨by rfl, ?_⟩) ?_ ?_
            rotate_left
            · intro w'
              go_simp
              with_reducible rfl
            rotate_left
            · simp only [Act.put, List.setIfInBounds_toArray, List.set_cons_zero, List.set_cons_succ, i64_w, i32_w]
              rfl
            refine pure_ (i := 2) (N := some 70) (v := ?_) (a' := ?_) #[false, true, true, false, false, false, false, false, false, false, false] rfl rfl (by kernel_rfl) (fun _ _ _ h => h) (Or.inl ⟨by rfl, ?_⟩) ?_ ?_
            rotate_left
            · intro w'
              go_simp
              with_reducible rfl
            rotate_left
            · simp only [Act.put, List.setIfInBounds_toArray, List.set_cons_zero, List.set_cons_succ, i64_w, i32_w]
              rfl
            refine pure_ (i := 3) (N := some 71) (v := ?_) (a' := ?_) #[false, true, true, true, false, false, false, false, false, false, false] rfl rfl (by kernel_rfl) (fun _ _ _ h => h) (Or.inl ⟨by rfl, ?_⟩) ?_ ?_
            rotate_left
            · intro w'
              go_simp
              with_reducible rfl
            rotate_left
            · simp only [Act.put, List.setIfInBounds_toArray, List.set_cons_zero, List.set_cons_succ, i64_w, i32_w]
              rfl
            refine pure_ (i := 5) (N := some 73) (v := ?_) (a' := ?_) #[false, true, true, true, false, true, false, false, false, false, false] rfl rfl (by kernel_rfl) (fun _ _ _ h => h) (Or.inl ⟨by rfl, ?_⟩) ?_ ?_
            rotate_left
            · intro w'
              go_simp
              with_reducible rfl
            rotate_left
            · simp only [Act.put, List.setIfInBounds_toArray, List.set_cons_zero, List.set_cons_succ, i64_w, i32_w]
              rfl
            refine pure_ (i := 6) (N := some 74) (v := ?_) (a' := ?_) #[false, true, true, true, false, true, true, false, false, false, false] rfl rfl (by kernel_rfl) (fun _ _ _ h => h) (Or.inl ⟨by rfl, ?_⟩) ?_ ?_
            rotate_left
            · intro w'
              go_simp
              with_reducible rfl
            rotate_left
            · simp only [Act.put, List.setIfInBounds_toArray, List.set_cons_zero, List.set_cons_succ, i64_w, i32_w]
              rfl
            refine pure_ (i := 7) (N := some 75) (v := ?_) (a' := ?_) #[false, true, true, true, false, true, true, true, false, false, false] rfl rfl (by kernel_rfl) (fun _ _ _ h => h) (Or.inl ⟨by rfl, ?_⟩) ?_ ?_
            rotate_left
            · intro w'
              go_simp
              with_reducible rfl
            rotate_left
            · simp only [Act.put, List.setIfInBounds_toArray, List.set_cons_zero, List.set_cons_succ, i64_w, i32_w]
              rfl
            refine pure_ (i := 8) (N := some 76) (v := ?_) (a' := ?_) #[false, true, true, true, false, true, true, true, true, false, false] rfl rfl (by kernel_rfl) (fun _ _ _ h => h) (Or.inl ⟨by rfl, ?_⟩) ?_ ?_
            rotate_left
            · intro w'
              go_simp
              with_reducible rfl
            rotate_left
            · simp only [Act.put, List.setIfInBounds_toArray, List.set_cons_zero, List.set_cons_succ, i64_w, i32_w]
              rfl
            refine one_ (i := 0) (N := some 68) #[true, true, true, true, false, true, true, true, true, false, false] rfl rfl (by kernel_rfl) (by decide) (fun K hK => ?_)
            refine value_ (w1 := ?_) (v := ?_) (by rfl) rfl ?_ ?_
            rotate_left 2
            · go_simp
              constructor
              · rfl
              · rfl
            refine hK.out _ _ trivial (fun hHeld => ?_)
            clear hK K
            refine norm_ (a' := ?_) ?_ ?_
            rotate_left
            · show Act.put _ (some 68) _ = _
              simp only [Act.put, List.setIfInBounds_toArray, List.set_cons_zero, List.set_cons_succ, i64_w, i32_w]
              rfl
            refine one_ (i := 4) (N := some 72) #[true, true, true, true, true, true, true, true, true, false, false] rfl rfl (by kernel_rfl) (by decide) (fun K hK => ?_)
            refine Rz.cat1 (wd := wd) (by rfl) (.tmp 68) (.tmp 71) rfl rfl rfl hFd (Nat.le_of_lt hk) (by omega) hgad hgbd (Kd.N_lt hTd) ?_
            intro v1 w1 hN1 hb1
            refine hK.out _ _ trivial (fun hHeld => ?_)
            clear hK K
            refine norm_ (a' := ?_) ?_ ?_
            rotate_left
            · show Act.put _ (some 72) _ = _
              simp only [Act.put, List.setIfInBounds_toArray, List.set_cons_zero, List.set_cons_succ, i64_w, i32_w]
              rfl
            refine one_ (i := 9) (N := some 77) #[true, true, true, true, true, true, true, true, true, true, false] rfl rfl (by kernel_rfl) (by decide) (fun K hK => ?_)
            refine Rz.cat2 (wd := wd) (by rfl) (.tmp 72) (.tmp 76) rfl rfl rfl hA'.symm (by first | rfl | (simp; done) | omega) hFd (by omega) (by omega) (by simp; omega) hgad hgbd (Kd.N_lt hTd) hN1 hb1 ?_
            intro v2 w2 hN2 hb2
            refine hK.out _ _ trivial (fun hHeld => ?_)
            clear hK K
            refine norm_ (a' := ?_) ?_ ?_
            rotate_left
            · show Act.put _ (some 77) _ = _
              simp only [Act.put, List.setIfInBounds_toArray, List.set_cons_zero, List.set_cons_succ, i64_w, i32_w]
              rfl
            refine pure_ (i := 10) (N := some 6) (v := ?_) (a' := ?_) #[true, true, true, true, true, true, true, true, true, true, true] rfl rfl (by kernel_rfl) (fun _ _ _ h => h) (Or.inl ⟨by rfl, ?_⟩) ?_ ?_
            rotate_left
            · intro w'
              go_simp
              with_reducible rfl
            rotate_left
            · simp only [Act.put, List.setIfInBounds_toArray, List.set_cons_zero, List.set_cons_succ, i64_w, i32_w]
              rfl
            refine done_ (by kernel_rfl) ?_

            have hA2 := At.below hAd (hb2.mono (Nat.le_refl _))
            have hB2 := At.below hBd (hb2.mono (Nat.le_refl _))
            have hF2 : Rz w2 w.heap.size ga gb _ v2 _ := Kd.N_lower hN2 hWd.size
            have hT2 : Rz w2 w.heap.size ga gb v2 _ _ := Kd.N_mono (Kd.N_below (Kd.N_bound hTd) hb2) (fun j hj => ⟨hj.1.1, fun he => by have := Kd.N_base hN2 j he.symm; have := hj.2; omega⟩)
            have hW2 : Below w.heap.size w w2 := hWd.trans (hb2.mono hWd.size)
            have hFx2 := Kd.F_below (Kd.F_bound hFxd) hb2
            have e02 := (Below.cell hb2 (cell_lt2 hEd)).trans hEd
            clear hN2 hb2 hN1 hb1 hFxd hAd hBd hTd hFd hWd hFx hEd
            have hok' := (hok.cutR k).more
            have hsm : heard ≤ said ∧ said ≤ 200 := ⟨hok.le, by have := hok.n1; omega⟩
            go_wp2_with (fail)
            go_meet
            case rel => exact ⟨sa, sb, ot, fr.take k ++ fr.drop (k + 1), said, heard, by go_num, by go_num, hA2, hB2, hT2, hF2, hW2, hok'⟩
        · skip
          as_aux_lemma =>
            have hmore := hok.more
            by_cases hneg : kk < 0
            · have g1 : decide (kk < 0) = true := decide_eq_true hneg
              go_wp2_with (fail)
              go_roundg (l0.length - (i + 1))
              case measure => omega
              case rel => exact ⟨i + 1, sa, sb, ot, fr, said, heard, by omega, rfl, by go_num, by go_num, by go_num, hA, hB, hT, hF, hW, hmore⟩
            · have g1 : decide (kk < 0) = false := decide_eq_false hneg
              have g2 : decide ((fr.length : Int) ≤ kk) = true := decide_eq_true (by omega)
              go_wp2_with (fail)
              go_roundg (l0.length - (i + 1))
              case measure => omega
              case rel => exact ⟨i + 1, sa, sb, ot, fr, said, heard, by omega, rfl, by go_num, by go_num, by go_num, hA, hB, hT, hF, hW, hmore⟩
      case rest =>
        as_aux_lemma =>
          obtain ⟨sa, sb, ot, fr, said, heard, rfl, rfl, hA, hB, hT, hF, hW, hok⟩ := hcut
          have hsm : heard ≤ said ∧ said ≤ heard + 1 ∧ said ≤ 201 := ⟨hok.le, hok.ge, by have := hok.n1; omega⟩
          have f1 : decide ((said : Int) < (heard : Int)) = false := decide_eq_false (by omega)
          have f2 : IntKind.i64.wrap ((said : Int) - 1) = (said : Int) - 1 := by rw [IntKind.wrap_i64]; omega
          have f3 : decide ((heard : Int) < (said : Int) - 1) = false := decide_eq_false (by omega)
          have hid := hok.idle
          cases hbz : sa.busy with
          | true =>
            go_wp2_with (go_at_call 62; refine (Busy_calls ga _ _ hA).mono ?_; rw [hbz]; rintro e w' ⟨rfl, rfl⟩)
            go_roundg (l0.length - (i + 1)); (case measure => omega); (case rel => exact ⟨i + 1, sa, sb, ot, fr, _, heard, by omega, rfl, by go_num, by go_num, by go_num, hA, hB, hT, hF, hW, hok⟩)
          | false =>
            cases hlz : sa.lost with
            | true =>
              go_wp2_with (first | (go_at_call 62; refine (Busy_calls ga _ _ hA).mono ?_; rw [hbz]; rintro e w' ⟨rfl, rfl⟩) | (go_at_call 63; refine (Lost_calls ga _ _ hA).mono ?_; rw [hlz]; rintro e w' ⟨rfl, rfl⟩))
              go_roundg (l0.length - (i + 1)); (case measure => omega); (case rel => exact ⟨i + 1, sa, sb, ot, fr, _, heard, by omega, rfl, by go_num, by go_num, by go_num, hA, hB, hT, hF, hW, hok⟩)
            | false =>
              obtain rfl : heard = said := hid hbz hlz
              go_wp2_with (first | (go_at_call 62; refine (Busy_calls ga _ _ hA).mono ?_; rw [hbz]; rintro e w' ⟨rfl, rfl⟩) | (go_at_call 63; refine (Lost_calls ga _ _ hA).mono ?_; rw [hlz]; rintro e w' ⟨rfl, rfl⟩))
              go_roundg (l0.length - (i + 1)); (case measure => omega); (case rel => exact ⟨i + 1, sa, sb, ot, fr, _, heard, by omega, rfl, by go_num, by go_num, by go_num, hA, hB, hT, hF, hW, hok⟩)
    · have hltb : decide ((i : Int) < (l0.length : Int)) = false := decide_eq_false (by omega)
      go_wp2_with (fail)
      go_ret
      exact ⟨by simp, hW⟩
end Go.Proofs.Ytlaojndlelcdaaa.Links
