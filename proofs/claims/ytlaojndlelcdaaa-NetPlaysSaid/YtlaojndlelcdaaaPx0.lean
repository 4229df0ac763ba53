/- Written by pp.py, a program of this session over the printer of the kit: what the functions of the program compute, and that they do so; of a law: its row, without a condition. -/
import Derived.Test.YtlaojndlelcdaaaProg
import Derived.Below
import Derived.Deep.Draws
import Derived.Deep.AppendLies
import Derived.Maps.AppendAt
import Derived.OwnWalk
import Derived.Laws.BytesArg
import Derived.Laws.MakeOwn
import Derived.Laws.OwnMore
import Derived.Deep.OwnRows
import Derived.Tactics
import Derived.Lib.ConvBytes
import Derived.Laws.Slices
import Derived.WalkKit
import Derived.KernelRfl
import Derived.RowKit3
import Derived.Deep.LoopGhost
import Derived.Deep.QuietTactic
import Derived.BigQuiet
import Derived.WideLaws
import Derived.Deep.DeepCutAuto
import Derived.Deep.CutBlock
import Derived.Deep.RegionHeld3
import Derived.Laws.Rows
import Derived.Lib.AppendStr
import Derived.ArgAppend
import Derived.Laws.IdiomCopy
import Derived.OrdersHeld
import Derived.Laws.BitsLemmas
import Derived.RowKit
import Derived.Lib.SliceRun
import Derived.Lib.SlBytesConst
import Derived.Test.YtlaojndlelcdaaaWWords
import Derived.Test.YtlaojndlelcdaaaWLast
import Derived.Test.YtlaojndlelcdaaaWTab
import Derived.Test.YtlaojndlelcdaaaWFour
import Derived.Test.YtlaojndlelcdaaaWQPut
import Derived.Test.YtlaojndlelcdaaaWApart
import Derived.Test.YtlaojndlelcdaaaWArr
import Derived.Test.YtlaojndlelcdaaaWZeros
import Derived.Test.YtlaojndlelcdaaaWFoot
import Derived.Test.YtlaojndlelcdaaaWKept
import Derived.Test.YtlaojndlelcdaaaWShare
import Derived.Test.YtlaojndlelcdaaaWN
import Derived.Test.YtlaojndlelcdaaaWFootNe
import Derived.Test.YtlaojndlelcdaaaWAt
import Derived.Test.YtlaojndlelcdaaaWEqStruct
import Derived.Test.YtlaojndlelcdaaaWRepsOne
import Derived.Test.YtlaojndlelcdaaaWInv
import Derived.Test.YtlaojndlelcdaaaWInvWords
import Derived.Test.YtlaojndlelcdaaaWGuard
import Derived.Test.YtlaojndlelcdaaaWNEv
import Derived.Test.YtlaojndlelcdaaaWMore
namespace Go.Proofs.Ytlaojndlelcdaaa.P
open Go.RowKit Go.Proofs.YtlaojndlelcdaaaW.PrintWords Go.Proofs.YtlaojndlelcdaaaW.PrintLast Go.Proofs.YtlaojndlelcdaaaW.PrintMore
attribute [local go_sem] max2_int min2_int max_two min_two max_three min_three max_four min_four   -- for this text's walks alone
set_option linter.unusedVariables false
set_option linter.unusedSimpArgs false



def errW : Option Int → Value
  | none => .nilIface
  | some c => .iface 0 (.int .i64 c)
theorem errW_none : errW none = .nilIface := rfl
theorem errW_some (c : Int) : errW (some c) = .iface 0 (.int .i64 c) := rfl


theorem C_of_block {W : World} {g : Nat} {xs : List Int} {e : TypeId} {fr : Nat × Nat} (k : IntKind) (h : W.heap[g]? = some (.cells (nums k xs).toArray e fr)) (hm : xs.length ≤ 9223372036854775807) :
    (Kd.int k).C W (some ⟨g, 0, none⟩) xs.length xs := by
  refine Kd.C_of_reads (d := (0 : Int)) (h1 := fun _ => rfl) ?_
  refine ⟨rfl, hm, fun _ => ⟨_, rfl, fun j hj => ?_⟩⟩
  have ha : ((⟨g, 0, none⟩ : Addr).add j) = ⟨g, j, none⟩ := by
    unfold Addr.add
    by_cases h0 : j = 0
    · subst h0; simp
    · simp [h0]
  rw [ha]
  simp [World.cell?, h, nums, List.getElem?_eq_getElem hj]
theorem more_ {P : Program} {ops : Array Oper} {Q : Exit → Act → World → Prop} {md : Region.Mode} {S : World → Prop} {fuel : Nat} {l : Array Bool} {a : Act} {w : World} (S2 : World → Prop) (h21 : ∀ w, S2 w → S w) (h2 : S2 w)
    (h : S2 w → wpAnyLast P md ops Q S2 [] fuel l a w) : wpAnyLast P md ops Q S [] fuel l a w := by
  have h3 := h h2
  clear h
  induction fuel generalizing l a w with
  | zero => exact h3
  | succ fuel ih => exact ⟨h3.1, fun i hi => wpOp_mono (fun a' w' h' => ⟨fun _ _ => h21 _ (h'.1 (by simp) h2), ih (h'.1 (by simp) h2) h'.2⟩) (h3.2 i hi)⟩
theorem V_mlit {P : Program} {ops : Array Oper} {rest : List Oper} {o : Oper} {a : Act} {Q : Exit → Act → World → Prop} {W : World} {C : Array Value} {xs : List Int} {n : Nat} {N : Tmp} (hgd : o.guard = none) (_hd : o.dst = some N) (src : Operand) {t e : TypeId}
    (hop : o.op = .convert t t src) (hx : a.eval src = .slice (some ⟨W.heap.size, 0, none⟩) n n) (ht : P.underlying t = some (.slice e)) (he : P.underlying e = some (.int .u8)) (hC : C = (nums .u8 xs).toArray) (hn : xs.length = n) (hm : xs.length ≤ 9223372036854775807)
    (h : ∀ v1 w1, Kd.V (Kd.int .u8) e w1 W.heap.size (fun k => W.heap.size ≤ k) v1 xs → Below W.heap.size W w1 → W.grownBy w1 none → (∃ b, v1.ownBlock = some b ∧ W.heap.size ≤ b) → wpList P ops Q rest (a.put o.dst v1) w1) :
    wpList P ops Q (o :: rest) a (W.alloc (.cells C e)) := by
  subst hn
  have hb : ∀ fr, (W.alloc (.cells C e fr)).heap[W.heap.size]? = some (.cells C e fr) := fun fr => by
    show (W.heap.push (.cells C e fr))[W.heap.size]? = _
    simp
  have hsz : ∀ fr, (W.alloc (.cells C e fr)).heap.size = W.heap.size + 1 := fun fr => by show (W.heap.push _).size = _; simp
  refine Kd.event_run hgd (v := .slice (some ⟨W.heap.size, 0, none⟩) xs.length xs.length) (w1 := W.alloc (.cells C e (C.size, C.size + 1))) ?_ (h _ _ ⟨some ⟨W.heap.size, 0, none⟩, xs.length, rfl, Nat.le_refl _, fun W' hW' => ?_⟩ ((Below.refl _ _).alloc (Nat.le_refl _) _) (World.grownBy_alloc W _ none) ⟨W.heap.size, by simp [Value.ownBlock], Nat.le_refl _⟩)
  · have := Lib.run_convert_bytes_const (P := P) W t e C xs.length xs.length ht he
    unfold execOp
    simp only [hop, hx]
    simp [this]
  · have hk := hW' W.heap.size (Nat.le_refl _) (by rw [hsz]; omega)
    rw [hb] at hk
    subst hC
    exact C_of_block .u8 hk hm

theorem C_string_n {P : Program} {w : World} {src dst e : TypeId} {A : Option Addr} {m n c : Nat} {xs : List Int} (hs : P.underlying src = some (.slice e)) (he : P.underlying e = some (.int .u8)) (hd : P.underlying dst = some .string)
    (h : (Kd.int .u8).C w A n xs) (hn : m = n) : (convert src dst (.slice A m c)).run P w = .ok (.string (strOfNums xs)) w := by
  subst hn; exact Kd.C_string hs he hd h
theorem C_none_nil {α : Type} {d : Kd α} {w : World} {n : Nat} {l : List α} (h : Kd.C d w none n l) : l = [] := by
  obtain ⟨h1, _, h3⟩ := h
  rcases Nat.eq_zero_or_pos n with h0 | h0
  · exact List.length_eq_zero_iff.1 (h1.trans h0)
  · obtain ⟨ad, e, _⟩ := h3 h0
    cases e

theorem info5 : (Try.prog.info? 5).map (fun i => (i.zero, i.size, i.bytes)) = some (some (.int .u8 0), 1, 1) := by kernel_rfl
theorem info24 : (Try.prog.info? 24).map (fun i => (i.zero, i.size, i.bytes)) = some (some (.slice none 0 0), 1, 24) := by kernel_rfl
theorem info28 : (Try.prog.info? 28).map (fun i => (i.zero, i.size, i.bytes)) = some (some (.int .i64 0), 1, 8) := by kernel_rfl
theorem info69 : (Try.prog.info? 69).map (fun i => (i.zero, i.size, i.bytes)) = some (some (.agg #[(.bool false), (.int .u64 0), (.slice none 0 0)]), 3, 40) := by kernel_rfl
-- the values' own types
def rd_L2 (xs : List (List Int)) (i : Int) : (List Int) := xs.getD i.toNat ([] : List Int)
theorem at_L2 {w : World} {A : Option Addr} {n : Nat} {xs : List (List Int)} (h : Kd.C (Kd.slice 5 (Kd.int .u8)) w A n xs) (i : Int) (h0 : 0 ≤ i) (h1 : i < n) : ∃ ad A0 c0, A = some ad ∧ w.cell? (ad.add i.toNat) = some (.slice A0 (rd_L2 xs i).length c0) ∧ (rd_L2 xs i).length ≤ c0 ∧ (Kd.int .u8).C w A0 (rd_L2 xs i).length (rd_L2 xs i) := by
  obtain ⟨ad, c, e, _, hK, hc0⟩ := Kd.C_get h ([] : List Int) i h0 h1
  have hc : ∀ j u, c[j]? = some u → w.cell? (ad.add (i.toNat * 1 + j)) = some u := hc0
  obtain ⟨A0, c0, rfl, l0, g0⟩ := hK
  exact ⟨ad, A0, c0, e, by have hq := hc 0 _ rfl; rwa [Nat.mul_one, Nat.add_zero] at hq, l0, g0⟩

/-! #### struct type 69 -/
structure S69 where
  f0 : Bool
  f1 : Int
  f2 : (List Int)
def z69 : S69 := ⟨false, (0 : Int), ([] : List Int)⟩
def k69 : Kd S69 := Kd.iso (Kd.pair Kd.bool (Kd.pair (Kd.int .u64) (Kd.slice 5 (Kd.int .u8)))) (fun x : S69 => (x.f0, x.f1, x.f2))
theorem k69_heap : Kd.Heap k69 := Kd.heap_iso _ (Kd.heap_pair Kd.heap_bool (Kd.heap_pair (Kd.heap_int .u64) (Kd.heap_slice 5 (Kd.heap_int .u8))))
theorem k69_open {w : World} {x : S69} {cs : List Value} (h : k69.K w x cs) : ∃ A2 c2, cs = [.bool x.f0, .int .u64 x.f1, .slice A2 x.f2.length c2] ∧ x.f2.length ≤ c2 ∧ (Kd.int .u8).C w A2 x.f2.length x.f2 := by
  obtain ⟨_, _, rfl, rfl, ⟨_, _, rfl, rfl, ⟨A2, c2, rfl, l2, g2⟩⟩⟩ := h
  exact ⟨A2, c2, rfl, l2, g2⟩
theorem k69_openM {w : World} {base : Nat} {ok : Nat → Prop} {x : S69} {cs : List Value} (h : k69.M w base ok x cs) : ∃ v2, cs = [.bool x.f0, .int .u64 x.f1, v2] ∧ (Kd.int .u8).R 5 w base ok v2 x.f2 := by
  obtain ⟨_, _, rfl, rfl, ⟨_, _, rfl, rfl, ⟨v2, rfl, g2⟩⟩⟩ := h
  exact ⟨v2, rfl, g2⟩
theorem k69_mk (w : World) (x : S69) {A2 : Option Addr} {c2 : Nat} (l2 : x.f2.length ≤ c2) (g2 : (Kd.int .u8).C w A2 x.f2.length x.f2) : k69.K w x [.bool x.f0, .int .u64 x.f1, .slice A2 x.f2.length c2] := ⟨[.bool x.f0], [.int .u64 x.f1, .slice A2 x.f2.length c2], rfl, rfl, ⟨[.int .u64 x.f1], [.slice A2 x.f2.length c2], rfl, rfl, ⟨A2, c2, rfl, l2, g2⟩⟩⟩
theorem k69_mkM (w : World) (base : Nat) (ok : Nat → Prop) (x : S69) {v2 : Value} (g2 : (Kd.int .u8).R 5 w base ok v2 x.f2) : k69.M w base ok x [.bool x.f0, .int .u64 x.f1, v2] := ⟨[.bool x.f0], [.int .u64 x.f1, v2], rfl, rfl, ⟨[.int .u64 x.f1], [v2], rfl, rfl, ⟨v2, rfl, g2⟩⟩⟩
theorem k69_openF {W : World} {ok : Nat → Prop} {x : S69} {cs : List Value} (h : Kd.FK k69 W ok x cs) : ∃ A2 c2, cs = [.bool x.f0, .int .u64 x.f1, .slice A2 x.f2.length c2] ∧ x.f2.length ≤ c2 ∧ Kd.F (Kd.int .u8) W ok A2 x.f2.length x.f2 := by
  obtain ⟨A2, c2, rfl, l2, _⟩ := k69_open (Kd.FK_now h)
  exact ⟨A2, c2, rfl, l2, (fun W' hW => by obtain ⟨A2_, c2_, he, l2_, g2_⟩ := k69_open (h W' hW); injection (Option.some.inj (show some (Value.slice A2 x.f2.length c2) = some (Value.slice A2_ x.f2.length c2_) from congrArg (fun l => l[2]?) he)) with ha_ _ _; rw [ha_]; exact g2_)⟩
theorem k69_mkF (W : World) (ok : Nat → Prop) (x : S69) {A2 : Option Addr} {c2 : Nat} (l2 : x.f2.length ≤ c2) (g2 : Kd.F (Kd.int .u8) W ok A2 x.f2.length x.f2) : Kd.FK k69 W ok x [.bool x.f0, .int .u64 x.f1, .slice A2 x.f2.length c2] := fun W2 hW => k69_mk W2 x l2 (g2 W2 hW)
def rd_T69 (xs : List S69) (i : Int) : S69 := xs.getD i.toNat z69
theorem at_T69 {w : World} {A : Option Addr} {n : Nat} {xs : List S69} (h : Kd.C k69 w A n xs) (i : Int) (h0 : 0 ≤ i) (h1 : i < n) : ∃ ad A2 c2, A = some ad ∧ w.cell? (ad.add (i.toNat * 3)) = some (.bool (rd_T69 xs i).f0) ∧ w.cell? ⟨(ad.add (i.toNat * 3)).block, (ad.add (i.toNat * 3)).off + 1, none⟩ = some (.int .u64 (rd_T69 xs i).f1) ∧ w.cell? ⟨(ad.add (i.toNat * 3)).block, (ad.add (i.toNat * 3)).off + 2, none⟩ = some (.slice A2 (rd_T69 xs i).f2.length c2) ∧ (rd_T69 xs i).f2.length ≤ c2 ∧ (Kd.int .u8).C w A2 (rd_T69 xs i).f2.length (rd_T69 xs i).f2 := by
  obtain ⟨ad, c, e, _, hK, hc0⟩ := Kd.C_get h z69 i h0 h1
  have hc : ∀ j u, c[j]? = some u → w.cell? (ad.add (i.toNat * 3 + j)) = some u := hc0
  obtain ⟨A2, c2, rfl, l2, g2⟩ := k69_open hK
  exact ⟨ad, A2, c2, e, hc 0 _ rfl, by rw [← add_field _ _ 1 (by omega)]; exact hc 1 _ rfl, by rw [← add_field _ _ 2 (by omega)]; exact hc 2 _ rfl, l2, g2⟩

end Go.Proofs.Ytlaojndlelcdaaa.P
