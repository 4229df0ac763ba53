/- Written by pp.py, a program of this session over the printer of the kit: what the functions of the program compute, and that they do so; of a law: its row, without a condition. -/
import Derived.Test.YtidlldfghkaeeaaDoorProg
import Derived.Below
import Derived.Deep.Draws
import Derived.Deep.AppendLies
import Derived.Maps.AppendAt
import Derived.OwnWalk
import Derived.Laws.BytesArg
import Derived.Laws.MakeOwn
import Derived.Laws.OwnMore
import Derived.Deep.OwnRows
import Derived.Tactics
import Derived.Lib.ConvBytes
import Derived.Laws.Slices
import Derived.WalkKit
import Derived.KernelRfl
import Derived.RowKit3
import Derived.Deep.LoopGhost
import Derived.Deep.QuietTactic
import Derived.BigQuiet
import Derived.WideLaws
import Derived.Deep.DeepCutAuto
import Derived.Deep.CutBlock
import Derived.Deep.RegionHeld3
import Derived.Laws.Rows
import Derived.Lib.AppendStr
import Derived.ArgAppend
import Derived.Laws.IdiomCopy
import Derived.OrdersHeld
import Derived.Laws.BitsLemmas
import Derived.RowKit
import Derived.Lib.SliceRun
import Derived.Lib.SlBytesConst
import Derived.Test.YtidlldfghkaeeaaDoorRefSort
import Derived.Test.YtidlldfghkaeeaaDoorWWords
import Derived.Test.YtidlldfghkaeeaaDoorWLast
import Derived.Test.YtidlldfghkaeeaaDoorWTab
import Derived.Test.YtidlldfghkaeeaaDoorWFour
import Derived.Test.YtidlldfghkaeeaaDoorWQPut
import Derived.Test.YtidlldfghkaeeaaDoorWApart
import Derived.Test.YtidlldfghkaeeaaDoorWArr
import Derived.Test.YtidlldfghkaeeaaDoorWZeros
import Derived.Test.YtidlldfghkaeeaaDoorWFoot
import Derived.Test.YtidlldfghkaeeaaDoorWKept
import Derived.Test.YtidlldfghkaeeaaDoorWShare
import Derived.Test.YtidlldfghkaeeaaDoorWN
import Derived.Test.YtidlldfghkaeeaaDoorWFootNe
import Derived.Test.YtidlldfghkaeeaaDoorWAt
import Derived.Test.YtidlldfghkaeeaaDoorWEqStruct
import Derived.Test.YtidlldfghkaeeaaDoorWRepsOne
import Derived.Test.YtidlldfghkaeeaaDoorWInv
import Derived.Test.YtidlldfghkaeeaaDoorWInvWords
import Derived.Test.YtidlldfghkaeeaaDoorWGuard
import Derived.Test.YtidlldfghkaeeaaDoorWNEv
import Derived.Test.YtidlldfghkaeeaaDoorWMore
namespace Go.Proofs.YtidlldfghkaeeaaDoor.P
open Go.RowKit Go.Proofs.YtidlldfghkaeeaaDoorW.PrintWords Go.Proofs.YtidlldfghkaeeaaDoorW.PrintLast Go.Proofs.YtidlldfghkaeeaaDoorW.PrintMore
attribute [local go_sem] max2_int min2_int max_two min_two max_three min_three max_four min_four   -- for this text's walks alone
set_option linter.unusedVariables false
set_option linter.unusedSimpArgs false



def errW : Option Int → Value
  | none => .nilIface
  | some c => .iface 0 (.int .i64 c)
theorem errW_none : errW none = .nilIface := rfl
theorem errW_some (c : Int) : errW (some c) = .iface 0 (.int .i64 c) := rfl


theorem C_of_block {W : World} {g : Nat} {xs : List Int} {e : TypeId} {fr : Nat × Nat} (k : IntKind) (h : W.heap[g]? = some (.cells (nums k xs).toArray e fr)) (hm : xs.length ≤ 9223372036854775807) :
    (Kd.int k).C W (some ⟨g, 0, none⟩) xs.length xs := by
  refine Kd.C_of_reads (d := (0 : Int)) (h1 := fun _ => rfl) ?_
  refine ⟨rfl, hm, fun _ => ⟨_, rfl, fun j hj => ?_⟩⟩
  have ha : ((⟨g, 0, none⟩ : Addr).add j) = ⟨g, j, none⟩ := by
    unfold Addr.add
    by_cases h0 : j = 0
    · subst h0; simp
    · simp [h0]
  rw [ha]
  simp [World.cell?, h, nums, List.getElem?_eq_getElem hj]
theorem more_ {P : Program} {ops : Array Oper} {Q : Exit → Act → World → Prop} {md : Region.Mode} {S : World → Prop} {fuel : Nat} {l : Array Bool} {a : Act} {w : World} (S2 : World → Prop) (h21 : ∀ w, S2 w → S w) (h2 : S2 w)
    (h : S2 w → wpAnyLast P md ops Q S2 [] fuel l a w) : wpAnyLast P md ops Q S [] fuel l a w := by
  have h3 := h h2
  clear h
  induction fuel generalizing l a w with
  | zero => exact h3
  | succ fuel ih => exact ⟨h3.1, fun i hi => wpOp_mono (fun a' w' h' => ⟨fun _ _ => h21 _ (h'.1 (by simp) h2), ih (h'.1 (by simp) h2) h'.2⟩) (h3.2 i hi)⟩
theorem V_mlit {P : Program} {ops : Array Oper} {rest : List Oper} {o : Oper} {a : Act} {Q : Exit → Act → World → Prop} {W : World} {C : Array Value} {xs : List Int} {n : Nat} {N : Tmp} (hgd : o.guard = none) (_hd : o.dst = some N) (src : Operand) {t e : TypeId}
    (hop : o.op = .convert t t src) (hx : a.eval src = .slice (some ⟨W.heap.size, 0, none⟩) n n) (ht : P.underlying t = some (.slice e)) (he : P.underlying e = some (.int .u8)) (hC : C = (nums .u8 xs).toArray) (hn : xs.length = n) (hm : xs.length ≤ 9223372036854775807)
    (h : ∀ v1 w1, Kd.V (Kd.int .u8) e w1 W.heap.size (fun k => W.heap.size ≤ k) v1 xs → Below W.heap.size W w1 → W.grownBy w1 none → (∃ b, v1.ownBlock = some b ∧ W.heap.size ≤ b) → wpList P ops Q rest (a.put o.dst v1) w1) :
    wpList P ops Q (o :: rest) a (W.alloc (.cells C e)) := by
  subst hn
  have hb : ∀ fr, (W.alloc (.cells C e fr)).heap[W.heap.size]? = some (.cells C e fr) := fun fr => by
    show (W.heap.push (.cells C e fr))[W.heap.size]? = _
    simp
  have hsz : ∀ fr, (W.alloc (.cells C e fr)).heap.size = W.heap.size + 1 := fun fr => by show (W.heap.push _).size = _; simp
  refine Kd.event_run hgd (v := .slice (some ⟨W.heap.size, 0, none⟩) xs.length xs.length) (w1 := W.alloc (.cells C e (C.size, C.size + 1))) ?_ (h _ _ ⟨some ⟨W.heap.size, 0, none⟩, xs.length, rfl, Nat.le_refl _, fun W' hW' => ?_⟩ ((Below.refl _ _).alloc (Nat.le_refl _) _) (World.grownBy_alloc W _ none) ⟨W.heap.size, by simp [Value.ownBlock], Nat.le_refl _⟩)
  · have := Lib.run_convert_bytes_const (P := P) W t e C xs.length xs.length ht he
    unfold execOp
    simp only [hop, hx]
    simp [this]
  · have hk := hW' W.heap.size (Nat.le_refl _) (by rw [hsz]; omega)
    rw [hb] at hk
    subst hC
    exact C_of_block .u8 hk hm

theorem C_string_n {P : Program} {w : World} {src dst e : TypeId} {A : Option Addr} {m n c : Nat} {xs : List Int} (hs : P.underlying src = some (.slice e)) (he : P.underlying e = some (.int .u8)) (hd : P.underlying dst = some .string)
    (h : (Kd.int .u8).C w A n xs) (hn : m = n) : (convert src dst (.slice A m c)).run P w = .ok (.string (strOfNums xs)) w := by
  subst hn; exact Kd.C_string hs he hd h
theorem C_none_nil {α : Type} {d : Kd α} {w : World} {n : Nat} {l : List α} (h : Kd.C d w none n l) : l = [] := by
  obtain ⟨h1, _, h3⟩ := h
  rcases Nat.eq_zero_or_pos n with h0 | h0
  · exact List.length_eq_zero_iff.1 (h1.trans h0)
  · obtain ⟨ad, e, _⟩ := h3 h0
    cases e

-- the values' own types

end Go.Proofs.YtidlldfghkaeeaaDoor.P
