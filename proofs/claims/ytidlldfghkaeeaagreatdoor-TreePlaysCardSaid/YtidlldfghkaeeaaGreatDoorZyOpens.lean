/- Put together by pack2.py: Opens -/
import Derived.Test.YtidlldfghkaeeaaGreatDoorZyW0
import Derived.ChangeArms
import Derived.DataReads
import Derived.ChangeOld
set_option linter.unusedVariables false
set_option linter.unusedSimpArgs false
set_option maxHeartbeats 8000000
set_option maxRecDepth 100000
namespace Go.Proofs.YtidlldfghkaeeaaGreatDoorW.PrintWords
open Go.RowKit
structure Opn {α : Type} (P : Program) (t : TypeId) (d : Kd α) (ok : α → Prop) : Prop where
 sz : P.cellsOf t = d.sz
 opens : ∀ {H : Type} {enc : TypeId × Value → H} {W : World} {base : Nat} {spare : Nat → Bool} {held : Bool} {fuel : Nat} {cs : List Value} {x : DataW H × List MemPlace}, DataW.trod enc P W base spare held fuel t cs = some x → ∃ y, d.K W y cs ∧ ok y
theorem Opn.int {P : Program} {t : TypeId} {k : IntKind} (ht : P.underlying t = some (.int k)) (hc : P.cellsOf t = 1) : Opn P t (Kd.int k) (fun n => (Lit.int k n).wf = true) :=
 ⟨hc, fun hf => by obtain ⟨n, rfl, _, hw⟩ := DataW.trod_int ht hf; exact ⟨n, rfl, hw⟩⟩
theorem Opn.string {P : Program} {t : TypeId} (ht : P.underlying t = some .string) (hc : P.cellsOf t = 1) : Opn P t Kd.string (fun s => s.size ≤ maxLen) :=
 ⟨hc, fun hf => by obtain ⟨n, rfl, _, hw⟩ := DataW.trod_string ht hf; exact ⟨n, rfl, hw⟩⟩
theorem choose_list {α : Type} (R : Nat → α → Prop) : ∀ n : Nat, (∀ i, i < n → ∃ x, R i x) → ∃ xs : List α, xs.length = n ∧ ∀ i x, xs[i]? = some x → R i x
 | 0, _ => ⟨[], rfl, fun i x h => by simp at h⟩
 | n + 1, h => by
  obtain ⟨xs, hl, hx⟩ := choose_list R n (fun i hi => h i (by omega))
  obtain ⟨x, hxn⟩ := h n (by omega)
  refine ⟨xs ++ [x], by simp [hl], fun i y hy => ?_⟩
  by_cases hi : i < xs.length
  ·rw [List.getElem?_append_left hi] at hy
   exact hx i y hy
  ·rw [List.getElem?_append_right (by omega)] at hy
   have : i - xs.length = 0 := by
    have := (List.getElem?_eq_some_iff.1 hy).1
    simp at this
    omega
   rw [this] at hy
   simp at hy
   subst hy
   rw [show i = n by omega]
   exact hxn
theorem Opn.slice {α : Type} {P : Program} {t e : TypeId} {d : Kd α} {ok : α → Prop} (ht : P.underlying t = some (.slice e)) (hc : P.cellsOf t = 1) (he : Opn P e d ok) :
  Opn P t (Kd.slice e d) (fun xs => xs.length ≤ maxLen ∧ ∀ x ∈ xs, ok x) := by
 refine ⟨hc, fun hf => ?_⟩
 rcases DataW.trod_slice ht hf with ⟨rfl, _⟩ | ⟨a, len, cap, elems, rest, n, _, rfl, _, hb, hl, hm, hel, hget, _, _⟩
 ·exact ⟨[], ⟨none, 0, rfl, Nat.le_refl _, Kd.C_nil _ _⟩, Nat.zero_le _, fun x hx => by cases hx⟩
 ·obtain ⟨xs, hxl, hxs⟩ := choose_list (fun i x => ok x ∧ ∃ c, c.length = d.sz ∧ d.K _ x c ∧ ∀ j u, c[j]? = some u → World.cell? _ (a.add (i * d.sz + j)) = some u) len (fun i hi => by
   have h1 := hget i hi
   rw [List.getElem?_eq_getElem (by omega)] at h1
   obtain ⟨c, h2, h3⟩ := Option.bind_eq_some_iff.1 h1
   obtain ⟨y, hy, hok⟩ := he.opens h3
   obtain ⟨_, hcl, hcc⟩ := World.cells?_some h2
   rw [he.sz] at hcl hcc
   refine ⟨y, hok, c, hcl, hy, fun j u hu => ?_⟩
   have hj : j < d.sz := by rw [← hcl]; exact (List.getElem?_eq_some_iff.1 hu).1
   have := hcc j hj
   rw [add_add] at this
   rw [this, hu])
  refine ⟨xs, ⟨some a, cap, by rw [hxl], by omega, hxl ▸ rfl, ?_, fun _ => ⟨a, rfl, fun j p hp => ?_⟩⟩, ?_, fun x hx => ?_⟩
  ·simp only [maxLen] at hm; omega
  ·obtain ⟨_, c, h1, h2, h3⟩ := hxs j p hp
   exact ⟨c, h1, h2, h3⟩
  ·omega
  ·obtain ⟨i, hi⟩ := List.getElem?_of_mem hx
   exact (hxs i x hi).1
theorem pairK {α β : Type} {a : Kd α} {b : Kd β} {W : World} {x : α} {y : β} {cs : List Value} {o s : Nat} (_hs : s = a.sz) (h0 : a.K W x ((cs.drop o).take s)) (h1 : b.K W y (cs.drop (o + s))) : (Kd.pair a b).K W (x, y) (cs.drop o) :=
 ⟨(cs.drop o).take s, cs.drop (o + s), by rw [← List.drop_drop, List.take_append_drop], h0, h1⟩
theorem lastK {α : Type} {a : Kd α} {W : World} {x : α} {cs : List Value} {o s : Nat} (h : a.K W x ((cs.drop o).take s)) (hl : cs.length = o + s) : a.K W x (cs.drop o) := by
 rwa [List.take_of_length_le (by simp; omega)] at h
end Go.Proofs.YtidlldfghkaeeaaGreatDoorW.PrintWords
