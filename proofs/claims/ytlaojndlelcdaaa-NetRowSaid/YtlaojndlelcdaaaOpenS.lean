/- Arguments as a row reads them, with what the row's own reach says of their sizes: a type at a time. -/
import Derived.Test.YtlaojndlelcdaaaOpens
import Derived.SizedLaws
namespace Go.Proofs.YtlaojndlelcdaaaW.PrintWords
open Go.RowKit

/-- As Opn; the reach bears on all that the value weighs. -/
structure OpnS {α : Type} (P : Program) (t : TypeId) (d : Kd α) (ok : α → Prop) : Prop where
  sz : P.cellsOf t = d.sz
  opens : ∀ {H : Type} {enc : TypeId × Value → H} {W : World} {base : Nat} {spare : Nat → Bool} {held : Bool} {fuel : Nat} {cs : List Value} {x : DataW H × List MemPlace}, DataW.trod enc P W base spare held fuel t cs = some x → (∀ n ∈ x.1.weights P t, n ≤ reachBytes) → ∃ y, d.K W y cs ∧ ok y
theorem Opn.S {α : Type} {P : Program} {t : TypeId} {d : Kd α} {ok : α → Prop} (h : Opn P t d ok) : OpnS P t d ok := ⟨h.sz, fun hf _ => h.opens hf⟩
theorem OpnS.string {P : Program} {t : TypeId} (ht : P.underlying t = some .string) (hc : P.cellsOf t = 1) : OpnS P t Kd.string (fun s => s.size ≤ 140737488351232) :=
  ⟨hc, fun hf hw => by
    obtain ⟨n, rfl, hx, _⟩ := DataW.trod_string ht hf
    refine ⟨n, rfl, ?_⟩
    subst hx
    have := hw _ (by simp [DataW.weights]; rfl)
    simpa [reachBytes] using this⟩
theorem weightsAll_mem {H : Type} {P : Program} {e : TypeId} : ∀ {l : List (DataW H)} {d : DataW H}, d ∈ l → ∀ n ∈ d.weights P e, n ∈ DataW.weightsAll P e l
  | d' :: r, d, hd, n, hn => by
    simp only [DataW.weightsAll, List.mem_append]
    rcases List.mem_cons.1 hd with h | h
    · exact .inl (h ▸ hn)
    · exact .inr (weightsAll_mem h n hn)
theorem OpnS.slice {α : Type} {P : Program} {t e : TypeId} {d : Kd α} {ok : α → Prop} (ht : P.underlying t = some (.slice e)) (hc : P.cellsOf t = 1) (he : OpnS P e d ok) :
    OpnS P t (Kd.slice e d) (fun xs => xs.length * P.bytesOf e ≤ 140737488351232 ∧ xs.length ≤ maxLen ∧ ∀ x ∈ xs, ok x) := by
  refine ⟨hc, fun hf hw => ?_⟩
  rcases DataW.trod_slice ht hf with ⟨rfl, _⟩ | ⟨a, len, cap, elems, rest, n, _, rfl, hxe, hb, hl, hm, hel, hget, _, _⟩
  · exact ⟨[], ⟨none, 0, rfl, Nat.le_refl _, Kd.C_nil _ _⟩, by simp, Nat.zero_le _, fun x hx => by cases hx⟩
  · subst hxe
    simp only [DataW.weights, ht, List.mem_cons, List.mem_append] at hw
    obtain ⟨xs, hxl, hxs⟩ := choose_list (fun i x => ok x ∧ ∃ c, c.length = d.sz ∧ d.K _ x c ∧ ∀ j u, c[j]? = some u → World.cell? _ (a.add (i * d.sz + j)) = some u) len (fun i hi => by
      have h1 := hget i hi
      rw [List.getElem?_eq_getElem (by omega)] at h1
      obtain ⟨c, h2, h3⟩ := Option.bind_eq_some_iff.1 h1
      obtain ⟨y, hy, hok⟩ := he.opens h3 (fun m hm' => hw m (.inr (.inl (weightsAll_mem (List.mem_map_of_mem (List.getElem_mem _)) m hm'))))
      obtain ⟨_, hcl, hcc⟩ := World.cells?_some h2
      rw [he.sz] at hcl hcc
      refine ⟨y, hok, c, hcl, hy, fun j u hu => ?_⟩
      have hj : j < d.sz := by rw [← hcl]; exact (List.getElem?_eq_some_iff.1 hu).1
      have := hcc j hj
      rw [add_add] at this
      rw [this, hu])
    refine ⟨xs, ⟨some a, cap, by rw [hxl], by omega, hxl ▸ rfl, ?_, fun _ => ⟨a, rfl, fun j p hp => ?_⟩⟩, ?_, ?_, fun x hx => ?_⟩
    · simp only [maxLen] at hm; omega
    · obtain ⟨_, c, h1, h2, h3⟩ := hxs j p hp
      exact ⟨c, h1, h2, h3⟩
    · have h1 := hw _ (.inl rfl)
      rw [List.length_map, hel, ← hxl] at h1
      refine Nat.le_trans (Nat.mul_le_mul_right _ (Nat.le_add_right _ _)) h1
    · omega
    · obtain ⟨i, hi⟩ := List.getElem?_of_mem hx
      exact (hxs i x hi).1
end Go.Proofs.YtlaojndlelcdaaaW.PrintWords
