/- Two strictly sorted rows with the same members are one. -/
import Derived.Test.YtidlldfghkaeeaaDoorPthSort
namespace Go.Proofs.YtidlldfghkaeeaaDoor.P
open Go.RowKit
theorem strict_uniq {l1 l2 : List ByteArray} (h1 : l1.Pairwise (fun a b => leP a b = true ∧ a ≠ b)) (h2 : l2.Pairwise (fun a b => leP a b = true ∧ a ≠ b)) (hm : ∀ x, x ∈ l1 ↔ x ∈ l2) : l1 = l2 := by
  have n1 : l1.Nodup := h1.imp fun h => h.2
  have n2 : l2.Nodup := h2.imp fun h => h.2
  exact List.Perm.eq_of_pairwise (le := fun a b => leP a b = true) (fun _ _ _ _ h1 h2 => leP_anti h1 h2) (h1.imp fun h => h.1) (h2.imp fun h => h.1) ((List.perm_ext_iff_of_nodup n1 n2).2 hm)
/-- What strictly sorted rows of the members that may be come to. -/
theorem srt_uniq {l r : List ByteArray} (h1 : r.Pairwise (fun a b => leP a b = true ∧ a ≠ b)) (hm : ∀ x, x ∈ r ↔ x ∈ l ∧ gd x = true) : r = srt l :=
  strict_uniq h1 (srt_strict l) fun x => (hm x).trans srt_mem.symm
/-- One put in its place, k names ahead of it. -/
theorem put_strict {r : List ByteArray} {x : ByteArray} (k : Nat) (h : r.Pairwise (fun a b => leP a b = true ∧ a ≠ b)) (ha : ∀ y ∈ r.take k, leP y x = true ∧ y ≠ x) (hb : ∀ y ∈ r.drop k, leP x y = true ∧ x ≠ y) : (r.take k ++ x :: r.drop k).Pairwise (fun a b => leP a b = true ∧ a ≠ b) := by
  have h2 := h
  rw [← List.take_append_drop k r, List.pairwise_append] at h2
  rw [List.pairwise_append]
  refine ⟨h2.1, List.pairwise_cons.2 ⟨hb, h2.2.1⟩, fun a hA b hB => ?_⟩
  rcases List.mem_cons.1 hB with rfl | hB
  · exact ha a hA
  · exact h2.2.2 a hA b hB
end Go.Proofs.YtidlldfghkaeeaaDoor.P
