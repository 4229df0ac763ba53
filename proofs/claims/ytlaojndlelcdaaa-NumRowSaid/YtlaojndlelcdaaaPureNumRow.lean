/- NumRow is true of every list of numbers of 64 bits: written one behind the other they are read one behind the other. No condition. -/
import Derived.Test.YtlaojndlelcdaaaPx2
import Derived.Test.YtlaojndlelcdaaaNum
namespace Go.Proofs.Ytlaojndlelcdaaa.Pure
open Go.RowKit Go.Proofs.Ytlaojndlelcdaaa.P Go.Proofs.YtlaojndlelcdaaaW.PrintWords Go.Proofs.YtlaojndlelcdaaaW.PrintLast Go.Proofs.YtlaojndlelcdaaaW.PrintMore
set_option linter.unusedVariables false
set_option linter.unusedSimpArgs false

def encs (l : List Int) : List Int := (l.map (enc 9)).flatten
theorem encs_snoc (l : List Int) (v : Int) : encs (l ++ [v]) = encs l ++ enc 9 v := by simp [encs]
theorem encs_cons (l : List Int) (v : Int) : encs (v :: l) = enc 9 v ++ encs l := by simp [encs]
def U64s (l : List Int) : Prop := ∀ x ∈ l, 0 ≤ x ∧ x < 18446744073709551616
theorem encs_bytes (l : List Int) (h : U64s l) : Bytes (encs l) := by
  induction l with
  | nil => exact Bytes.nil
  | cons v l ih =>
    rw [encs_cons]
    exact (enc9_bytes (h v (by simp)).1 (h v (by simp)).2).append (ih fun x hx => h x (by simp [hx]))
theorem encs_len (l : List Int) : (encs l).length ≤ 10 * l.length := by
  induction l with
  | nil => simp [encs]
  | cons v l ih => rw [encs_cons]; have := (enc_len 9 v).2; simp; omega

theorem row1 (l : List Int) (hl : U64s l) (h100 : l.length ≤ 100) (d : Nat) : ∀ (i k : Nat), i + d = l.length → d + 40 < k → tallymanlaw4_NumRow.l1 k l (encs (l.drop i)) (i : Int) = some true := by
  induction d with
  | zero =>
    intro i k hi hk
    obtain ⟨k, rfl⟩ : ∃ m, k = m + 1 := ⟨k - 1, by omega⟩
    simp only [tallymanlaw4_NumRow.l1]
    rw [if_neg (by omega), List.drop_of_length_le (by omega)]
    simp [encs]
  | succ d ih =>
    intro i k hi hk
    obtain ⟨k, rfl⟩ : ∃ m, k = m + 1 := ⟨k - 1, by omega⟩
    have hlt : i < l.length := by omega
    obtain ⟨v0, v1⟩ := hl l[i] (List.getElem_mem hlt)
    have hd : U64s (l.drop (i + 1)) := fun x hx => hl x (List.mem_of_mem_drop hx)
    have hel := enc_len 9 l[i]
    have htl := encs_len (l.drop (i + 1))
    simp only [tallymanlaw4_NumRow.l1]
    rw [if_pos (by omega), drop_cons l i hlt, encs_cons, get_eq _ ((enc9_bytes v0 v1).append (encs_bytes _ hd)) k (by omega), get_put _ _ v0 v1]
    simp only [Option.bind_some]
    have hle : ((enc 9 l[i]).length : Int) ≤ ((enc 9 l[i] ++ encs (l.drop (i + 1))).length : Int) := by simp; omega
    rw [if_pos trivial, if_pos (by omega), rd_eq l i hlt, if_pos rfl, if_neg (by omega), if_neg (by omega), if_pos (by omega), if_pos hle]
    have e : wrap64 ((i : Int) + 1) = ((i + 1 : Nat) : Int) := by unfold wrap64; omega
    rw [Int.toNat_natCast, List.drop_left, e]
    exact ih (i + 1) k (by omega) (by omega)
theorem row0 (l : List Int) (hl : U64s l) (h100 : l.length ≤ 100) (d : Nat) : ∀ (i k : Nat), i + d = l.length → d + 150 < k → tallymanlaw4_NumRow.l0 k l (encs (l.take i)) ((encs (l.take i)).length : Int) (i : Int) = some true := by
  induction d with
  | zero =>
    intro i k hi hk
    obtain ⟨k, rfl⟩ : ∃ m, k = m + 1 := ⟨k - 1, by omega⟩
    simp only [tallymanlaw4_NumRow.l0]
    rw [if_neg (by omega), if_pos trivial, List.take_of_length_le (by omega)]
    have := row1 l hl h100 l.length 0 k (by omega) (by omega)
    simpa using this
  | succ d ih =>
    intro i k hi hk
    obtain ⟨k, rfl⟩ : ∃ m, k = m + 1 := ⟨k - 1, by omega⟩
    have hlt : i < l.length := by omega
    obtain ⟨v0, v1⟩ := hl l[i] (List.getElem_mem hlt)
    have hel := enc_len 9 l[i]
    have htl := encs_len (l.take i)
    have htl2 : (l.take i).length ≤ 100 := by simp; omega
    simp only [tallymanlaw4_NumRow.l0]
    rw [if_pos (by omega), if_pos (by omega), rd_eq l i hlt, put_eq _ _ k v0 v1 (by omega) (by omega), size_eq _ k v0 v1 (by omega)]
    simp only [Option.bind_some]
    have e : wrap64 ((i : Int) + 1) = ((i + 1 : Nat) : Int) := by unfold wrap64; omega
    have et : l.take (i + 1) = l.take i ++ [l[i]] := by rw [List.take_succ_eq_append_getElem hlt]
    have e2 : wrap64 (((encs (l.take i)).length : Int) + ((enc 9 l[i]).length : Int)) = ((encs (l.take (i + 1))).length : Int) := by
      rw [et, encs_snoc, List.length_append]
      unfold wrap64
      omega
    have e3 : encs (l.take i) ++ enc 9 l[i] = encs (l.take (i + 1)) := by rw [et, encs_snoc]
    rw [e, e2, e3]
    exact ih (i + 1) k (by omega) (by omega)

theorem NumRow : tallymanlaw4_NumRow.Pure := by
  intro l _ _ hw
  have hl : U64s l := fun x hx => wf_u64 (hw x hx)
  refine ⟨400, ?_⟩
  simp only [tallymanlaw4_NumRow.f]
  rw [awake_ok 400 (by omega), Option.bind_some, if_pos rfl]
  by_cases h : (l.length : Int) > 100
  · rw [if_pos h]
  · rw [if_neg h]
    have := row0 l hl (by omega) l.length 0 400 (by omega) (by omega)
    simpa [encs] using this
end Go.Proofs.Ytlaojndlelcdaaa.Pure
