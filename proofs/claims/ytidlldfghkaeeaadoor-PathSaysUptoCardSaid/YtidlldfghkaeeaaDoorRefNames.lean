/- The document's own cut of a path: tallymanref7.names. -/
import Derived.Test.YtidlldfghkaeeaaDoorOrd
import Derived.Test.YtidlldfghkaeeaaDoorOwn53
namespace Go.Proofs.YtidlldfghkaeeaaDoor.P
open Go.RowKit Go.Proofs.YtidlldfghkaeeaaDoorW.PrintWords Go.Proofs.YtidlldfghkaeeaaDoorW.PrintLast
set_option linter.unusedVariables false
set_option linter.unusedSimpArgs false

def mkB (l : List UInt8) : ByteArray := ⟨l.toArray⟩
/-- The names of cur and what follows. -/
def glue (cur rest : List UInt8) : List (List UInt8) := match sp rest with
  | [] => [cur]
  | x :: xs => (cur ++ x) :: xs
theorem glue_slash (cur r : List UInt8) : glue cur (47 :: r) = cur :: glue [] r := by
  unfold glue
  rw [sp_slash]
  obtain ⟨x, xs, e⟩ := List.exists_cons_of_ne_nil (sp_ne r)
  rw [e]
  simp
theorem glue_cons {b : UInt8} (hb : b ≠ 47) (cur r : List UInt8) : glue cur (b :: r) = glue (cur ++ [b]) r := by
  unfold glue
  obtain ⟨x, xs, e⟩ := List.exists_cons_of_ne_nil (sp_ne r)
  rw [sp_cons hb e, e]
  simp
theorem glue_nil (r : List UInt8) : glue [] r = sp r := by
  unfold glue
  obtain ⟨x, xs, e⟩ := List.exists_cons_of_ne_nil (sp_ne r)
  rw [e]
  rfl
theorem ex_mk (s : ByteArray) (a i : Nat) : s.extract a i = mkB ((s.data.toList.take i).drop a) := bext (D_ex s a i)
theorem names_l0 (s : ByteArray) (hs : s.size < 4294967281) : ∀ (d a i k : Nat) (acc : List ByteArray), i + d = s.size → a ≤ i → d + 1 ≤ k → acc.length ≤ i →
    ref7_names.l0 (k + 1) s acc (a : Int) (i : Int) = some (acc ++ (glue ((s.data.toList.take i).drop a) (s.data.toList.drop i)).map mkB)
  | 0, a, i, k, acc, hd, ha, hk, hl => by
    obtain ⟨k, rfl⟩ : ∃ n, k = n + 1 := ⟨k - 1, by omega⟩
    have hw : wrap64 ((i : Int) + 1) = ((i + 1 : Nat) : Int) := by unfold wrap64; omega
    have hdn : s.data.toList.drop i = [] := List.drop_eq_nil_of_le (by rw [← D_size]; omega)
    rw [ref7_names.l0, if_pos (by omega), if_pos (by omega), if_pos (by omega), if_pos (by omega), if_pos (by omega), hw, ref7_names.l0, if_neg (by omega), Int.toNat_natCast, Int.toNat_natCast, ex_mk, hdn]
    congr 2
    simp [glue, sp]
  | d + 1, a, i, k, acc, hd, ha, hk, hl => by
    obtain ⟨k, rfl⟩ : ∃ n, k = n + 1 := ⟨k - 1, by omega⟩
    have hi : i < s.size := by omega
    have hw : wrap64 ((i : Int) + 1) = ((i + 1 : Nat) : Int) := by unfold wrap64; omega
    have hi' : i < s.data.toList.length := by rw [← D_size]; exact hi
    have hb : bt s (i : Int) = ((s.data.toList[i]).toNat : Int) := by
      unfold bt
      rw [dif_pos (by omega)]
      rfl
    have hdr : s.data.toList.drop i = s.data.toList[i] :: s.data.toList.drop (i + 1) := List.drop_eq_getElem_cons hi'
    have htk : s.data.toList.take (i + 1) = s.data.toList.take i ++ [s.data.toList[i]] := by
      rw [List.take_add_one, List.getElem?_eq_getElem hi']
      rfl
    have hsz := D_size s
    rw [ref7_names.l0, if_pos (by omega), if_neg (by omega), if_pos (by omega), if_pos (by omega), hb, hdr]
    generalize s.data.toList[i] = b at *
    by_cases h : b = 47
    · subst h
      rw [if_pos (by decide), if_pos (by omega), if_pos (by omega), if_pos (by omega), hw, names_l0 s hs d (i + 1) (i + 1) k _ (by omega) (Nat.le_refl _) (by omega) (by rw [List.length_append, List.length_singleton]; omega), Int.toNat_natCast, Int.toNat_natCast, ex_mk, glue_slash, List.drop_eq_nil_of_le (show (s.data.toList.take (i + 1)).length ≤ i + 1 by rw [List.length_take]; omega)]
      simp
    · rw [if_neg (fun e => h (u47 e)), hw, names_l0 s hs d a (i + 1) k _ (by omega) (by omega) (by omega) (by omega), glue_cons h, htk, List.drop_append_of_le_length (by rw [List.length_take]; omega)]
theorem names_eq {s : ByteArray} (hs : s.size < 4294967281) {k : Nat} (hk : s.size + 2 ≤ k) : ref7_names.f k s = some ((sp s.data.toList).map mkB) := by
  obtain ⟨k, rfl⟩ : ∃ n, k = n + 1 := ⟨k - 1, by omega⟩
  have h := names_l0 s hs s.size 0 0 k [] (by omega) (Nat.le_refl _) (by omega) (Nat.le_refl _)
  rw [List.drop_zero, List.take_zero, glue_nil, List.nil_append] at h
  exact h
end Go.Proofs.YtidlldfghkaeeaaDoor.P
