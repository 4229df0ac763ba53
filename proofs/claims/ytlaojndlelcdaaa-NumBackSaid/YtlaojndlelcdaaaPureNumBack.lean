/- NumBack is true of every number and all bytes: what is written is read, whatever stands behind; cut short it is told; a number has one writing alone. No condition. -/
import Derived.Test.YtlaojndlelcdaaaPx5
import Derived.Test.YtlaojndlelcdaaaFold
namespace Go.Proofs.Ytlaojndlelcdaaa.Pure
open Go.RowKit Go.Proofs.Ytlaojndlelcdaaa.P Go.Proofs.YtlaojndlelcdaaaW.PrintWords Go.Proofs.YtlaojndlelcdaaaW.PrintLast Go.Proofs.YtlaojndlelcdaaaW.PrintMore
set_option linter.unusedVariables false
set_option linter.unusedSimpArgs false

/-- Bytes, and how many there are ahead. -/
def encB (p : List Int) : List Int := enc 9 (p.length : Int) ++ p
theorem putBytes_eq (l p : List Int) (k : Nat) (hk : 10 ≤ k) (hl : l.length ≤ 140737488300000) (hp : p.length ≤ 10000) : num_PutBytes.f k l p = some (l ++ encB p) := by
  simp only [num_PutBytes.f]
  have hel := enc_len 9 (p.length : Int)
  rw [IntKind.wrap_u64, show (p.length : Int) % 18446744073709551616 = p.length by omega, put_eq l p.length k (by omega) (by omega) hk (by omega), Option.bind_some, if_pos (by simp; omega)]
  simp [encB]
theorem getBytes_ok (p rest : List Int) (k : Nat) (hk : 40 ≤ k) (hp : p.length ≤ 10000) (hpb : Bytes p) (hrb : Bytes rest) (hr : rest.length ≤ 1000000) :
    num_GetBytes.f k (encB p ++ rest) (p.length : Int) = some (p, ((encB p).length : Int), 0) := by
  simp only [num_GetBytes.f, encB]
  have hel := enc_len 9 (p.length : Int)
  have hb : Bytes (enc 9 (p.length : Int)) := enc9_bytes (by omega) (by omega)
  rw [List.append_assoc, get_eq _ (hb.append (hpb.append hrb)) k (by omega), get_put _ _ (by omega) (by omega), Option.bind_some]
  dsimp only
  rw [if_pos rfl, if_neg (by omega), IntKind.wrap_u64, show (p.length : Int) % 18446744073709551616 = p.length by omega, decide_eq_false (by omega)]
  obtain ⟨k, rfl⟩ : ∃ m, k = m + 1 := ⟨k - 1, by omega⟩
  simp only [num_GetBytes.j0]
  have e1 : wrap64 (p.length : Int) = p.length := by unfold wrap64; omega
  have e2 : wrap64 (((enc 9 (p.length : Int)).length : Int) + (p.length : Int)) = (((enc 9 (p.length : Int)).length + p.length : Nat) : Int) := by unfold wrap64; omega
  have e3 : ((enc 9 (p.length : Int) ++ (p ++ rest)).length : Int) = ((enc 9 (p.length : Int)).length : Int) + p.length + rest.length := by simp; omega
  have e4 : wrap64 (((enc 9 (p.length : Int) ++ (p ++ rest)).length : Int) - ((enc 9 (p.length : Int)).length : Int)) = p.length + rest.length := by rw [e3]; unfold wrap64; omega
  rw [if_neg (by simp), e4, IntKind.wrap_u64, if_neg (by omega), if_pos (by omega), e1, e2, if_pos (by omega), e3, if_pos (by omega), Int.toNat_natCast, Int.toNat_natCast]
  rw [← List.append_assoc, List.take_append_of_le_length (by simp), show (enc 9 (p.length : Int)).length + p.length = (enc 9 (p.length : Int) ++ p).length by simp, List.take_length, List.drop_left, clone_eq p (by omega)]
  simp
theorem back0 (v : Int) (v0 : 0 ≤ v) (v1 : v < 18446744073709551616) (rest : List Int) (hrb : Bytes rest) (hr : rest.length ≤ 1000) (d : Nat) : ∀ (i k : Nat), i + d = (enc 9 v).length → d + 40 < k → tallymanlaw4_NumBack.l0 k rest (enc 9 v) (i : Int) = some true := by
  have hb : Bytes (enc 9 v) := enc9_bytes v0 v1
  have hel := enc_len 9 v
  induction d with
  | zero =>
    intro i k hi hk
    obtain ⟨k, rfl⟩ : ∃ m, k = m + 1 := ⟨k - 1, by omega⟩
    simp only [tallymanlaw4_NumBack.l0]
    rw [if_neg (by omega), get_eq rest hrb k (by omega), Option.bind_some]
    by_cases c : (dec 10 0 0 rest).2.2 = 0
    · obtain ⟨u, u0, u1, e, hle, ht⟩ := get_back rest hrb c
      rw [if_pos c, e]
      dsimp only
      rw [if_pos (by omega), put_eq [] u k u0 u1 (by omega) (by simp), Option.bind_some, if_pos (by omega), Int.toNat_natCast, ht, List.nil_append]
      simp
    · rw [if_neg c]
  | succ d ih =>
    intro i k hi hk
    obtain ⟨k, rfl⟩ : ∃ m, k = m + 1 := ⟨k - 1, by omega⟩
    simp only [tallymanlaw4_NumBack.l0]
    rw [if_pos (by omega), if_pos (by omega), if_pos (by omega), Int.toNat_natCast, get_eq _ (hb.take i) k (by omega), Option.bind_some, get_cut v i v0 v1 (by omega)]
    dsimp only
    rw [if_pos rfl, show wrap64 ((i : Int) + 1) = ((i + 1 : Nat) : Int) by unfold wrap64; omega]
    exact ih (i + 1) k (by omega) (by omega)
theorem NumBack : tallymanlaw4_NumBack.Pure := by
  intro v p rest hv _ _ hp _ _ hr
  obtain ⟨v0, v1⟩ := wf_u64 hv
  have hpb : Bytes p := fun x hx => wf_u8 (hp x hx)
  have hrb : Bytes rest := fun x hx => wf_u8 (hr x hx)
  refine ⟨102, ?_⟩
  simp only [tallymanlaw4_NumBack.f]
  rw [awake_ok 102 (by omega), Option.bind_some, if_pos rfl]
  by_cases c1 : (p.length : Int) > 1000
  · rw [if_pos c1, tallymanlaw4_NumBack.j0, if_pos rfl]
  · rw [if_neg c1, tallymanlaw4_NumBack.j0]
    by_cases c2 : (rest.length : Int) > 1000
    · rw [if_pos (decide_eq_true c2)]
    · rw [if_neg (by simpa using c2)]
      have hb : Bytes (enc 9 v) := enc9_bytes v0 v1
      have hel := enc_len 9 v
      have hel2 := enc_len 9 (p.length : Int)
      have hB : (encB p).length = (enc 9 (p.length : Int)).length + p.length := by simp [encB]
      rw [put_eq [] v 101 v0 v1 (by omega) (by simp), Option.bind_some, Option.bind_some, if_pos (by simp; omega), Option.bind_some, List.nil_append, List.nil_append, if_pos (by omega), get_eq _ (hb.append hrb) 101 (by omega), Option.bind_some, get_put v rest v0 v1,
        putBytes_eq [] p 101 (by omega) (by simp) (by omega), Option.bind_some, List.nil_append, Option.bind_some, if_pos (by simp; omega), Option.bind_some, List.nil_append, if_pos (by omega), getBytes_ok p rest 101 (by omega) (by omega) hpb hrb (by omega), Option.bind_some]
      dsimp only
      rw [if_pos rfl, if_pos rfl, if_pos rfl, if_pos rfl, if_pos rfl, if_pos rfl, size_eq v 101 v0 v1 (by omega), Option.bind_some, if_pos rfl]
      have w0 : -9223372036854775808 ≤ wrap64 v ∧ wrap64 v < 9223372036854775808 := by unfold wrap64; omega
      obtain ⟨f0, f1⟩ := fold_range _ w0.1 w0.2
      rw [fold_eq _ w0.1 w0.2, Option.bind_some, open_eq _ f0 f1, Option.bind_some, unfold_fold, tallymanlaw4_NumBack.j1, if_neg (by simp)]
      exact back0 v v0 v1 rest hrb (by omega) (enc 9 v).length 0 100 (by omega) (by omega)
end Go.Proofs.Ytlaojndlelcdaaa.Pure
