/- What the references of chapters 3 and 20 compute: as poly and frame do. -/
import Derived.Test.YtlaojndlelcdaaaPx17
import Derived.Test.YtlaojndlelcdaaaPx18
import Derived.Test.YtlaojndlelcdaaaPx19
import Derived.Test.YtlaojndlelcdaaaPx20
import Derived.Test.YtlaojndlelcdaaaFrAwake
import Derived.Test.YtlaojndlelcdaaaRefNum
namespace Go.Proofs.Ytlaojndlelcdaaa.Pure
open Go.RowKit Go.Proofs.Ytlaojndlelcdaaa.P Go.Proofs.YtlaojndlelcdaaaW.PrintWords Go.Proofs.YtlaojndlelcdaaaW.PrintLast Go.Proofs.YtlaojndlelcdaaaW.PrintMore
set_option linter.unusedVariables false
set_option linter.unusedSimpArgs false

theorem ref_l1 (l : List Int) (i : Nat) (d : Nat) : ∀ (j : Nat) (c : Int) (k : Nat), j + d = 8 → d < k → tallymanref1_Crc.l1 k c l (i : Int) (j : Int) = tallymanref1_Crc.l0 (k - d - 1) (shifts d c) l (wrap64 ((i : Int) + 1)) := by
  induction d with
  | zero =>
    intro j c k hj hk
    obtain ⟨k, rfl⟩ : ∃ m, k = m + 1 := ⟨k - 1, by omega⟩
    simp only [tallymanref1_Crc.l1, shifts]
    rw [if_neg (by omega)]
    simp
  | succ d ih =>
    intro j c k hj hk
    obtain ⟨k, rfl⟩ : ∃ m, k = m + 1 := ⟨k - 1, by omega⟩
    simp only [tallymanref1_Crc.l1, shifts]
    rw [if_pos (by omega), show wrap64 ((j : Int) + 1) = ((j + 1 : Nat) : Int) by unfold wrap64; omega]
    unfold shiftI
    by_cases b : Go.bits .and .u32 c 1 = 1
    · rw [if_pos b, if_pos b, ih (j + 1) _ k (by omega) (by omega)]
      congr 1
      omega
    · rw [if_neg b, if_neg b, ih (j + 1) _ k (by omega) (by omega)]
      congr 1
      omega
theorem ref_l0 (l : List Int) (hl : l.length ≤ 1000000000) (d : Nat) : ∀ (i : Nat) (c : Int) (k : Nat), i + d = l.length → 10 * d < k → tallymanref1_Crc.l0 k c l (i : Int) = some (Go.bits .xor .u32 4294967295 (crcRun c (l.drop i))) := by
  induction d with
  | zero =>
    intro i c k hi hk
    obtain ⟨k, rfl⟩ : ∃ m, k = m + 1 := ⟨k - 1, by omega⟩
    simp only [tallymanref1_Crc.l0]
    rw [if_neg (by omega), List.drop_of_length_le (by omega)]
    rfl
  | succ d ih =>
    intro i c k hi hk
    obtain ⟨k, rfl⟩ : ∃ m, k = m + 1 := ⟨k - 1, by omega⟩
    have hlt : i < l.length := by omega
    simp only [tallymanref1_Crc.l0]
    rw [if_pos (by omega), if_pos (by omega), rd_eq l i hlt]
    have := ref_l1 l i 8 0 (Go.bits .xor .u32 c (l[i] % 4294967296)) k (by omega) (by omega)
    rw [show ((0 : Nat) : Int) = 0 from rfl] at this
    rw [this, show wrap64 ((i : Int) + 1) = ((i + 1 : Nat) : Int) by unfold wrap64; omega, ih (i + 1) _ _ (by omega) (by omega), drop_cons l i hlt]
    rfl
theorem ref_crc_eq (c : Int) (l : List Int) (k : Nat) (hl : l.length ≤ 1000000000) (hk : 10 * l.length < k) : tallymanref1_Crc.f k c l = some (crcOn c l) := by
  simp only [tallymanref1_Crc.f]
  have := ref_l0 l hl l.length 0 (Go.bits .xor .u32 4294967295 c) k (by omega) hk
  rw [show ((0 : Nat) : Int) = 0 from rfl] at this
  rw [this, List.drop_zero]
  rfl
theorem ref_seal_eq (l : List Int) (k : Nat) (hl : l.length ≤ 1000000000) (hk : 10 * l.length < k) : tallymanref1_Seal.f k l = some (sealI l) := by
  simp only [tallymanref1_Seal.f]
  rw [ref_crc_eq 0 l k hl hk, Option.bind_some, Option.bind_some, if_pos (by simp; omega), Option.bind_some, Option.bind_some, if_pos (by simp; omega), List.nil_append]
  rfl
theorem four_of_len {α : Type} (q : List α) (h : q.length = 4) : ∃ a b c d, q = [a, b, c, d] := by
  match q, h with
  | [a, b, c, d], _ => exact ⟨a, b, c, d, rfl⟩
theorem ref_open_eq (l : List Int) (k : Nat) (hl : l.length ≤ 1000000000) (hk : 10 * l.length + 10 < k) : tallymanref1_Open.f k l = some (opened l) := by
  simp only [tallymanref1_Open.f]
  by_cases c : l.length < 4
  · rw [if_pos (by omega)]
    unfold opened
    rw [if_pos c]
  · have e : wrap64 ((l.length : Int) - 4) = ((l.length - 4 : Nat) : Int) := by unfold wrap64; omega
    have hlen : (l.take (l.length - 4)).length = l.length - 4 := by simp
    rw [if_neg (by omega), e, if_pos (by omega), if_pos (by omega), Option.bind_some, Int.toNat_natCast, ref_crc_eq 0 _ k (by omega) (by omega), Option.bind_some]
    unfold opened
    rw [if_neg c]
    obtain ⟨q0, q1, q2, q3, hq⟩ := four_of_len (l.drop (l.length - 4)) (by simp; omega)
    have hpl : l = l.take (l.length - 4) ++ [q0, q1, q2, q3] := by rw [← hq, List.take_append_drop]
    generalize hp : l.take (l.length - 4) = p at *
    have hc := crcOn_u32 0 p
    obtain ⟨hc0, hc1⟩ := hc
    have hcc : crcOn 0 p = crc p := rfl
    rw [hcc] at hc0 hc1 ⊢
    generalize hcr : crc p = cr at *
    have r : ∀ (i : Nat) (x : Int), [q0, q1, q2, q3][i]? = some x → rd l ((p.length : Int) + i) = x := by
      intro i x hx
      have hi : i < 4 := (List.getElem?_eq_some_iff.1 hx).1
      rw [hpl, rd, show ((p.length : Int) + i).toNat = p.length + i by omega, List.getD_eq_getElem?_getD, List.getElem?_append_right (by omega), show p.length + i - p.length = i by omega, hx]
      rfl
    have r0 := r 0 q0 rfl
    have r1 := r 1 q1 rfl
    have r2 := r 2 q2 rfl
    have r3 := r 3 q3 rfl
    have hll : l.length = p.length + 4 := by omega
    have w : ∀ i : Int, 0 ≤ i → i ≤ 4 → wrap64 ((p.length : Int) + i) = (p.length : Int) + i := fun i h1 h2 => by unfold wrap64; omega
    have s0 : shr .u32 cr (IntKind.u64.wrap (wrap64 (8 * 0))) = cr / 1 := by
      have : min (IntKind.u64.wrap (wrap64 (8 * 0))).toNat IntKind.u32.bits = 0 := by decide +kernel
      unfold shr; rw [this]; rfl
    have s1 : shr .u32 cr (IntKind.u64.wrap (wrap64 (8 * 1))) = cr / 256 := by
      have : min (IntKind.u64.wrap (wrap64 (8 * 1))).toNat IntKind.u32.bits = 8 := by decide +kernel
      unfold shr; rw [this]; rfl
    have s2 : shr .u32 cr (IntKind.u64.wrap (wrap64 (8 * 2))) = cr / 65536 := by
      have : min (IntKind.u64.wrap (wrap64 (8 * 2))).toNat IntKind.u32.bits = 16 := by decide +kernel
      unfold shr; rw [this]; rfl
    have s3 : shr .u32 cr (IntKind.u64.wrap (wrap64 (8 * 3))) = cr / 16777216 := by
      have : min (IntKind.u64.wrap (wrap64 (8 * 3))).toNat IntKind.u32.bits = 24 := by decide +kernel
      unfold shr; rw [this]; rfl
    have g : ∀ i : Int, 0 ≤ i → i < 4 → 0 ≤ IntKind.u64.wrap (wrap64 (8 * i)) := fun i h1 h2 => by rw [IntKind.wrap_u64]; unfold wrap64; omega
    have w1 : wrap64 (0 + 1) = 1 := by decide +kernel
    have w2 : wrap64 (1 + 1) = 2 := by decide +kernel
    have w3 : wrap64 (2 + 1) = 3 := by decide +kernel
    have w4 : wrap64 (3 + 1) = 4 := by decide +kernel
    obtain ⟨k, rfl⟩ : ∃ m, k = m + 5 := ⟨k - 5, by omega⟩
    have sl : sealI p = p ++ [cr % 256, cr / 256 % 256, cr / 65536 % 256, cr / 16777216 % 256] := by unfold sealI four; rw [hcr]
    have iff : sealI p = l ↔ (q0 = cr % 256 ∧ q1 = cr / 256 % 256 ∧ q2 = cr / 65536 % 256 ∧ q3 = cr / 16777216 % 256) := by
      rw [sl]
      conv => lhs; rhs; rw [hpl]
      rw [List.append_cancel_left_eq]
      simp only [List.cons.injEq, and_true]
      constructor
      · rintro ⟨rfl, rfl, rfl, rfl⟩; exact ⟨rfl, rfl, rfl, rfl⟩
      · rintro ⟨rfl, rfl, rfl, rfl⟩; exact ⟨rfl, rfl, rfl, rfl⟩
    simp only [show ((0 : Nat) : Int) = 0 from rfl, show ((1 : Nat) : Int) = 1 from rfl, show ((2 : Nat) : Int) = 2 from rfl, show ((3 : Nat) : Int) = 3 from rfl] at r0 r1 r2 r3
    rw [show k + 5 = (k + 4) + 1 from rfl, tallymanref1_Open.l0, if_pos (by omega), w 0 (by omega) (by omega), if_pos (by omega), if_pos (by omega), if_pos (g 0 (by omega) (by omega)), r0, s0, Int.ediv_one]
    by_cases c0 : q0 = cr % 256
    · rw [if_pos c0, w1, show k + 4 = (k + 3) + 1 from rfl, tallymanref1_Open.l0, if_pos (by omega), w 1 (by omega) (by omega), if_pos (by omega), if_pos (by omega), if_pos (g 1 (by omega) (by omega)), r1, s1]
      by_cases c1 : q1 = cr / 256 % 256
      · rw [if_pos c1, w2, show k + 3 = (k + 2) + 1 from rfl, tallymanref1_Open.l0, if_pos (by omega), w 2 (by omega) (by omega), if_pos (by omega), if_pos (by omega), if_pos (g 2 (by omega) (by omega)), r2, s2]
        by_cases c2 : q2 = cr / 65536 % 256
        · rw [if_pos c2, w3, show k + 2 = (k + 1) + 1 from rfl, tallymanref1_Open.l0, if_pos (by omega), w 3 (by omega) (by omega), if_pos (by omega), if_pos (by omega), if_pos (g 3 (by omega) (by omega)), r3, s3]
          by_cases c3 : q3 = cr / 16777216 % 256
          · rw [if_pos c3, w4, tallymanref1_Open.l0, if_neg (by omega), Option.bind_some, if_pos (by simp; omega), List.nil_append, if_pos (iff.2 ⟨c0, c1, c2, c3⟩)]
          · rw [if_neg c3, if_neg (fun h => c3 (iff.1 h).2.2.2)]
        · rw [if_neg c2, if_neg (fun h => c2 (iff.1 h).2.2.1)]
      · rw [if_neg c1, if_neg (fun h => c1 (iff.1 h).2.1)]
    · rw [if_neg c0, if_neg (fun h => c0 (iff.1 h).1)]
theorem ref_good_eq (f : Fr) : tallymanref19_GoodFrame.f f.ack f.seq f.b = some (goodF f) := good_eq f
theorem ref_putF_eq (f : Fr) (k : Nat) (hk : 1400000 ≤ k) : tallymanref19_PutFrame.f k f.ack f.seq f.b = some (putF f) := by
  simp only [tallymanref19_PutFrame.f, putF]
  rw [ref_good_eq, Option.bind_some]
  cases hg : goodF f
  · simp
  · obtain ⟨h1, h2, h3, h4⟩ := good_seq hg
    have hel := enc_len 9 f.seq
    rw [if_pos rfl]
    cases ha : f.ack
    · rw [if_neg (by simp), ref_put_eq _ _ k (by omega) (by omega) (by omega) (by simp), Option.bind_some, if_pos (by simp; omega), ref_seal_eq _ k (by simp; omega) (by simp; omega), Option.bind_some]
      simp
    · rw [if_pos rfl, ref_put_eq _ _ k (by omega) (by omega) (by omega) (by simp), Option.bind_some, if_pos (by simp; omega), ref_seal_eq _ k (by simp; omega) (by simp; omega), Option.bind_some]
      simp
theorem ref_getF_eq (l : List Int) (hb : Bytes l) (hl : l.length ≤ 1000000) (k : Nat) (hk : 10 * l.length + 100 < k) :
    tallymanref19_GetFrame.f k l = some (match getF l with | some f => (f.ack, f.seq, f.b, 0) | none => (false, 0, [], 2)) := by
  simp only [tallymanref19_GetFrame.f, getF]
  rw [ref_open_eq l k (by omega) (by omega), Option.bind_some]
  have hol := opened_len l
  have hob := opened_bytes hb
  obtain ⟨k, rfl⟩ : ∃ m, k = m + 1 := ⟨k - 1, by omega⟩
  generalize hp : opened l = o at *
  obtain ⟨p, ok⟩ := o
  dsimp only at hol hob ⊢
  have bad : tallymanref19_GetFrame.j0 (k + 1) p true = some (false, 0, [], 2) := by rw [tallymanref19_GetFrame.j0, if_pos rfl]
  by_cases c1 : ok = true
  · rw [if_pos c1]
    by_cases c2 : p.length = 0
    · rw [if_pos (by omega), bad, if_neg (fun h => h.2.1 c2)]
    · have hd := dec_nonneg 10 0 0 (p.drop 1)
      have go : ∀ h : rd p 0 = 65 ∨ rd p 0 = 70, tallymanref19_GetFrame.j0 (k + 1) p false = some (match bodyF p with | some f => (f.ack, f.seq, f.b, 0) | none => (false, 0, [], 2)) := by
        intro h
        rw [tallymanref19_GetFrame.j0, if_neg (by simp), if_pos (by omega), ref_get_eq _ (hob.drop 1) k (by omega), Option.bind_some]
        have hdl : ((p.drop 1).length : Int) = (p.length : Int) - 1 := by simp; omega
        have e1 : wrap64 (1 + (dec 10 0 0 (p.drop 1)).2.1) = 1 + (dec 10 0 0 (p.drop 1)).2.1 := by unfold wrap64; omega
        have e2 : (1 + (dec 10 0 0 (p.drop 1)).2.1).toNat = 1 + (dec 10 0 0 (p.drop 1)).2.1.toNat := by omega
        rw [if_pos (by omega)]
        unfold bodyF
        by_cases c3 : (dec 10 0 0 (p.drop 1)).2.2 = 0
        · have hg := ref_good_eq ⟨rd p 0 == 65, (dec 10 0 0 (p.drop 1)).1, p.drop (1 + (dec 10 0 0 (p.drop 1)).2.1.toNat)⟩
          dsimp only at hg
          rw [if_pos c3, Option.bind_some, e1, if_pos (by omega), if_pos (by omega), Option.bind_some, e2, if_pos (by simp; omega), Option.bind_some, List.nil_append, hg, Option.bind_some]
          dsimp only
          cases hgo : goodF ⟨rd p 0 == 65, (dec 10 0 0 (p.drop 1)).1, p.drop (1 + (dec 10 0 0 (p.drop 1)).2.1.toNat)⟩
          · rw [if_neg (by simp), if_neg (by simp)]
          · rw [if_pos rfl, if_pos ⟨c3, rfl⟩]
        · rw [if_neg c3]
          dsimp only
          rw [if_neg (fun h => c3 h.1)]
      rw [if_neg (by omega), if_pos (by omega)]
      by_cases c4 : rd p 0 = 65
      · rw [if_pos c4, go (.inl c4), if_pos ⟨c1, c2, .inl c4⟩]
      · rw [if_neg c4]
        by_cases c5 : rd p 0 = 70
        · rw [show (rd p 0 != 70) = false by simp [c5], go (.inr c5), if_pos ⟨c1, c2, .inr c5⟩]
        · rw [show (rd p 0 != 70) = true by simp [c5], bad, if_neg (fun h => h.2.2.elim c4 c5)]
  · rw [if_neg c1, bad, if_neg (fun h => c1 h.1)]
end Go.Proofs.Ytlaojndlelcdaaa.Pure
