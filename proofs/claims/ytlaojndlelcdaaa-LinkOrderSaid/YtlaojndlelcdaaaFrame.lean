/- What frame's functions compute, told plainly: a frame's bytes, and what bytes say; they undo each other. -/
import Derived.Test.YtlaojndlelcdaaaPx14
import Derived.Test.YtlaojndlelcdaaaPx15
import Derived.Test.YtlaojndlelcdaaaPx16
import Derived.Test.YtlaojndlelcdaaaPoly
namespace Go.Proofs.Ytlaojndlelcdaaa.Pure
open Go.RowKit Go.Proofs.Ytlaojndlelcdaaa.P Go.Proofs.YtlaojndlelcdaaaW.PrintWords Go.Proofs.YtlaojndlelcdaaaW.PrintLast Go.Proofs.YtlaojndlelcdaaaW.PrintMore
set_option linter.unusedVariables false
set_option linter.unusedSimpArgs false

structure Fr where
  ack : Bool
  seq : Int
  b : List Int
def goodF (f : Fr) : Bool := decide (f.seq ≥ 1) && decide (f.seq ≤ 4294967296) && decide (f.b.length ≤ 131072) && (!f.ack || f.b.length == 0)
def putF (f : Fr) : List Int := if goodF f then sealI ((if f.ack then 65 else 70) :: (enc 9 f.seq ++ f.b)) else []
def noF : Fr := ⟨false, 0, []⟩
/-- What follows the kind: a number, and the rest. -/
def bodyF (p : List Int) : Option Fr :=
  let d := dec 10 0 0 (p.drop 1)
  let f : Fr := ⟨rd p 0 == 65, d.1, p.drop (1 + d.2.1.toNat)⟩
  if d.2.2 = 0 ∧ goodF f = true then some f else none
def getF (l : List Int) : Option Fr :=
  let o := opened l
  if o.2 = true ∧ o.1.length ≠ 0 ∧ (rd o.1 0 = 65 ∨ rd o.1 0 = 70) then bodyF o.1 else none
theorem good_eq (f : Fr) : frame_Good.f f.ack f.seq f.b = some (goodF f) := by
  unfold frame_Good.f goodF
  by_cases c1 : f.seq ≥ 1
  · by_cases c2 : f.seq ≤ 4294967296
    · by_cases c3 : (f.b.length : Int) ≤ 131072
      · have c3' : f.b.length ≤ 131072 := by omega
        rw [if_pos c1, if_pos c2, if_pos c3]
        cases f.ack
        · simp [c1, c2, c3']
        · simp only [c1, c2, c3', decide_true, Bool.and_self, Bool.not_true, Bool.false_or, Bool.true_and, if_true]
          congr 1
          rw [Bool.eq_iff_iff]
          first | (simp; done) | (simp; omega)
      · have c3' : ¬ f.b.length ≤ 131072 := by omega
        rw [if_pos c1, if_pos c2, if_neg c3]
        simp [c3']
    · rw [if_pos c1, if_neg c2]
      simp [c2]
  · rw [if_neg c1]
    simp [c1]
theorem good_seq {f : Fr} (h : goodF f = true) : 1 ≤ f.seq ∧ f.seq ≤ 4294967296 ∧ f.b.length ≤ 131072 ∧ (f.ack = true → f.b = []) := by
  unfold goodF at h
  simp only [Bool.and_eq_true, decide_eq_true_eq, Bool.or_eq_true, Bool.not_eq_true', beq_iff_eq] at h
  obtain ⟨⟨⟨h1, h2⟩, h3⟩, h4⟩ := h
  refine ⟨h1, h2, h3, fun ha => ?_⟩
  rcases h4 with h4 | h4
  · rw [ha] at h4
    cases h4
  · exact List.length_eq_zero_iff.1 h4
theorem putF_eq (f : Fr) (k : Nat) (hk : 1400000 ≤ k) : frame_Put.f k f.ack f.seq f.b = some (putF f) := by
  simp only [frame_Put.f, putF]
  rw [good_eq, Option.bind_some]
  cases hg : goodF f
  · simp
  · obtain ⟨h1, h2, h3, h4⟩ := good_seq hg
    have hel := enc_len 9 f.seq
    rw [if_pos rfl, Option.bind_some]
    cases ha : f.ack
    · rw [if_neg (by simp), put_eq _ _ k (by omega) (by omega) (by omega) (by simp), Option.bind_some, if_pos (by simp; omega), seal_eq _ k (by simp; omega) (by simp; omega), Option.bind_some]
      simp
    · rw [if_pos rfl, if_pos (by simp), show ([70] : List Int).set (0 : Int).toNat 65 = [65] from rfl, put_eq _ _ k (by omega) (by omega) (by omega) (by simp), Option.bind_some, if_pos (by simp; omega), seal_eq _ k (by simp; omega) (by simp; omega), Option.bind_some]
      simp
theorem dec_nonneg (n : Nat) : ∀ (i : Nat) (acc : Int) (l : List Int), 0 ≤ (dec n i acc l).2.1 ∧ (dec n i acc l).2.1 ≤ i + l.length := by
  induction n with
  | zero => intro i acc l; first | (simp [dec]; done) | (simp [dec]; omega)
  | succ n ih =>
    intro i acc l
    cases l with
    | nil => first | (simp [dec]; done) | (simp [dec]; omega)
    | cons b l =>
      rw [dec]
      split
      · simp; omega
      · split
        · simp; omega
        · have := ih (i + 1) (acc + (b - 128) * 128 ^ i) l
          simp at this ⊢
          omega
theorem getF_eq (l : List Int) (hb : Bytes l) (hl : l.length ≤ 1000000) (k : Nat) (hk : 10 * l.length + 100 < k) :
    frame_Get.f k l = some (match getF l with | some f => (f.ack, f.seq, f.b, 0) | none => (false, 0, [], 2)) := by
  simp only [frame_Get.f, getF]
  rw [open_eqP l k (by omega) (by omega), Option.bind_some]
  have hol := opened_len l
  have hob := opened_bytes hb
  obtain ⟨k, rfl⟩ : ∃ m, k = m + 1 := ⟨k - 1, by omega⟩
  generalize hp : opened l = o at *
  obtain ⟨p, ok⟩ := o
  dsimp only at hol hob ⊢
  have bad : frame_Get.j0 (k + 1) p true = some (false, 0, [], 2) := by rw [frame_Get.j0, if_pos rfl]
  by_cases c1 : ok = true
  · rw [if_pos c1]
    by_cases c2 : p.length = 0
    · rw [if_pos (by omega), bad, if_neg (fun h => h.2.1 c2)]
    · have hd := dec_nonneg 10 0 0 (p.drop 1)
      have go : ∀ h : rd p 0 = 65 ∨ rd p 0 = 70, frame_Get.j0 (k + 1) p false = some (match bodyF p with | some f => (f.ack, f.seq, f.b, 0) | none => (false, 0, [], 2)) := by
        intro h
        rw [frame_Get.j0, if_neg (by simp), if_pos (by omega), get_eq _ (hob.drop 1) k (by omega), Option.bind_some]
        have hdl : ((p.drop 1).length : Int) = (p.length : Int) - 1 := by simp; omega
        have e1 : wrap64 (1 + (dec 10 0 0 (p.drop 1)).2.1) = 1 + (dec 10 0 0 (p.drop 1)).2.1 := by unfold wrap64; omega
        have e2 : (1 + (dec 10 0 0 (p.drop 1)).2.1).toNat = 1 + (dec 10 0 0 (p.drop 1)).2.1.toNat := by omega
        rw [if_pos (by omega), e1, if_pos (by omega), if_pos (by omega), e2, clone_eq _ (by simp; omega), Option.bind_some]
        unfold bodyF
        by_cases c3 : (dec 10 0 0 (p.drop 1)).2.2 = 0
        · have hg := good_eq ⟨rd p 0 == 65, (dec 10 0 0 (p.drop 1)).1, p.drop (1 + (dec 10 0 0 (p.drop 1)).2.1.toNat)⟩
          dsimp only at hg
          rw [if_pos c3, hg, Option.bind_some]
          dsimp only
          cases hgo : goodF ⟨rd p 0 == 65, (dec 10 0 0 (p.drop 1)).1, p.drop (1 + (dec 10 0 0 (p.drop 1)).2.1.toNat)⟩
          · rw [if_neg (by simp), if_neg (by simp)]
          · rw [if_pos rfl, if_pos ⟨c3, rfl⟩]
        · rw [if_neg c3]
          dsimp only
          rw [if_neg (fun h => c3 h.1)]
      rw [if_neg (by omega), if_pos (by omega)]
      by_cases c4 : rd p 0 = 65
      · rw [if_pos c4, go (.inl c4), if_pos ⟨c1, c2, .inl c4⟩]
      · rw [if_neg c4]
        by_cases c5 : rd p 0 = 70
        · rw [show (rd p 0 != 70) = false by simp [c5], go (.inr c5), if_pos ⟨c1, c2, .inr c5⟩]
        · rw [show (rd p 0 != 70) = true by simp [c5], bad, if_neg (fun h => h.2.2.elim c4 c5)]
  · rw [if_neg c1, bad, if_neg (fun h => c1 h.1)]
/-- What is written is read as it was. -/
theorem get_putF (f : Fr) (h : goodF f = true) : getF (putF f) = some f := by
  obtain ⟨h1, h2, h3, h4⟩ := good_seq h
  unfold getF putF
  rw [if_pos h, opened_seal]
  dsimp only
  have hk : rd ((if f.ack = true then 65 else 70) :: (enc 9 f.seq ++ f.b)) 0 = if f.ack = true then 65 else 70 := rfl
  rw [if_pos ⟨rfl, by simp, by rw [hk]; cases f.ack <;> simp⟩]
  unfold bodyF
  rw [List.drop_one, List.tail_cons, get_put f.seq f.b (by omega) (by omega), hk]
  dsimp only
  have e : ((if f.ack = true then (65 : Int) else 70) == 65) = f.ack := by cases f.ack <;> rfl
  have e2 : ((if f.ack = true then (65 : Int) else 70) :: (enc 9 f.seq ++ f.b)).drop (1 + ((enc 9 f.seq).length : Int).toNat) = f.b := by
    rw [Int.toNat_natCast, Nat.add_comm, List.drop_succ_cons, List.drop_left]
  rw [e, e2, if_pos ⟨rfl, h⟩]
/-- What is read was written so. -/
theorem put_getF (l : List Int) (hb : Bytes l) (f : Fr) (h : getF l = some f) : goodF f = true ∧ putF f = l ∧ Bytes f.b := by
  unfold getF at h
  dsimp only at h
  split at h
  · rename_i c
    obtain ⟨c1, c2, c3⟩ := c
    have hob := opened_bytes hb
    have hs := opened_back c1
    generalize (opened l).1 = p at *
    unfold bodyF at h
    dsimp only at h
    split at h
    · rename_i d
      obtain ⟨d1, d2⟩ := d
      simp only [Option.some.injEq] at h
      obtain ⟨u, u0, u1, e, hle, ht⟩ := get_back (p.drop 1) (hob.drop 1) d1
      rw [e] at h d2
      dsimp only at h d2
      rw [Int.toNat_natCast] at h d2
      subst h
      refine ⟨d2, ?_, hob.drop _⟩
      unfold putF
      rw [if_pos d2]
      dsimp only
      cases p with
      | nil => simp at c2
      | cons x p =>
        have hx : rd (x :: p) 0 = x := rfl
        rw [hx] at c3 ⊢
        rw [List.drop_one, List.tail_cons] at ht
        have e3 : (x :: p).drop (1 + (enc 9 u).length) = p.drop (enc 9 u).length := by rw [Nat.add_comm]; rfl
        have e4 : (if (x == 65) = true then (65 : Int) else 70) = x := by
          rcases c3 with rfl | rfl <;> rfl
        rw [e3, e4, ← ht, List.length_take, Nat.min_eq_left (by simpa using hle), List.take_append_drop]
        exact hs
    · cases h
  · cases h
end Go.Proofs.Ytlaojndlelcdaaa.Pure
