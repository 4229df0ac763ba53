/- What num's functions compute, told by plain recursions: enc writes a number, dec reads one; they undo each other. -/
import Derived.Test.YtlaojndlelcdaaaPx1
import Derived.Test.YtlaojndlelcdaaaPx2
import Derived.Test.YtlaojndlelcdaaaPx3
import Derived.Laws.BitsAllLaws
import Derived.Laws.Bits64
namespace Go.Proofs.Ytlaojndlelcdaaa.Pure
open Go.RowKit Go.Proofs.Ytlaojndlelcdaaa.P Go.Proofs.YtlaojndlelcdaaaW.PrintWords Go.Proofs.YtlaojndlelcdaaaW.PrintLast Go.Proofs.YtlaojndlelcdaaaW.PrintMore
set_option linter.unusedVariables false
set_option linter.unusedSimpArgs false

def Byte (x : Int) : Prop := 0 ≤ x ∧ x < 256
def Bytes (l : List Int) : Prop := ∀ x ∈ l, Byte x
theorem Bytes.cons {x : Int} {l : List Int} (h : Bytes (x :: l)) : Byte x ∧ Bytes l := ⟨h x (by simp), fun y hy => h y (by simp [hy])⟩
theorem Bytes.append {l m : List Int} (h : Bytes l) (h' : Bytes m) : Bytes (l ++ m) := fun x hx => (List.mem_append.1 hx).elim (h x) (h' x)
theorem Bytes.take {l : List Int} (h : Bytes l) (n : Nat) : Bytes (l.take n) := fun x hx => h x (List.mem_of_mem_take hx)
theorem Bytes.drop {l : List Int} (h : Bytes l) (n : Nat) : Bytes (l.drop n) := fun x hx => h x (List.mem_of_mem_drop hx)
theorem Bytes.nil : Bytes [] := fun _ h => by cases h
theorem wf_u8 {x : Int} (h : (Lit.int .u8 x).wf = true) : Byte x := by
  simp [Lit.wf, IntKind.min, IntKind.max, IntKind.signed, IntKind.bits] at h
  exact ⟨h.1, by omega⟩
theorem wf_u64 {x : Int} (h : (Lit.int .u64 x).wf = true) : 0 ≤ x ∧ x < 18446744073709551616 := by
  simp [Lit.wf, IntKind.min, IntKind.max, IntKind.signed, IntKind.bits] at h
  exact ⟨h.1, by omega⟩
theorem wf_i64 {x : Int} (h : (Lit.int .i64 x).wf = true) : -9223372036854775808 ≤ x ∧ x < 9223372036854775808 := by
  simp [Lit.wf, IntKind.min, IntKind.max, IntKind.signed, IntKind.bits] at h
  exact ⟨h.1, by omega⟩

/-- A number's writing, n + 1 bytes at most. -/
def enc : Nat → Int → List Int
  | 0, v => [v]
  | n + 1, v => if v > 127 then (v % 128 + 128) :: enc n (v / 128) else [v]
/-- A number's reading: n more bytes may come, i have come. -/
def dec : Nat → Nat → Int → List Int → Int × Int × Int
  | 0, _, _, _ => (0, 0, 2)
  | _ + 1, _, _, [] => (0, 0, 3)
  | n + 1, i, acc, b :: l => if (i = 9 ∧ b > 1) ∨ (0 < i ∧ b = 0) then (0, 0, 2) else if b < 128 then (acc + b * 128 ^ i, i + 1, 0) else dec n (i + 1) (acc + (b - 128) * 128 ^ i) l

theorem or128 (v : Int) (_h0 : 0 ≤ v) : Go.bits .or .u8 (v % 256) 128 = v % 128 + 128 := by
  rw [show (128 : Int) = ((128 : Nat) : Int) from rfl, u8_or _ _ (by omega) (by omega) (by omega) (by omega)]
  have h : ∀ n : Nat, n < 256 → n ||| 128 = n % 128 + 128 := by decide +kernel
  have hn := h (v % 256).toNat (by omega)
  simp only [Int.toNat_natCast]
  rw [hn]
  omega
theorem and127 (b : Int) (hb : Byte b) : Go.bits .and .u8 b 127 = b % 128 := by
  obtain ⟨h0, h1⟩ := hb
  rw [show (127 : Int) = ((127 : Nat) : Int) from rfl, u8_and _ _ (by omega) (by omega) (by omega) (by omega)]
  simp only [Int.toNat_natCast, nat_mask7]
  omega
theorem enc_len (n : Nat) : ∀ v, 1 ≤ (enc n v).length ∧ (enc n v).length ≤ n + 1 := by
  induction n with
  | zero => intro v; simp [enc]
  | succ n ih => 
    intro v
    unfold enc
    split
    · have := ih (v / 128)
      simp
      omega
    · simp
theorem put_l0 (n : Nat) : ∀ (v : Int) (acc : List Int) (k : Nat), 0 ≤ v → v < 128 ^ (n + 1) → n < k → acc.length + n + 1 ≤ 140737488355328 → num_Put.l0 k v acc = some (acc ++ enc n v) := by
  induction n with
  | zero =>
    intro v acc k h0 h1 hk hl
    obtain ⟨k, rfl⟩ : ∃ m, k = m + 1 := ⟨k - 1, by omega⟩
    simp only [num_Put.l0]
    have h2 : v < 128 := by simpa using h1
    rw [if_neg (by omega), if_pos (by omega)]
    simp only [enc]
    rw [show v % 256 = v by omega]
  | succ n ih =>
    intro v acc k h0 h1 hk hl
    obtain ⟨k, rfl⟩ : ∃ m, k = m + 1 := ⟨k - 1, by omega⟩
    simp only [num_Put.l0, enc]
    by_cases hv : v > 127
    · rw [if_pos hv, if_pos hv, if_pos (by omega), or128 v h0, ih (v / 128) _ k (by omega) (by rw [Int.pow_succ] at h1; omega) (by omega) (by simp; omega)]
      simp
    · rw [if_neg hv, if_neg hv, if_pos (by omega), show v % 256 = v by omega]
theorem clone_eq (l : List Int) (h : l.length < 140737488355328) : bytes_Clone.f l = some l := by
  simp [bytes_Clone.f, h]
theorem put_eq (l : List Int) (v : Int) (k : Nat) (h0 : 0 ≤ v) (h1 : v < 18446744073709551616) (hk : 10 ≤ k) (hl : l.length ≤ 140737488355317) : num_Put.f k l v = some (l ++ enc 9 v) := by
  simp only [num_Put.f]
  rw [clone_eq l (by omega), Option.bind_some, put_l0 9 v l k h0 (by simpa using (show v < 1180591620717411303424 by omega)) (by omega) (by omega)]
theorem enc_bytes (n : Nat) : ∀ v : Int, 0 ≤ v → v < 128 ^ (n + 1) → Bytes (enc n v) := by
  induction n with
  | zero => intro v h0 h1 x hx; simp [enc] at hx; subst hx; exact ⟨h0, by simp at h1; omega⟩
  | succ n ih =>
    intro v h0 h1 x hx
    unfold enc at hx
    split at hx
    · rcases List.mem_cons.1 hx with rfl | hx
      · exact ⟨by omega, by omega⟩
      · exact ih (v / 128) (by omega) (by rw [Int.pow_succ] at h1; omega) x hx
    · simp at hx; subst hx; exact ⟨h0, by omega⟩
theorem enc9_bytes {v : Int} (h0 : 0 ≤ v) (h1 : v < 18446744073709551616) : Bytes (enc 9 v) := enc_bytes 9 v h0 (by simpa using (show v < 1180591620717411303424 by omega))

/-- One byte's worth, put to what has been read. -/
theorem or_shl (i : Nat) (acc b : Int) (hi : i < 10) (h0 : 0 ≤ acc) (h1 : acc < 128 ^ i) (hb : Byte b) (h9 : i = 9 → b ≤ 1) :
    Go.bits .or .u64 acc (shl .u64 (IntKind.u64.wrap (Go.bits .and .u8 b 127)) (wrap64 (7 * (i : Int)))) = acc + (b % 128) * 128 ^ i := by
  rw [and127 b hb]
  obtain ⟨hb0, hb1⟩ := hb
  obtain ⟨a, rfl⟩ := Int.eq_ofNat_of_zero_le h0
  obtain ⟨m, hm⟩ := Int.eq_ofNat_of_zero_le (show 0 ≤ b % 128 by omega)
  have hm1 : m < 128 := by omega
  rw [hm]
  have hc : i = 0 ∨ i = 1 ∨ i = 2 ∨ i = 3 ∨ i = 4 ∨ i = 5 ∨ i = 6 ∨ i = 7 ∨ i = 8 ∨ i = 9 := by omega
  have key : ∀ (s : Nat), (wrap64 (7 * (i : Int))).toNat = s → s ≤ 63 → (2 : Int) ^ s = ((2 ^ s : Nat) : Int) → m * 2 ^ s < 18446744073709551616 → a < 2 ^ s →
      Go.bits .or .u64 (a : Int) (shl .u64 (IntKind.u64.wrap (m : Int)) (wrap64 (7 * (i : Int)))) = a + (m * 2 ^ s : Nat) := by
    intro s hs hs63 hp hlt ha
    have e1 : IntKind.u64.wrap (m : Int) = (m : Int) := by rw [IntKind.wrap_u64]; omega
    have e2 : min s IntKind.u64.bits = s := by simp [IntKind.bits]; omega
    unfold shl
    rw [e1, hs, e2, hp, IntKind.wrap_u64]
    have e3 : ((m : Int) * ((2 ^ s : Nat) : Int)) % 18446744073709551616 = ((m * 2 ^ s : Nat) : Int) := by
      rw [← Int.natCast_mul]; omega
    have ha2 : a < 18446744073709551616 := Nat.lt_of_lt_of_le ha (Nat.le_trans (Nat.pow_le_pow_right (by decide) hs63) (by decide))
    rw [e3, u64_or_nat a (m * 2 ^ s) ha2 hlt, Nat.or_comm, nat_join s (m * 2 ^ s) a (by simp) ha]
    simp; omega
  have w : ∀ j : Nat, j < 10 → (wrap64 (7 * (j : Int))).toNat = 7 * j := fun j hj => by
    have : wrap64 (7 * (j : Int)) = 7 * j := by unfold wrap64; omega
    rw [this]
    omega
  rcases hc with rfl | rfl | rfl | rfl | rfl | rfl | rfl | rfl | rfl | rfl
  · rw [key 0 (w 0 (by decide)) (by decide) (by decide) (by simp only [Nat.reducePow]; omega) (by omega)]
    simp only [Nat.reducePow, Int.reducePow, Int.pow_zero, Int.pow_one]
    omega
  · rw [key 7 (w 1 (by decide)) (by decide) (by decide) (by simp only [Nat.reducePow]; omega) (by simp only [Nat.reducePow]; simp only [Int.reducePow] at h1; omega)]
    simp only [Nat.reducePow, Int.reducePow, Int.pow_zero, Int.pow_one]
    omega
  · rw [key 14 (w 2 (by decide)) (by decide) (by decide) (by simp only [Nat.reducePow]; omega) (by simp only [Nat.reducePow]; simp only [Int.reducePow] at h1; omega)]
    simp only [Nat.reducePow, Int.reducePow, Int.pow_zero, Int.pow_one]
    omega
  · rw [key 21 (w 3 (by decide)) (by decide) (by decide) (by simp only [Nat.reducePow]; omega) (by simp only [Nat.reducePow]; simp only [Int.reducePow] at h1; omega)]
    simp only [Nat.reducePow, Int.reducePow, Int.pow_zero, Int.pow_one]
    omega
  · rw [key 28 (w 4 (by decide)) (by decide) (by decide) (by simp only [Nat.reducePow]; omega) (by simp only [Nat.reducePow]; simp only [Int.reducePow] at h1; omega)]
    simp only [Nat.reducePow, Int.reducePow, Int.pow_zero, Int.pow_one]
    omega
  · rw [key 35 (w 5 (by decide)) (by decide) (by decide) (by simp only [Nat.reducePow]; omega) (by simp only [Nat.reducePow]; simp only [Int.reducePow] at h1; omega)]
    simp only [Nat.reducePow, Int.reducePow, Int.pow_zero, Int.pow_one]
    omega
  · rw [key 42 (w 6 (by decide)) (by decide) (by decide) (by simp only [Nat.reducePow]; omega) (by simp only [Nat.reducePow]; simp only [Int.reducePow] at h1; omega)]
    simp only [Nat.reducePow, Int.reducePow, Int.pow_zero, Int.pow_one]
    omega
  · rw [key 49 (w 7 (by decide)) (by decide) (by decide) (by simp only [Nat.reducePow]; omega) (by simp only [Nat.reducePow]; simp only [Int.reducePow] at h1; omega)]
    simp only [Nat.reducePow, Int.reducePow, Int.pow_zero, Int.pow_one]
    omega
  · rw [key 56 (w 8 (by decide)) (by decide) (by decide) (by simp only [Nat.reducePow]; omega) (by simp only [Nat.reducePow]; simp only [Int.reducePow] at h1; omega)]
    simp only [Nat.reducePow, Int.reducePow, Int.pow_zero, Int.pow_one]
    omega
  · have := h9 rfl
    rw [key 63 (w 9 (by decide)) (by decide) (by decide) (by simp only [Nat.reducePow]; omega) (by simp only [Nat.reducePow]; simp only [Int.reducePow] at h1; omega)]
    simp only [Nat.reducePow, Int.reducePow, Int.pow_zero, Int.pow_one]
    omega
theorem rd_eq (l : List Int) (i : Nat) (h : i < l.length) : rd l (i : Int) = l[i] := by
  simp [rd, List.getD_eq_getElem?_getD, List.getElem?_eq_getElem h]
theorem drop_cons (l : List Int) (i : Nat) (h : i < l.length) : l.drop i = l[i] :: l.drop (i + 1) := List.drop_eq_getElem_cons h
theorem get_l0 (l : List Int) (hl : Bytes l) (n : Nat) : ∀ (i : Nat) (acc : Int) (k : Nat), n + i = 10 → 0 ≤ acc → acc < 128 ^ i → 3 * n < k → num_Get.l0 k l acc (i : Int) = some (dec n i acc (l.drop i)) := by
  induction n with
  | zero =>
    intro i acc k hi h0 h1 hk
    obtain ⟨k, rfl⟩ : ∃ m, k = m + 1 := ⟨k - 1, by omega⟩
    simp only [num_Get.l0, dec]
    rw [if_neg (by omega)]
  | succ n ih =>
    intro i acc k hi h0 h1 hk
    obtain ⟨k, rfl⟩ : ∃ m, k = m + 3 := ⟨k - 3, by omega⟩
    by_cases hlen : i < l.length
    · have hb := hl _ (List.getElem_mem hlen)
      rw [drop_cons l i hlen]
      simp only [num_Get.l0, num_Get.j1, num_Get.j2, dec, rd_eq l i hlen]
      obtain ⟨hb0, hb1⟩ := hb
      have hw : wrap64 (7 * (i : Int)) = 7 * i := by unfold wrap64; omega
      have hw1 : wrap64 ((i : Int) + 1) = ((i + 1 : Nat) : Int) := by unfold wrap64; omega
      rw [if_pos (show (i : Int) < 10 by omega), if_neg (show ¬ (i : Int) ≥ (l.length : Int) by omega)]
      have h10 : ∀ q : Option (Int × Int × Int), (if (0 : Int) ≤ (i : Int) then q else none) = q := fun q => if_pos (by omega)
      have h11 : ∀ q : Option (Int × Int × Int), (if (i : Int) < (l.length : Int) then q else none) = q := fun q => if_pos (by omega)
      have h12 : ∀ q : Option (Int × Int × Int), (if (0 : Int) ≤ wrap64 (7 * (i : Int)) then q else none) = q := fun q => if_pos (by rw [hw]; omega)
      simp only [h10, h11, h12, hw1]
      by_cases c : (i = 9 ∧ l[i] > 1) ∨ (0 < i ∧ l[i] = 0)
      · rw [if_pos c]
        rcases c with ⟨c1, c2⟩ | ⟨c1, c2⟩
        · rw [if_pos (by omega)]
          simp [c2]
        · by_cases c3 : (i : Int) = 9
          · rw [if_pos c3]
            simp [c2]
            omega
          · rw [if_neg c3]
            simp [c2]
            omega
      · rw [if_neg c]
        have c9 : i = 9 → l[i] ≤ 1 := fun h => by
          rcases Int.lt_or_le 1 l[i] with h2 | h2
          · exact absurd (Or.inl ⟨h, h2⟩) c
          · exact h2
        have cz : 0 < i → l[i] ≠ 0 := fun h h2 => c (Or.inr ⟨h, h2⟩)
        have e := or_shl i acc l[i] (by omega) h0 h1 ⟨hb0, hb1⟩ c9
        have t1 : (if (i : Int) = 9 then num_Get.j1 (k + 2) l acc (i : Int) (i : Int) (decide (l[i] > 1)) else num_Get.j1 (k + 2) l acc (i : Int) (i : Int) false) = num_Get.j1 (k + 2) l acc (i : Int) (i : Int) false := by
          split
          · have := c9 (by omega)
            rw [decide_eq_false (by omega)]
          · rfl
        simp only [num_Get.j1, num_Get.j2, rd_eq l i hlen, h10, h11, h12, hw1] at t1
        rw [t1]
        rw [if_neg (by simp : ¬ (false = true))]
        simp only [e]
        have hp : (0 : Int) < 128 ^ i := Int.pow_pos (by decide)
        have t2 : ∀ Y : Option (Int × Int × Int), (if (i : Int) > 0 then (if (l[i] == 0) = true then some ((0 : Int), (0 : Int), (2 : Int)) else Y) else (if false = true then some ((0 : Int), (0 : Int), (2 : Int)) else Y)) = Y := fun Y => by
          by_cases c5 : (i : Int) > 0
          · have := cz (by omega)
            rw [if_pos c5, if_neg (by simpa using this)]
          · rw [if_neg c5, if_neg (by simp)]
        rw [t2]
        by_cases c4 : l[i] < 128
        · rw [if_pos c4, if_pos c4]
          have hm : l[i] % 128 = l[i] := by omega
          rw [hm]
          simp
        · rw [if_neg c4, if_neg c4]
          have hm : l[i] % 128 = l[i] - 128 := by omega
          rw [hm]
          have hi9 : i ≠ 9 := fun h => by have := c9 h; omega
          have hs : acc + (l[i] - 128) * 128 ^ i < 128 ^ (i + 1) := by
            rw [Int.pow_succ]
            have : (l[i] - 128) * 128 ^ i ≤ 127 * 128 ^ i := Int.mul_le_mul_of_nonneg_right (by omega) (by omega)
            omega
          have hs0 : 0 ≤ (l[i] - 128) * 128 ^ i := Int.mul_nonneg (by omega) (by omega)
          exact ih (i + 1) (acc + (l[i] - 128) * 128 ^ i) k (by omega) (by omega) hs (by omega)
    · rw [List.drop_of_length_le (by omega)]
      simp only [num_Get.l0, dec]
      rw [if_pos (by omega), if_pos (by omega)]
theorem get_eq (l : List Int) (hl : Bytes l) (k : Nat) (hk : 31 ≤ k) : num_Get.f k l = some (dec 10 0 0 l) := by
  simp only [num_Get.f]
  have := get_l0 l hl 10 0 0 k (by omega) (by omega) (by simp) (by omega)
  simpa using this

/-- What is written is read, whatever stands behind. -/
theorem dec_enc (n : Nat) : ∀ (i : Nat) (acc v : Int) (rest : List Int), n + i = 9 → 0 ≤ v → (0 < i → 0 < v) → v * 128 ^ i < 18446744073709551616 → dec (n + 1) i acc (enc n v ++ rest) = (acc + v * 128 ^ i, (i : Int) + (enc n v).length, 0) := by
  induction n with
  | zero =>
    intro i acc v rest hi h0 hz hv
    have : i = 9 := by omega
    subst this
    have hv1 : v ≤ 1 := by
      rcases Int.lt_or_le 1 v with h | h
      · have : 2 * (128 : Int) ^ 9 ≤ v * 128 ^ 9 := Int.mul_le_mul_of_nonneg_right (by omega) (by decide)
        have h2 : (2 : Int) * 128 ^ 9 = 18446744073709551616 := by decide
        omega
      · exact h
    have := hz (by omega)
    simp only [enc, dec, List.cons_append]
    rw [if_neg (by omega), if_pos (by omega)]
    simp
  | succ n ih =>
    intro i acc v rest hi h0 hz hv
    have hp : (0 : Int) < 128 ^ i := Int.pow_pos (by decide)
    simp only [enc]
    by_cases c : v > 127
    · rw [if_pos c]
      have e : v % 128 + 128 - 128 = v % 128 := by omega
      have e2 : (v % 128) * 128 ^ i + (v / 128) * 128 ^ (i + 1) = v * 128 ^ i := by
        rw [Int.pow_succ, show v / 128 * (128 ^ i * 128) = (v / 128 * 128) * 128 ^ i by rw [Int.mul_comm (128 ^ i) 128, Int.mul_assoc], ← Int.add_mul]
        congr 1
        omega
      have hd0 : (0 : Int) ≤ (v % 128) * 128 ^ i := Int.mul_nonneg (by omega) (by omega)
      have ih' := ih (i + 1) (acc + (v % 128) * 128 ^ i) (v / 128) rest (by omega) (by omega) (fun _ => by omega) (by omega)
      rw [List.cons_append]
      simp only [dec]
      rw [if_neg (by omega), if_neg (by omega), e]
      rw [ih', Int.add_assoc, e2]
      simp
      omega
    · rw [if_neg c, List.cons_append]
      simp only [dec]
      rw [if_neg (by omega), if_pos (by omega)]
      simp
/-- Cut short it is told so. -/
theorem dec_cut (n : Nat) : ∀ (i : Nat) (acc v : Int) (j : Nat), n + i = 9 → 0 ≤ v → (0 < i → 0 < v) → v < 128 ^ (n + 1) → j < (enc n v).length → dec (n + 1) i acc ((enc n v).take j) = (0, 0, 3) := by
  induction n with
  | zero =>
    intro i acc v j hi h0 hz hv hj
    simp [enc] at hj
    subst hj
    simp [dec]
  | succ n ih =>
    intro i acc v j hi h0 hz hv hj
    cases j with
    | zero => simp [dec]
    | succ j =>
      unfold enc at hj ⊢
      by_cases c : v > 127
      · rw [if_pos c] at hj ⊢
        rw [List.take_succ_cons]
        have e : v % 128 + 128 - 128 = v % 128 := by omega
        have ih' := ih (i + 1) (acc + (v % 128) * 128 ^ i) (v / 128) j (by omega) (by omega) (fun _ => by omega) (by rw [Int.pow_succ] at hv; omega) (by simpa using hj)
        simp only [dec]
        rw [if_neg (by omega), if_neg (by omega), e]
        exact ih'
      · rw [if_neg c] at hj
        simp at hj
/-- What is read was written so. -/
theorem dec_back (n : Nat) : ∀ (i : Nat) (acc : Int) (l : List Int), n + i = 9 → Bytes l → (dec (n + 1) i acc l).2.2 = 0 →
    ∃ u : Int, 0 ≤ u ∧ (0 < i → 0 < u) ∧ u * 128 ^ i < 18446744073709551616 ∧ u < 128 ^ (n + 1) ∧ dec (n + 1) i acc l = (acc + u * 128 ^ i, (i : Int) + (enc n u).length, 0) ∧ (enc n u).length ≤ l.length ∧ l.take (enc n u).length = enc n u := by
  induction n with
  | zero =>
    intro i acc l hi hl h
    have : i = 9 := by omega
    subst this
    cases l with
    | nil => simp [dec] at h
    | cons b l =>
      obtain ⟨⟨hb0, hb1⟩, hl⟩ := hl.cons
      rw [dec] at h ⊢
      by_cases c : (9 = 9 ∧ b > 1) ∨ (0 < 9 ∧ b = 0)
      · rw [if_pos c] at h
        simp at h
      · rw [if_neg c] at h ⊢
        have hb : b = 1 := by omega
        subst hb
        refine ⟨1, by omega, fun _ => by omega, by decide, by decide, ?_, by simp [enc], by simp [enc]⟩
        simp [enc]
  | succ n ih =>
    intro i acc l hi hl h
    have hp : (0 : Int) < 128 ^ i := Int.pow_pos (by decide)
    cases l with
    | nil => simp [dec] at h
    | cons b l =>
      obtain ⟨⟨hb0, hb1⟩, hl⟩ := hl.cons
      rw [dec] at h ⊢
      by_cases c : (i = 9 ∧ b > 1) ∨ (0 < i ∧ b = 0)
      · rw [if_pos c] at h
        simp at h
      · rw [if_neg c] at h ⊢
        by_cases c2 : b < 128
        · rw [if_pos c2] at h ⊢
          have hpn : (128 : Int) ≤ 128 ^ (n + 1 + 1) := by
            have : (0 : Int) < 128 ^ (n + 1) := Int.pow_pos (by decide)
            rw [Int.pow_succ]
            omega
          have hb128 : b * 128 ^ i ≤ 127 * 128 ^ i := Int.mul_le_mul_of_nonneg_right (by omega) (by omega)
          have h8 : (128 : Int) ^ i ≤ 128 ^ 8 := by
            have : i ≤ 8 := by omega
            exact_mod_cast Nat.pow_le_pow_right (by decide : 0 < 128) this
          have h88 : (127 : Int) * 128 ^ 8 < 18446744073709551616 := by decide
          refine ⟨b, hb0, fun hi0 => ?_, by omega, by omega, ?_, ?_, ?_⟩
          · rcases Int.lt_or_le 0 b with h | h
            · exact h
            · exact absurd (Or.inr ⟨hi0, by omega⟩) c
          · simp only [enc]
            rw [if_neg (by omega)]
            simp
          · simp only [enc]
            rw [if_neg (by omega)]
            simp
          · simp only [enc]
            rw [if_neg (by omega)]
            simp
        · rw [if_neg c2] at h ⊢
          obtain ⟨u, hu0, huz, hu1, hu2, hu3, hu4, hu5⟩ := ih (i + 1) (acc + (b - 128) * 128 ^ i) l (by omega) hl h
          have hu := huz (by omega)
          have e1 : (128 * u + (b - 128)) % 128 = b - 128 := by omega
          have e2 : (128 * u + (b - 128)) / 128 = u := by omega
          have e3 : enc (n + 1) (128 * u + (b - 128)) = b :: enc n u := by
            rw [enc, if_pos (by omega), e1, e2]
            congr 1
            omega
          have e4 : (128 * u + (b - 128)) * 128 ^ i = (b - 128) * 128 ^ i + u * 128 ^ (i + 1) := by
            rw [Int.pow_succ, Int.add_mul, Int.add_comm]
            congr 1
            rw [Int.mul_comm 128 u, Int.mul_assoc, Int.mul_comm 128 (128 ^ i)]
          refine ⟨128 * u + (b - 128), by omega, fun _ => by omega, ?_, ?_, ?_, ?_, ?_⟩
          · rw [e4]
            have hlow : (b - 128) * 128 ^ i ≤ 127 * 128 ^ i := Int.mul_le_mul_of_nonneg_right (by omega) (by omega)
            -- the whole is below 2^64, for what is above is a multiple
            have hi8 : i ≤ 8 := by omega
            have hq : u * 128 ^ (i + 1) + 128 ^ (i + 1) ≤ 18446744073709551616 ∨ i = 8 := by
              rcases Nat.lt_or_ge i 8 with hi7 | hi7
              · left
                have hc : i = 0 ∨ i = 1 ∨ i = 2 ∨ i = 3 ∨ i = 4 ∨ i = 5 ∨ i = 6 ∨ i = 7 := by omega
                rcases hc with rfl | rfl | rfl | rfl | rfl | rfl | rfl | rfl <;> (simp only [Nat.zero_add, Nat.reduceAdd, Int.reducePow] at hu1 ⊢; omega)
              · right; omega
            rcases hq with hq | hq
            · rw [Int.pow_succ] at hq ⊢
              omega
            · subst hq
              simp only [Nat.reduceAdd, Int.reducePow] at hu1 hlow ⊢
              omega
          · rw [Int.pow_succ]
            omega
          · rw [hu3, e3, e4]
            simp
            omega
          · rw [e3]
            simpa using hu4
          · rw [e3]
            simpa using hu5
theorem dec_bad (n : Nat) : ∀ (i : Nat) (acc : Int) (l : List Int), (dec n i acc l).2.2 ≠ 0 → (dec n i acc l).1 = 0 ∧ (dec n i acc l).2.1 = 0 := by
  induction n with
  | zero => intro i acc l h; simp [dec]
  | succ n ih =>
    intro i acc l h
    cases l with
    | nil => simp [dec]
    | cons b l =>
      rw [dec] at h ⊢
      split
      · simp
      · rename_i c
        rw [if_neg c] at h
        split
        · rename_i c2
          rw [if_pos c2] at h
          simp at h
        · rename_i c2
          rw [if_neg c2] at h
          exact ih _ _ _ h

theorem get_put (v : Int) (rest : List Int) (h0 : 0 ≤ v) (h1 : v < 18446744073709551616) : dec 10 0 0 (enc 9 v ++ rest) = (v, ((enc 9 v).length : Int), 0) := by
  have := dec_enc 9 0 0 v rest (by omega) h0 (by omega) (by simpa using h1)
  simpa using this
theorem get_back (l : List Int) (hl : Bytes l) (h : (dec 10 0 0 l).2.2 = 0) : ∃ u : Int, 0 ≤ u ∧ u < 18446744073709551616 ∧ dec 10 0 0 l = (u, ((enc 9 u).length : Int), 0) ∧ (enc 9 u).length ≤ l.length ∧ l.take (enc 9 u).length = enc 9 u := by
  obtain ⟨u, h1, _, h2, _, h3, h4, h5⟩ := dec_back 9 0 0 l (by omega) hl h
  exact ⟨u, h1, by simpa using h2, by simpa using h3, h4, h5⟩
theorem get_cut (v : Int) (j : Nat) (h0 : 0 ≤ v) (h1 : v < 18446744073709551616) (hj : j < (enc 9 v).length) : dec 10 0 0 ((enc 9 v).take j) = (0, 0, 3) :=
  dec_cut 9 0 0 v j (by omega) h0 (by omega) (by simpa using (show v < 1180591620717411303424 by omega)) hj
theorem awake_ok (k : Nat) (hk : 31 ≤ k) : tallymanlaw4_awake.f k = some true := by
  simp only [tallymanlaw4_awake.f]
  have e : enc 9 300 = [172, 2] := by decide
  rw [put_eq [] 300 k (by omega) (by omega) (by omega) (by simp), Option.bind_some, List.nil_append, e]
  rw [get_eq [172, 2] (by intro x hx; simp at hx; rcases hx with rfl | rfl <;> (unfold Byte; omega)) k hk, show dec 10 0 0 [172, 2] = (300, 2, 0) by decide]
  have hs : ∀ l : List Int, (strOfNums l).toList = l.map fun n => UInt8.ofNat n.toNat := fun l => by rw [ByteArray.toList_eq, strOfNums_data]
  simp only [Option.bind_some, hs]
  rfl
theorem size_eq (v : Int) (k : Nat) (h0 : 0 ≤ v) (h1 : v < 18446744073709551616) (hk : 10 ≤ k) : num_Size.f k v = some ((enc 9 v).length : Int) := by
  simp only [num_Size.f]
  rw [put_eq [] v k h0 h1 hk (by simp)]
  simp
theorem str_eq (a b : List Int) (ha : Bytes a) (hb : Bytes b) : (strOfNums a).toList = (strOfNums b).toList ↔ a = b := by
  have hs : ∀ l : List Int, (strOfNums l).toList = l.map fun n => UInt8.ofNat n.toNat := fun l => by rw [ByteArray.toList_eq, strOfNums_data]
  rw [hs, hs]
  constructor
  · intro h
    induction a generalizing b with
    | nil => cases b with
      | nil => rfl
      | cons y b => simp at h
    | cons x a ih =>
      cases b with
      | nil => simp at h
      | cons y b =>
        obtain ⟨hx, ha⟩ := ha.cons
        obtain ⟨hy, hb⟩ := hb.cons
        simp only [List.map_cons, List.cons.injEq] at h
        have h1 := congrArg UInt8.toNat h.1
        obtain ⟨hx0, hx1⟩ := hx
        obtain ⟨hy0, hy1⟩ := hy
        rw [UInt8.toNat_ofNat_of_lt' (by simp [UInt8.size]; omega), UInt8.toNat_ofNat_of_lt' (by simp [UInt8.size]; omega)] at h1
        rw [ih b ha hb h.2, show x = y by omega]
  · rintro rfl
    rfl
theorem str_beq (a b : List Int) (ha : Bytes a) (hb : Bytes b) : ((strOfNums a).toList == (strOfNums b).toList) = decide (a = b) := by
  rw [Bool.eq_iff_iff]
  simp [str_eq a b ha hb]
end Go.Proofs.Ytlaojndlelcdaaa.Pure
