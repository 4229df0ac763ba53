/- Put together by pack.py: PthPure -/
import Derived.Test.YtidlldfghkaeeaaDoorZmPth
import Derived.Lib.IndexBytes
import Derived.Lib.LastIndexByte
namespace Go.Proofs.YtidlldfghkaeeaaDoor.P
open Go.RowKit
set_option linter.unusedVariables false
set_option linter.unusedSimpArgs false

/-- A text cut at its slashes. -/
def sp : List UInt8 → List (List UInt8)
  | [] => [[]]
  | b :: l => if b = 47 then [] :: sp l else match sp l with
    | [] => [[b]]
    | x :: xs => (b :: x) :: xs
theorem sp_ne : ∀ l, sp l ≠ []
  | [] => by simp [sp]
  | b :: l => by
    unfold sp
    split
    · simp
    · split <;> simp
theorem sp_slash (l : List UInt8) : sp (47 :: l) = [] :: sp l := by simp [sp]
theorem sp_cons {b : UInt8} {l x : List UInt8} {xs : List (List UInt8)} (h : b ≠ 47) (e : sp l = x :: xs) : sp (b :: l) = (b :: x) :: xs := by
  unfold sp
  rw [if_neg h, e]
theorem sp_app : ∀ (p x : List UInt8), sp (p ++ 47 :: x) = sp p ++ sp x
  | [], x => by rw [List.nil_append, sp_slash]; rfl
  | b :: p, x => by
    by_cases h : b = 47
    · subst h
      rw [List.cons_append, sp_slash, sp_slash, sp_app p x]
      rfl
    · obtain ⟨y, ys, e⟩ := List.exists_cons_of_ne_nil (sp_ne p)
      rw [List.cons_append, sp_cons h (x := y) (xs := ys ++ sp x) (by rw [sp_app p x, e]; rfl), sp_cons h e]
      rfl
theorem sp_none : ∀ (x : List UInt8), 47 ∉ x → sp x = [x]
  | [], _ => rfl
  | b :: x, h => by
    have hb : b ≠ 47 := fun e => h (by rw [e]; exact List.mem_cons_self)
    exact sp_cons hb (sp_none x (fun hm => h (List.mem_cons_of_mem _ hm)))
theorem sp_mem : ∀ (l x : List UInt8), x ∈ sp l → 47 ∉ x
  | [], x, h => by
    have : x = [] := by simpa [sp] using h
    rw [this]
    simp
  | b :: l, x, h => by
    by_cases hb : b = 47
    · subst hb
      rw [sp_slash] at h
      rcases List.mem_cons.1 h with h | h
      · rw [h]; simp
      · exact sp_mem l x h
    · obtain ⟨y, ys, e⟩ := List.exists_cons_of_ne_nil (sp_ne l)
      rw [sp_cons hb e] at h
      rcases List.mem_cons.1 h with h | h
      · rw [h]
        have := sp_mem l y (by rw [e]; exact List.mem_cons_self)
        intro hm
        rcases List.mem_cons.1 hm with hm | hm
        · exact hb hm.symm
        · exact this hm
      · exact sp_mem l x (by rw [e]; exact List.mem_cons_of_mem _ h)
theorem sp_len : ∀ l : List UInt8, (sp l).length = l.count 47 + 1
  | [] => rfl
  | b :: l => by
    by_cases hb : b = 47
    · subst hb
      rw [sp_slash, List.length_cons, sp_len l, List.count_cons_self]
    · obtain ⟨y, ys, e⟩ := List.exists_cons_of_ne_nil (sp_ne l)
      have := sp_len l
      rw [e] at this
      rw [sp_cons hb e, List.count_cons_of_ne (by simpa using hb), ← this]
      rfl
theorem indexByte_none {l : List UInt8} {c : UInt8} : Lib.indexByte l c = -1 ↔ c ∉ l := by
  induction l with
  | nil => simp [Lib.indexByte]
  | cons b l ih =>
    unfold Lib.indexByte
    have hge := Lib.indexByte_ge l c
    by_cases h : b = c
    · subst h
      simp
    · rw [if_neg (by simpa using h)]
      split
      · rename_i h2
        rw [List.mem_cons]
        have := ih.1 (beq_iff_eq.1 h2)
        simp [this, Ne.symm h]
      · rename_i h2
        have : Lib.indexByte l c ≠ -1 := fun e => h2 (beq_iff_eq.2 e)
        have h3 : ¬ c ∉ l := fun hn => this (ih.2 hn)
        rw [Decidable.not_not] at h3
        simp [h3]
        omega
theorem splitK_sp : ∀ l : List UInt8, Lib.splitK [47] 0 (l.count 47) l = sp l
  | [] => rfl
  | b :: l => by
    have ih := splitK_sp l
    by_cases hb : b = 47
    · subst hb
      rw [List.count_cons_self, sp_slash, Lib.splitK, Lib.index_one, Lib.indexByte]
      simp [ih]
    · rw [List.count_cons_of_ne (by simpa using hb)]
      have hge := Lib.indexByte_ge l 47
      by_cases h0 : 47 ∈ l
      · obtain ⟨k, hk⟩ : ∃ k, l.count 47 = k + 1 := ⟨l.count 47 - 1, by have := List.count_pos_iff.2 h0; omega⟩
        have hi : Lib.indexByte l 47 ≠ -1 := fun e => (indexByte_none.1 e) h0
        obtain ⟨j, hj⟩ : ∃ j : Nat, Lib.indexByte l 47 = j := ⟨(Lib.indexByte l 47).toNat, by omega⟩
        rw [hk] at ih ⊢
        rw [Lib.splitK, Lib.index_one, hj, if_neg (fun h_ => by have := beq_iff_eq.1 h_; omega)] at ih
        have hx : Lib.indexByte (b :: l) 47 = ((j + 1 : Nat) : Int) := by
          rw [Lib.indexByte, if_neg (by simpa using hb), hj, if_neg (fun h_ => by have := beq_iff_eq.1 h_; omega)]
          rfl
        rw [Lib.splitK, Lib.index_one, hx, if_neg (fun h_ => by have := beq_iff_eq.1 h_; omega), sp_cons hb ih.symm]
        simp only [Int.toNat_natCast, Nat.add_zero, List.take_succ_cons, List.length_cons, List.length_nil, Nat.zero_add, List.drop_succ_cons]
      · have hk : l.count 47 = 0 := List.count_eq_zero.2 h0
        rw [hk] at ih ⊢
        rw [Lib.splitK] at ih ⊢
        rw [sp_cons hb ih.symm]
theorem pieces_sp (s : ByteArray) : (pieces s).map (·.data.toList) = sp s.data.toList := by
  unfold pieces
  rw [Lib.splitB_data, show Lib.countB s ⟨#[47]⟩ = Lib.count s.data.toList [47] from rfl, Lib.count_one]
  exact splitK_sp _
/-- A name that may be, a path that may be. -/
def Nm (x : List UInt8) : Prop := x ≠ [] ∧ x.length ≤ 16 ∧ x ≠ [46] ∧ x ≠ [46, 46] ∧ ∀ b ∈ x, b ∈ letters_.data.toList
instance (x : List UInt8) : Decidable (Nm x) := by unfold Nm; exact inferInstance
def Gd (l : List UInt8) : Prop := (sp l).length ≤ 4 ∧ ∀ x ∈ sp l, Nm x
instance (l : List UInt8) : Decidable (Gd l) := by unfold Gd; exact inferInstance
theorem dropWhile_all {p : UInt8 → Bool} : ∀ {l : List UInt8}, l.dropWhile p = [] ↔ ∀ b ∈ l, p b = true
  | [] => by simp
  | b :: l => by
    rw [List.dropWhile_cons]
    split
    · rename_i h
      rw [dropWhile_all]
      simp [h]
    · rename_i h
      simp [h]
theorem trimS_nil {l cs : List UInt8} : Lib.trimS l cs = [] ↔ ∀ b ∈ l, b ∈ cs := by
  unfold Lib.trimS Lib.trimLeftS Lib.trimRightS
  rw [dropWhile_all]
  constructor
  · intro h
    by_cases h0 : l.reverse.dropWhile (cs.contains ·) = []
    · have := dropWhile_all.1 h0
      intro b hb
      simpa using this b (List.mem_reverse.2 hb)
    · exfalso
      have h1 := List.head_dropWhile_not (p := (cs.contains ·)) (l := l.reverse) h0
      have h2 := h _ (List.mem_reverse.2 (List.head_mem h0))
      simp at h1 h2
      exact h1 h2
  · intro h b hb
    have : b ∈ l := by
      rw [List.mem_reverse] at hb
      exact List.mem_reverse.1 ((List.dropWhile_sublist _).subset hb)
    simpa using h b this
theorem GN_iff (s : ByteArray) : GN s ↔ Nm s.data.toList := by
  unfold GN Nm trimmed
  rw [Lib.toList_data, Lib.toList_data, show (⟨(Lib.trimS s.data.toList letters_.data.toList).toArray⟩ : ByteArray).data.toList = Lib.trimS s.data.toList letters_.data.toList from rfl, trimS_nil]
  have : s.size = s.data.toList.length := by rw [Array.length_toList]; rfl
  rw [this]
  constructor
  · rintro ⟨a, b, c, d, e⟩
    exact ⟨a, by omega, c, d, e⟩
  · rintro ⟨a, b, c, d, e⟩
    exact ⟨a, by omega, c, d, e⟩
theorem GPieces_iff (s : ByteArray) : GPieces (pieces s) ↔ Gd s.data.toList := by
  unfold GPieces Gd
  rw [← pieces_sp, List.length_map]
  constructor
  · rintro ⟨a, b⟩
    refine ⟨a, fun x hx => ?_⟩
    obtain ⟨y, hy, rfl⟩ := List.mem_map.1 hx
    exact (GN_iff y).1 (b y hy)
  · rintro ⟨a, b⟩
    exact ⟨a, fun x hx => (GN_iff x).2 (b _ (List.mem_map.2 ⟨x, hx, rfl⟩))⟩
theorem Good_eq {s : ByteArray} (h : s.size < 4294967281) : path_Good.f s = some (decide (Gd s.data.toList)) := by
  unfold path_Good.f
  rw [if_pos h]
  congr 1
  rw [decide_eq_decide]
  exact GPieces_iff s
end Go.Proofs.YtidlldfghkaeeaaDoor.P
