/- Put together by pack.py: Pth -/
import Derived.Test.YtidlldfghkaeeaaDoorZmCmpS
namespace Go.Proofs.YtidlldfghkaeeaaDoor.P
open Go.RowKit Go.Proofs.YtidlldfghkaeeaaDoorW.PrintWords Go.Proofs.YtidlldfghkaeeaaDoorW.PrintLast Go.Proofs.YtidlldfghkaeeaaDoorW.PrintMore
set_option linter.unusedVariables false
set_option linter.unusedSimpArgs false

/-- The letters of names. -/
def letters_ : ByteArray := ⟨#[97, 98, 99, 100, 101, 102, 103, 104, 105, 106, 107, 108, 109, 110, 111, 112, 113, 114, 115, 116, 117, 118, 119, 120, 121, 122, 48, 49, 50, 51, 52, 53, 54, 55, 56, 57, 46, 45, 95]⟩
def trimmed (s : ByteArray) : ByteArray := ⟨(Lib.trimS s.data.toList letters_.data.toList).toArray⟩
theorem Trim_letters (s : ByteArray) (w : World) (hs : s.size ≤ 9223372036854775807) : Calls Tryd.prog 109 #[.string s, .string letters_] w fun e w' => e = .returned (.string (trimmed s)) ∧ Below w.heap.size w w' :=
  strings_Trim.calls s letters_ (trimmed s) w (by unfold strings_Trim.f; rw [if_pos (by decide), if_pos hs, if_pos (by decide)]; rfl)
/-- A name that may be. -/
def GN (s : ByteArray) : Prop := s.toList ≠ [] ∧ (s.size : Int) ≤ 16 ∧ s.toList ≠ [46] ∧ s.toList ≠ [46, 46] ∧ (trimmed s).toList = []
instance (s : ByteArray) : Decidable (GN s) := by unfold GN; exact inferInstance
set_option maxHeartbeats 4000000 in
theorem goodName_calls (s : ByteArray) (w : World) (hs : s.size ≤ 9223372036854775807) : Calls Tryd.prog 88 #[.string s] w fun e w' => e = .returned (.bool (decide (GN s))) ∧ Below w.heap.size w w' := by
  have hT := fun w => Trim_letters s w hs
  unfold letters_ at hT
  generalize htr : trimmed s = tr at hT
  have HT := Aside0.mk htr
  clear htr
  go_enter Tryd.func88, Tryd.ntmps88
  go_wp2_with (go_at_call 109; refine (hT _).mono ?_; rintro e w' ⟨rfl, hb⟩)
  all_goals go_ret
  all_goals have htr := HT.out
  all_goals refine ⟨?_, by first | exact Below.refl _ _ | assumption⟩
  all_goals (simp [GN, htr, *] <;> first | omega | (rw [Bool.eq_iff_iff]; simp [*]))
theorem Good1_calls (s : ByteArray) (w : World) (hs : s.size ≤ 9223372036854775807) : Calls Tryd.prog 87 #[.string s] w fun e w' => e = .returned (.bool (!decide (GN s))) ∧ Below w.heap.size w w' := by
  go_enter Tryd.func87, Tryd.ntmps87
  go_wp2_with (go_at_call 88; refine (goodName_calls s _ hs).mono ?_; rintro e w' ⟨rfl, hb⟩)
  go_ret
  exact ⟨rfl, by assumption⟩
set_option maxHeartbeats 4000000 in
theorem IndexGood_calls (A : Option Addr) (c : Nat) (ps : List ByteArray) (w : World) (hC : Kd.string.C w A ps.length ps) (hl : ps.length ≤ 9223372036854775807) (hs : ∀ x ∈ ps, x.size ≤ 9223372036854775807) :
    Calls Tryd.prog 108 #[.slice A ps.length c, .func (.func 87) #[] #[]] w fun e w' => ∃ r : Int, e = .returned (.int .i64 r) ∧ (0 ≤ r ↔ ∃ x ∈ ps, ¬ GN x) ∧ Below w.heap.size w w' := by
  have HS := Aside0.mk hs
  clear hs
  have HL := Aside0.mk hl
  clear hl
  go_enter Tryd.func108, Tryd.ntmps108
  go_wp2_with (fail)
  go_loopg [5, 8] ps.length (fun gg s5 s8 wr => ∃ i : Nat, i ≤ ps.length ∧ gg = ps.length - i ∧ s8 = .int .i64 i ∧ (∀ x ∈ ps.take i, GN x) ∧ Below w.heap.size w wr)
  case atStart => exact ⟨0, Nat.zero_le _, rfl, rfl, by simp, Below.refl _ _⟩
  case round =>
    obtain ⟨i, hi, rfl, rfl, hg, hb⟩ := hrel
    by_cases a : i < ps.length
    · have a1 : decide ((i : Int) < (ps.length : Int)) = true := decide_eq_true (by omega)
      obtain ⟨ad, cs, rfl, hcl, hK, hc0⟩ := Kd.C_get (Kd.C_below hC hb) (ByteArray.empty) (i : Int) (by omega) (by omega)
      have hx : ps.getD i ByteArray.empty = ps[i] := by rw [List.getD_eq_getElem?_getD, List.getElem?_eq_getElem a]; rfl
      rw [Int.toNat_natCast, hx] at hK
      rw [Int.toNat_natCast] at hc0
      have hmem : ps[i] ∈ ps := List.getElem_mem a
      have htake : ∀ x ∈ ps.take (i + 1), x ∈ ps.take i ∨ x = ps[i] := fun x hx => by
        rw [List.take_add_one, List.getElem?_eq_getElem a, List.mem_append] at hx
        simpa using hx
      generalize ps[i] = x at *
      obtain rfl : cs = [.string x] := hK
      have c0 := hc0 0 _ rfl
      rw [show Kd.string.sz = 1 from rfl, Nat.mul_one, Nat.add_zero] at c0
      have hsx := HS.out x hmem
      have HG := Aside0.mk hg
      clear hg hc0 hcl
      have hP := fun W => Good1_calls x W hsx
      have HT := Aside0.mk htake
      clear htake
      by_cases hx : GN x
      · have hxb : decide (GN x) = true := decide_eq_true hx
        simp only [hxb] at hP
        go_wp2_with (go_at_call 87; refine (hP _).mono ?_; rintro e w2 ⟨rfl, hb2⟩)
        go_roundg (ps.length - (i + 1))
        case measure => omega
        case rel =>
          have hl := HL.out
          have hw : wrap64 ((i : Int) + 1) = ((i + 1 : Nat) : Int) := by unfold wrap64; omega
          exact ⟨i + 1, by omega, rfl, by first | (rw [hw]) | go_num, fun y hy => (HT.out y hy).elim (HG.out y) (fun e => e ▸ hx), hb.trans (hb2.mono hb.size)⟩
      · have hxb : decide (GN x) = false := decide_eq_false hx
        simp only [hxb] at hP
        go_wp2_with (go_at_call 87; refine (hP _).mono ?_; rintro e w2 ⟨rfl, hb2⟩)
        go_ret
        exact ⟨_, rfl, ⟨fun _ => ⟨x, hmem, hx⟩, fun _ => by omega⟩, hb.trans (hb2.mono hb.size)⟩
    · have a1 : decide ((i : Int) < (ps.length : Int)) = false := decide_eq_false (by omega)
      go_wp2_with (fail)
      go_ret
      refine ⟨_, rfl, ⟨fun h => absurd h (by decide), fun ⟨x, hx, hn⟩ => absurd (hg x ?_) hn⟩, hb⟩
      rw [List.take_of_length_le (by omega)]
      exact hx
instance (ps : List ByteArray) : Decidable (∃ x ∈ ps, ¬ GN x) := decidable_of_iff (ps.any (fun x => !decide (GN x)) = true) (by simp)
theorem ContainsGood_calls (A : Option Addr) (c : Nat) (ps : List ByteArray) (w : World) (hC : Kd.string.C w A ps.length ps) (hl : ps.length ≤ 9223372036854775807) (hs : ∀ x ∈ ps, x.size ≤ 9223372036854775807) :
    Calls Tryd.prog 86 #[.slice A ps.length c, .func (.func 87) #[] #[]] w fun e w' => e = .returned (.bool (decide (∃ x ∈ ps, ¬ GN x))) ∧ Below w.heap.size w w' := by
  have hI := IndexGood_calls A c ps w hC hl hs
  clear hC hl hs
  by_cases hx : ∃ x ∈ ps, ¬ GN x
  · have hxb : decide (∃ x ∈ ps, ¬ GN x) = true := decide_eq_true hx
    rw [hxb]
    have HX := Aside0.mk hx
    clear hx hxb
    go_enter Tryd.func86, Tryd.ntmps86
    go_wp2_with (go_at_call 108; refine hI.mono ?_; rintro e w2 ⟨r, rfl, hr, hb2⟩; have hr2 : decide ((0 : Int) ≤ r) = true := decide_eq_true (hr.2 HX.out); clear hr)
    go_ret
    exact ⟨rfl, by assumption⟩
  · have hxb : decide (∃ x ∈ ps, ¬ GN x) = false := decide_eq_false hx
    rw [hxb]
    have HX := Aside0.mk hx
    clear hx hxb
    go_enter Tryd.func86, Tryd.ntmps86
    go_wp2_with (go_at_call 108; refine hI.mono ?_; rintro e w2 ⟨r, rfl, hr, hb2⟩; have hr2 : decide ((0 : Int) ≤ r) = false := decide_eq_false (fun h => HX.out (hr.1 h)); clear hr)
    go_ret
    exact ⟨rfl, by assumption⟩
/-- A path that may be: the pieces are no more than four, each a name. -/
def GPieces (ps : List ByteArray) : Prop := ps.length ≤ 4 ∧ ∀ x ∈ ps, GN x
instance (ps : List ByteArray) : Decidable (GPieces ps) := by unfold GPieces; exact inferInstance
theorem splitB_size (sep : ByteArray) : ∀ (k : Nat) (s : ByteArray), ∀ x ∈ Lib.splitB sep 0 k s, x.size ≤ s.size
  | 0, s, x, h => by
    rw [Lib.splitB_zero, List.mem_singleton] at h
    rw [h]
    exact Nat.le_refl _
  | k + 1, s, x, h => by
    unfold Lib.splitB at h
    split at h
    · rw [List.mem_singleton] at h
      rw [h]
      exact Nat.le_refl _
    · rcases List.mem_cons.1 h with h | h
      · rw [h, ByteArray.size_extract]
        omega
      · have := splitB_size sep k _ x h
        rw [ByteArray.size_extract] at this
        omega
def pieces (s : ByteArray) : List ByteArray := Lib.splitB ⟨#[47]⟩ 0 (Lib.countB s ⟨#[47]⟩) s
/-- What Good hands back. -/
def path_Good.f (a0 : ByteArray) : Option Bool := if a0.size < 4294967281 then some (decide (GPieces (pieces a0))) else none
set_option maxHeartbeats 4000000 in
theorem path_Good.calls (a0 : ByteArray) (r : Bool) (w : World) (h : path_Good.f a0 = some r) :
    Calls Tryd.prog 41 #[.string a0] w fun e w' => e = .returned (.bool r) ∧ Below w.heap.size w w' := by
  unfold path_Good.f at h
  split at h
  · rename_i hz
    obtain rfl := Option.some.inj h
    clear h
    have hS := strings_Split.calls a0 ⟨#[47]⟩ (pieces a0) w (by unfold strings_Split.f; rw [if_pos rfl, if_pos hz]; rfl)
    have hsz : ∀ x ∈ pieces a0, x.size ≤ 9223372036854775807 := fun x hx => by
      have := splitB_size _ _ _ x hx
      omega
    have HS := Aside0.mk hsz
    clear hsz
    generalize pieces a0 = ps at *
    by_cases h4 : (4 : Int) < (ps.length : Int)
    · have h4b : decide ((4 : Int) < (ps.length : Int)) = true := decide_eq_true h4
      have hg : decide (GPieces ps) = false := decide_eq_false (fun h => by have := h.1; omega)
      rw [hg]
      clear hg
      go_enter Tryd.func41, Tryd.ntmps41
      go_wp2_with (go_at_call 85; refine hS.mono ?_; rintro e w2 ⟨v, rfl, hR, hb⟩; obtain ⟨A, c, rfl, hc, hC⟩ := Kd.R_reads hR)
      go_ret
      exact ⟨rfl, by assumption⟩
    · have h4b : decide ((4 : Int) < (ps.length : Int)) = false := decide_eq_false h4
      go_enter Tryd.func41, Tryd.ntmps41
      go_wp2_with (first
        | (go_at_call 85; refine hS.mono ?_; rintro e w2 ⟨v, rfl, hR, hb⟩; obtain ⟨A, c, rfl, hc, hC⟩ := Kd.R_reads hR)
        | (go_at_call 86; refine (ContainsGood_calls A c ps w2 hC (by omega) HS.out).mono ?_; rintro e w3 ⟨rfl, hb3⟩))
      go_ret
      refine ⟨?_, hb.trans (hb3.mono hb.size)⟩
      suffices e : decide (GPieces ps) = !decide (∃ x ∈ ps, ¬ GN x) by rw [e]; rfl
      rw [Bool.eq_iff_iff]
      simp only [decide_eq_true_eq, Bool.not_eq_true', decide_eq_false_iff_not, not_exists, not_and, Decidable.not_not]
      exact ⟨fun h x hx => h.2 x hx, fun h => ⟨by omega, h⟩⟩
  · cases h
end Go.Proofs.YtidlldfghkaeeaaDoor.P
