/- Put together by pack.py: Str -/
import Derived.Test.YtidlldfghkaeeaaDoorZmShelf
import Derived.Test.YtidlldfghkaeeaaDoorZmW0
import Derived.Shelf.Strings.SlTrimAscii
import Derived.Lib.IndexBytes
import Derived.Lib.SplitLaws
namespace Go.Proofs.YtidlldfghkaeeaaDoor.P
open Go.RowKit Go.Proofs.YtidlldfghkaeeaaDoorW.PrintWords Go.Proofs.YtidlldfghkaeeaaDoorW.PrintLast Go.Proofs.YtidlldfghkaeeaaDoorW.PrintMore
set_option linter.unusedVariables false
set_option linter.unusedSimpArgs false

/-- The one separator. -/
def sep_ : ByteArray := ⟨#[47]⟩
theorem sep_eq {a : ByteArray} (h : a.data = #[47]) : a = ⟨#[47]⟩ := by
  cases a
  subst h
  rfl
def strings_Contains.f (a0 a1 : ByteArray) : Option Bool := if a1.data = #[47] then some (decide (0 ≤ Lib.indexByte a0.data.toList 47)) else none
theorem strings_Contains.calls (a0 a1 : ByteArray) (r : Bool) (w : World) (h : strings_Contains.f a0 a1 = some r) :
    Calls Tryd.prog 84 #[.string a0, .string a1] w fun e w' => e = .returned (.bool r) ∧ Drawn0 w w' := by
  unfold strings_Contains.f at h
  split at h
  · rename_i hs
    obtain rfl := sep_eq hs
    obtain rfl := Option.some.inj h
    have c : Calls Tryd.prog 84 #[.string a0, .string ⟨#[47]⟩] w _ := Any.strings_Contains_one Tryd.lays144 a0 47 w
    refine c.mono ?_
    rintro e w' ⟨rfl, rfl⟩
    exact ⟨rfl, Drawn0.refl _⟩
  · cases h
def strings_Count.f (a0 a1 : ByteArray) : Option Int := if a1.data = #[47] then some ((Lib.countByte a0.data.toList 47 : Nat) : Int) else none
theorem strings_Count.calls (a0 a1 : ByteArray) (r : Int) (w : World) (h : strings_Count.f a0 a1 = some r) :
    Calls Tryd.prog 89 #[.string a0, .string a1] w fun e w' => e = .returned (.int .i64 r) ∧ Drawn0 w w' := by
  unfold strings_Count.f at h
  split at h
  · rename_i hs
    obtain rfl := sep_eq hs
    obtain rfl := Option.some.inj h
    have c : Calls Tryd.prog 89 #[.string a0, .string ⟨#[47]⟩] w _ := Any.strings_Count_one Tryd.lays138 a0 47 w
    refine c.mono ?_
    rintro e w' ⟨rfl, rfl⟩
    exact ⟨rfl, Drawn0.refl _⟩
  · cases h
def strings_LastIndex.f (a0 a1 : ByteArray) : Option Int := if a1.data = #[47] then if a0.size < 4611686018427387904 then some (Lib.lastIndexByte a0 47) else none else none
theorem strings_LastIndex.calls (a0 a1 : ByteArray) (r : Int) (w : World) (h : strings_LastIndex.f a0 a1 = some r) :
    Calls Tryd.prog 105 #[.string a0, .string a1] w fun e w' => e = .returned (.int .i64 r) ∧ Drawn0 w w' := by
  unfold strings_LastIndex.f at h
  split at h
  · rename_i hs
    obtain rfl := sep_eq hs
    split at h
    · rename_i hz
      obtain rfl := Option.some.inj h
      have c : Calls Tryd.prog 105 #[.string a0, .string ⟨#[47]⟩] w _ := Any.strings_LastIndex_one Tryd.lays148 a0 ⟨#[47]⟩ rfl hz w
      refine c.mono ?_
      rintro e w' ⟨rfl, rfl⟩
      exact ⟨rfl, Drawn0.refl _⟩
    · cases h
  · cases h
def strings_Trim.f (a0 a1 : ByteArray) : Option ByteArray := if a1.size < 4294967281 then if a0.size ≤ 9223372036854775807 then if a1.data.toList.all (fun b => decide (b.toNat < 128)) then some ⟨(Lib.trimS a0.data.toList a1.data.toList).toArray⟩ else none else none else none
theorem strings_Trim.calls (a0 a1 : ByteArray) (r : ByteArray) (w : World) (h : strings_Trim.f a0 a1 = some r) :
    Calls Tryd.prog 109 #[.string a0, .string a1] w fun e w' => e = .returned (.string r) ∧ Below w.heap.size w w' := by
  unfold strings_Trim.f at h
  split at h
  · rename_i h1
    split at h
    · rename_i h2
      split at h
      · rename_i h3
        obtain rfl := Option.some.inj h
        have c : Calls Tryd.prog 109 #[.string a0, .string a1] w _ := Any.strings_Trim_laid Tryd.lays160 (by kernel_rfl) a0 a1 w h2 h1 (fun j b hj => of_decide_eq_true (List.all_eq_true.1 h3 b (List.mem_of_getElem? hj)))
        refine c.mono ?_
        rintro e w' ⟨rfl, hb⟩
        exact ⟨rfl, hb⟩
      · cases h
    · cases h
  · cases h
/-- The pieces. -/
def strings_Split.f (a0 a1 : ByteArray) : Option (List ByteArray) := if a1.data = #[47] then if a0.size < 4294967281 then some (Lib.splitB ⟨#[47]⟩ 0 (Lib.countB a0 ⟨#[47]⟩) a0) else none else none
theorem info9s : (Tryd.prog.info? 9).map (fun i => (i.zero, i.size, i.bytes)) = some (some (.string ByteArray.empty), 1, 16) := by kernel_rfl
theorem R_block {W : World} {b B : Nat} {xs : List ByteArray} (h : W.heap[b]? = some (.cells (xs.map Value.string).toArray 9 (0, 0))) (hB : B ≤ b) (hm : xs.length ≤ 9223372036854775807) :
    Kd.R Kd.string 9 W B (fun _ => True) (.slice (some ⟨b, 0, none⟩) xs.length xs.length) xs := by
  refine Kd.R_of_own (enc := Value.string) (h1 := fun _ => rfl) ?_ (fun _ _ => trivial)
  refine ⟨by simp [encs], .inr ⟨b, xs.length, (xs.map Value.string).toArray, rfl, hB, h, Nat.le_refl _, hm, by simp, by simp only [encs, Nat.mul_one]; rw [List.take_of_length_le (by simp)]⟩⟩
theorem strings_Split.calls (a0 a1 : ByteArray) (r : List ByteArray) (w : World) (h : strings_Split.f a0 a1 = some r) :
    Calls Tryd.prog 85 #[.string a0, .string a1] w fun e w' => ∃ v0_ : Value, e = .returned (v0_) ∧ Kd.R Kd.string 9 w' w.heap.size (fun _ => True) v0_ r ∧ Below w.heap.size w w' := by
  unfold strings_Split.f at h
  split at h
  · rename_i hs
    obtain rfl := sep_eq hs
    split at h
    · rename_i hz
      obtain rfl := Option.some.inj h
      have hle := Lib.countB_le ⟨#[47]⟩ (Nat.le_refl _) a0.size a0 (Nat.le_refl _)
      have hlen := Lib.splitB_all ⟨#[47]⟩ (Nat.le_refl _) 0 _ a0 rfl
      have hI : ∀ (x : ByteArray) (c : Array Value), x.size ≤ a0.size → Calls Tryd.prog 106 #[.string x, .string ⟨#[47]⟩] (w.alloc (.cells c 9)) fun e w' => e = .returned (.int .i64 (Lib.indexB x ⟨#[47]⟩)) ∧ w' = w.alloc (.cells c 9) := fun x c _ => by
        have c1 : Calls Tryd.prog 106 #[.string x, .string ⟨#[47]⟩] (w.alloc (.cells c 9)) _ := Any.strings_Index_one Tryd.lays143 x 47 _
        refine c1.mono ?_
        rintro e w' ⟨rfl, rfl⟩
        exact ⟨by rw [show Lib.indexB x ⟨#[47]⟩ = Lib.index x.data.toList [47] from rfl, Lib.index_one], rfl⟩
      have hC : Calls Tryd.prog 89 #[.string a0, .string ⟨#[47]⟩] w fun e w' => e = .returned (.int .i64 (Lib.countB a0 ⟨#[47]⟩)) ∧ w' = w := by
        have c1 : Calls Tryd.prog 89 #[.string a0, .string ⟨#[47]⟩] w _ := Any.strings_Count_one Tryd.lays138 a0 47 w
        refine c1.mono ?_
        rintro e w' ⟨rfl, rfl⟩
        exact ⟨by rw [show Lib.countB a0 ⟨#[47]⟩ = Lib.count a0.data.toList [47] from rfl, Lib.count_one]; rfl, rfl⟩
      have c : Calls Tryd.prog 107 #[.string a0, .string ⟨#[47]⟩, .int .i64 (0 : Nat), .int .i64 (-1)] w _ := Any.strings_genSplit_core Tryd.lays221 info9s a0 ⟨#[47]⟩ 0 (-1) (Lib.countB a0 ⟨#[47]⟩ + 1) w hz (Nat.le_refl _) (Nat.zero_le _) hI hC (by decide) (by decide) (by rw [if_pos (by decide)]; omega)
      rw [Nat.add_sub_cancel, hlen] at c
      have e2 : Lib.cellsOf (Lib.splitB ⟨#[47]⟩ 0 (Lib.countB a0 ⟨#[47]⟩) a0) (Lib.countB a0 ⟨#[47]⟩ + 1) = ((Lib.splitB ⟨#[47]⟩ 0 (Lib.countB a0 ⟨#[47]⟩) a0).map Value.string).toArray := by rw [← hlen]; exact Lib.cellsOf_full _
      rw [e2] at c
      replace c : Calls Tryd.prog 107 #[.string a0, .string ⟨#[47]⟩, .int .i64 (0 : Nat), .int .i64 (-1)] w fun e w' => e = .returned (.slice (some ⟨w.heap.size, 0, none⟩) (Lib.countB a0 ⟨#[47]⟩ + 1) (Lib.countB a0 ⟨#[47]⟩ + 1)) ∧ w' = w.alloc (.cells ((Lib.splitB ⟨#[47]⟩ 0 (Lib.countB a0 ⟨#[47]⟩) a0).map Value.string).toArray 9) := c
      have hR := R_block (W := w.alloc (.cells ((Lib.splitB ⟨#[47]⟩ 0 (Lib.countB a0 ⟨#[47]⟩) a0).map Value.string).toArray 9)) (b := w.heap.size) (B := w.heap.size) (xs := Lib.splitB ⟨#[47]⟩ 0 (Lib.countB a0 ⟨#[47]⟩) a0) (blk_new _ _) (Nat.le_refl _) (by rw [hlen]; omega)
      rw [hlen] at hR
      have hb := below_alloc (Below.refl w.heap.size w) (.cells ((Lib.splitB ⟨#[47]⟩ 0 (Lib.countB a0 ⟨#[47]⟩) a0).map Value.string).toArray 9)
      generalize Lib.splitB ⟨#[47]⟩ 0 (Lib.countB a0 ⟨#[47]⟩) a0 = ps at *
      generalize w.alloc (.cells (ps.map Value.string).toArray 9) = w2 at *
      clear hI hC e2 hlen hle hs h hz
      go_enter Tryd.func85, Tryd.ntmps85
      go_wp2_with (go_at_call 107; refine c.mono ?_; rintro e w' ⟨rfl, rfl⟩)
      go_ret
      exact ⟨_, rfl, hR, hb⟩
    · cases h
  · cases h
end Go.Proofs.YtidlldfghkaeeaaDoor.P
