/- Put together by pack.py: Srt -/
import Derived.Test.YtidlldfghkaeeaaDoorZmSpx
import Derived.Test.YtidlldfghkaeeaaDoorZmDel
import Derived.Test.YtidlldfghkaeeaaDoorZmShelfB
namespace Go.Proofs.YtidlldfghkaeeaaDoor.P
open Go.RowKit Go.Proofs.YtidlldfghkaeeaaDoorW.PrintWords Go.Proofs.YtidlldfghkaeeaaDoorW.PrintLast Go.Proofs.YtidlldfghkaeeaaDoorW.PrintMore
set_option linter.unusedVariables false
set_option linter.unusedSimpArgs false

/-- A text that path.Cmp takes. -/
abbrev Tx := {s : ByteArray // s.size < 4294967281}
instance : Inhabited Tx := ⟨⟨ByteArray.empty, by decide⟩⟩
def cT (x y : Tx) : Int := cL (sp x.1.data.toList) (sp y.1.data.toList)
theorem cL_ntrans {xs ys zs} (h1 : cL xs ys < 0) (h2 : cL ys zs < 0) : cL xs zs < 0 := by
  have h3 := cL_trans xs ys zs (by omega) (by omega)
  by_cases h : cL xs zs = 0
  · obtain rfl := cL_eq.1 h
    have := cL_anti xs ys
    omega
  · omega
theorem swo : Go.Sort.SWO (ltOf cT) where
  irrefl x := by
    unfold ltOf cT
    rw [cL_eq.2 rfl]
    rfl
  trans x y z h1 h2 := decide_eq_true (cL_ntrans (of_decide_eq_true h1) (of_decide_eq_true h2))
  ntrans x y z h1 h2 := by
    have h1 := of_decide_eq_false h1
    have h2 := of_decide_eq_false h2
    unfold cT at h1 h2
    refine decide_eq_false ?_
    unfold cT
    rw [cL_anti] at h1 h2 ⊢
    have := cL_trans (sp z.1.data.toList) (sp y.1.data.toList) (sp x.1.data.toList) (by omega) (by omega)
    omega
theorem cT_tot (x y : Tx) (h1 : ltOf cT x y = false) (h2 : ltOf cT y x = false) : x = y := by
  have h1 := of_decide_eq_false h1
  have h2 := of_decide_eq_false h2
  unfold cT at h1 h2
  rw [cL_anti] at h2
  have := sp_inj (cL_eq.1 (show cL (sp x.1.data.toList) (sp y.1.data.toList) = 0 by omega))
  exact Subtype.ext (ByteArray.ext (Array.toList_inj.1 this))
/-- The order's test, as the sort uses it. -/
def leP (x y : ByteArray) : Bool := !decide (cL (sp y.data.toList) (sp x.data.toList) < 0)
theorem below_grow {B : Nat} {w W : World} (h : Below B w W) (hB : B ≤ W.heap.size) (os : Array Obj) : Below B w (Go.Sort.grow W os) := by
  refine ⟨h.os, h.tape, h.output, Nat.le_trans h.size (by simp), fun k hk => ?_⟩
  rw [← h.block k hk]
  exact Array.getElem?_append_left (by omega)
theorem setRow {B b n c : Nat} : ∀ (ys : List ByteArray) (W : World) (o : Nat) (xs : List ByteArray), Kd.string.R 9 W B (fun _ => True) (.slice (some ⟨b, 0, none⟩) n c) xs → o + ys.length ≤ xs.length → Kd.string.R 9 (W.setCells b o (ys.map Value.string)) B (fun _ => True) (.slice (some ⟨b, 0, none⟩) n c) (xs.take o ++ ys ++ xs.drop (o + ys.length))
  | [], W, o, xs, h, ho => by
    rw [List.append_nil, List.length_nil, Nat.add_zero, List.take_append_drop]
    exact h
  | y :: ys, W, o, xs, h, ho => by
    rw [List.length_cons] at ho
    have h1 := Kd.R_putn h (o : Int) y
    rw [Int.toNat_natCast] at h1
    have h2 := setRow ys _ (o + 1) _ h1 (by rw [List.length_set]; omega)
    have e : (xs.set o y).take (o + 1) ++ ys ++ (xs.set o y).drop (o + 1 + ys.length) = xs.take o ++ y :: ys ++ xs.drop (o + (y :: ys).length) := by
      rw [List.take_add_one, List.getElem?_set_self (by omega), List.take_set_of_le (Nat.le_refl _), List.drop_set_of_lt (by omega), List.length_cons, show o + 1 + ys.length = o + (ys.length + 1) by omega]
      simp
    rw [e] at h2
    exact h2
theorem setAll {B b c : Nat} {W : World} {xs ys : List ByteArray} (h : Kd.string.R 9 W B (fun _ => True) (.slice (some ⟨b, 0, none⟩) xs.length c) xs) (hl : ys.length = xs.length) : Kd.string.R 9 (W.setCells b 0 (ys.map Value.string)) B (fun _ => True) (.slice (some ⟨b, 0, none⟩) xs.length c) ys ∧ Below B W (W.setCells b 0 (ys.map Value.string)) := by
  have h1 := setRow ys W 0 xs h (by omega)
  rw [Nat.zero_add, hl, List.drop_length, List.append_nil, List.take_zero, List.nil_append] at h1
  refine ⟨h1, ?_⟩
  obtain ⟨_, _, _, hBb, _⟩ := rowS h
  have : ∀ (vs : List Value) (W : World) (o : Nat), Below B W (W.setCells b o vs) := fun vs => by
    induction vs with
    | nil => exact fun W o => Below.refl _ _
    | cons v vs ih => exact fun W o => ((Below.refl B W).setCell (p := ⟨b, o, none⟩) hBb v).trans (ih _ _)
  exact this _ _ _
/-- Of neighbours that are alike, one stays. -/
def dk {α : Type} [DecidableEq α] : Option α → List α → List α
  | _, [] => []
  | p, x :: xs => if p = some x then dk p xs else x :: dk (some x) xs
theorem dk_snoc {α : Type} [DecidableEq α] : ∀ (l : List α) (p : Option α) (x : α), dk p (l ++ [x]) = dk p l ++ (if l.getLast?.or p = some x then [] else [x])
  | [], p, x => by
    by_cases h : p = some x
    · simp [dk, h]
    · simp [dk, h]
  | y :: l, p, x => by
    rw [List.cons_append, dk, dk, List.getLast?_cons, Option.some_or]
    have e : ∀ q : Option α, l.getLast?.or (some y) = some (l.getLast?.getD y) := fun _ => by cases l.getLast? <;> rfl
    by_cases h : p = some y
    · rw [if_pos h, if_pos h, dk_snoc l p x, h, e p]
    · rw [if_neg h, if_neg h, dk_snoc l (some y) x, e p, List.cons_append]
theorem compactUpTo_dk {α : Type} [Inhabited α] [DecidableEq α] (zs : List α) : ∀ m, m ≤ zs.length → Lib.compactUpTo zs.toArray m = dk none (zs.take m)
  | 0, _ => rfl
  | m + 1, h => by
    rw [Lib.compactUpTo_succ, compactUpTo_dk zs m (by omega), List.take_add_one, List.getElem?_eq_getElem (by omega), Option.toList_some, dk_snoc]
    congr 1
    have e : zs.toArray[m]! = zs[m] := by simp [show m < zs.length by omega]
    rw [e]
    unfold Lib.keeps
    rw [e]
    cases m with
    | zero => simp
    | succ k =>
      have e2 : zs.toArray[k + 1 - 1]! = zs[k] := by simp [show k < zs.length by omega]
      have hk : zs[k]? = some zs[k] := List.getElem?_eq_getElem (by omega)
      have hg : (zs.take (k + 1)).getLast? = some zs[k] := by rw [List.getLast?_take, if_neg (by omega), Nat.add_sub_cancel, hk]; rfl
      rw [e2, hg]
      by_cases h : zs[k + 1] = zs[k]
      · simp [h]
      · have h2 : ¬ zs[k] = zs[k + 1] := Ne.symm h
        simp [h, h2]
theorem compact_dk {α : Type} [Inhabited α] [DecidableEq α] (zs : List α) : Lib.compact zs = dk none zs := by
  unfold Lib.compact
  rw [compactUpTo_dk zs _ (Nat.le_refl _), List.take_length]
theorem dk_map {α β : Type} [DecidableEq α] [DecidableEq β] (f : α → β) (hf : ∀ a b, f a = f b → a = b) : ∀ (l : List α) (p : Option α), dk (p.map f) (l.map f) = (dk p l).map f
  | [], _ => rfl
  | x :: l, p => by
    rw [List.map_cons, dk, dk]
    by_cases h : p = some x
    · subst h
      rw [Option.map_some, if_pos rfl, if_pos rfl]
      exact dk_map f hf l (some x)
    · rw [if_neg h, if_neg (fun e => h ?_), List.map_cons, ← dk_map f hf l (some x)]
      · rfl
      · cases p with
        | none => cases e
        | some y => rw [hf _ _ (Option.some.inj e)]
def gd (x : ByteArray) : Bool := decide (GPieces (pieces x))
theorem Compact_calls (B : Nat) (v : Value) (xs : List ByteArray) (w : World) (hR : Kd.string.R 9 w B (fun _ => True) v xs) (hB : B ≤ w.heap.size) :
    Calls Tryd.prog 96 #[v] w fun e w' => ∃ v', e = .returned v' ∧ Kd.string.R 9 w' B (fun _ => True) v' (dk none xs) ∧ Below B w w' := by
  obtain ⟨A, c, rfl, hc, hC⟩ := Kd.R_reads hR
  cases hx : xs with
  | nil =>
    subst hx
    have HR := Aside0.mk hR
    clear hR hC
    go_enter Tryd.func96, Tryd.ntmps96
    go_wp2_with (fail)
    go_ret
    exact ⟨_, rfl, HR.out, Below.refl _ _⟩
  | cons x0 xs0 =>
    obtain ⟨ad, hA, _⟩ := hC.2.2 (by rw [hx]; simp)
    subst hA
    obtain ⟨b, rfl⟩ := Kd.R_head hR
    rw [← hx]
    clear hx x0 xs0
    obtain ⟨_, hfro, hkey, hBb, hbs⟩ := rowS hR
    have hz : Lib.strsOf (fun i => xs.getD i ByteArray.empty) xs.length = Ds xs := by
      unfold Lib.strsOf Ds
      apply List.ext_getElem
      · simp
      · intro i h1 h2
        have h3 : i < xs.length := by simpa using h1
        simp [h3]
    have h := Any.slices_Compact_string_cells Tryd.lays194 b 0 xs.length c (fun i => xs.getD i ByteArray.empty) w (Kd.R_reads' hR).2.2.2.1 hc (fun i hi => by
      rw [Nat.zero_add]
      refine hkey i _ ?_
      rw [List.getD_eq_getElem?_getD, List.getElem?_eq_getElem hi]
      rfl) (fun j hj => by rw [Nat.zero_add]; exact hfro j)
    rw [hz, compact_dk, show (none : Option (List UInt8)) = (none : Option ByteArray).map (fun p => p.data.toList) from rfl, show Ds xs = xs.map (fun p : ByteArray => p.data.toList) from rfl, dk_map (fun p : ByteArray => p.data.toList) (fun a b h => ByteArray.ext (Array.toList_inj.1 h)), List.length_map] at h
    have hl : (dk none xs).length ≤ xs.length := by
      have h1 := Lib.compact_length_le xs
      rwa [compact_dk] at h1
    refine Calls.mono (show Calls Tryd.prog 96 #[.slice (some ⟨b, 0, none⟩) xs.length c] w _ from h) ?_
    rintro e w' ⟨rfl, q, rfl⟩
    have e1 : ((dk none xs).map (fun p : ByteArray => p.data.toList) ++ List.replicate (xs.length - (dk none xs).length) []).map encStr = (dk none xs ++ List.replicate (xs.length - (dk none xs).length) ByteArray.empty).map Value.string := by
      rw [List.map_append, List.map_append, List.map_replicate, List.map_replicate, List.map_map]
      rfl
    rw [e1]
    have hq : Below w.heap.size w (w.drewN q) := pw_below_drewN (Below.refl _ _) q
    obtain ⟨h1, h2⟩ := setAll (Kd.R_below hR hq) (ys := dk none xs ++ List.replicate (xs.length - (dk none xs).length) ByteArray.empty) (by simp; omega)
    have h3 := Kd.R_take (m := (dk none xs).length) h1 (by simp)
    rw [List.take_left] at h3
    exact ⟨_, rfl, h3, (hq.mono hB).trans h2⟩
theorem cmpLays {b : Nat} (size : Nat) (w : World) : CmpLays1 Tryd.prog 51 #[] (fun x : Tx => Value.string x.1) cT b 0 size w := fun m os dk hs x y =>
  (path_Cmp.exact x.1 y.1 _ x.2 y.2).mono fun _ _ ⟨he, q, os', hw⟩ => ⟨he, q, os', hw⟩
theorem eg24 : ∀ args w, (callFunc 51 args).run Tryd.prog w = .ok (.enter 51 args) w := by
  intro args w
  go_simp
theorem SortFunc_calls (B : Nat) (v : Value) (xs : List ByteArray) (w : World) (hR : Kd.string.R 9 w B (fun _ => True) v xs) (hl : xs.length < 4611686018427387904) (hB : B ≤ w.heap.size) (hs : ∀ x ∈ xs, x.size < 4294967281) :
    Calls Tryd.prog 95 #[v, .func (.func 51) #[] #[]] w fun e w' => e = .returned (.tuple #[]) ∧ Kd.string.R 9 w' B (fun _ => True) v (xs.mergeSort leP) ∧ Below B w w' := by
  obtain ⟨A, c, rfl, hc, hC⟩ := Kd.R_reads hR
  cases hx : xs with
  | nil =>
    subst hx
    refine Calls.mono (show Calls Tryd.prog 95 #[.slice A 0 c, .func (.func 51) #[] #[]] w _ from AnyF.slices_SortFunc_none { Tryd.srtf with } A c _ w) ?_
    rintro e w' ⟨rfl, rfl⟩
    exact ⟨rfl, by rw [List.mergeSort_nil]; exact hR, Below.refl _ _⟩
  | cons x0 xs0 =>
    obtain ⟨ad, hA, _⟩ := hC.2.2 (by rw [hx]; simp)
    subst hA
    obtain ⟨b, rfl⟩ := Kd.R_head hR
    rw [← hx]
    clear hx x0 xs0
    obtain ⟨_, hfro, hkey, hBb, hbs⟩ := rowS hR
    obtain ⟨zs, rfl⟩ : ∃ zs : List Tx, xs = zs.map Subtype.val := ⟨xs.attachWith _ hs, by simp⟩
    have hH : Go.Sort.Holds (fun x : Tx => Value.string x.1) w b 0 zs.toArray := fun j hj => by
      have hj' : j < zs.length := by simpa using hj
      refine ⟨?_, by rw [Nat.zero_add]; exact hfro j⟩
      rw [Nat.zero_add]
      refine hkey j _ ?_
      rw [List.getElem?_map, List.getElem?_eq_getElem hj']
      simp [hj']
    have hsz : zs.toArray.size < 4611686018427387904 := by simpa using hl
    have h := Any.slices_SortFunc_total Tryd.srtf (fun x : Tx => Value.string x.1) (fun _ => rfl) cT swo 51 #[] b 0 c zs.toArray w eg24 (cmpLays _ _) hH hbs hsz cT_tot
    have e0 : zs.toArray.size = (zs.map Subtype.val).length := by simp
    rw [e0] at h
    refine Calls.mono (show Calls Tryd.prog 95 #[.slice (some ⟨b, 0, none⟩) (zs.map Subtype.val).length c, .func (.func 51) #[] #[]] w _ from h) ?_
    rintro e w' ⟨rfl, n, os, rfl⟩
    have em : (zs.mergeSort fun x y => !(ltOf cT) y x).map Subtype.val = (zs.map Subtype.val).mergeSort leP := List.map_mergeSort (fun a _ b _ => rfl)
    have hpl : (zs.mergeSort fun x y => !(ltOf cT) y x).length = zs.toArray.size := by simp
    unfold sortWorld
    rw [Lib.putRow_eq_setCells _ w b 0 zs.toArray _ n hH hpl]
    have e1 : (zs.mergeSort fun x y => !(ltOf cT) y x).map (fun x : Tx => Value.string x.1) = ((zs.map Subtype.val).mergeSort leP).map Value.string := by
      rw [← em, List.map_map]
      rfl
    rw [e1]
    have hq : Below w.heap.size w (w.drewN n) := pw_below_drewN (Below.refl _ _) n
    obtain ⟨h1, h2⟩ := setAll (Kd.R_below hR hq) (ys := (zs.map Subtype.val).mergeSort leP) (by simp)
    have h4 : B ≤ ((w.drewN n).setCells b 0 (((zs.map Subtype.val).mergeSort leP).map Value.string)).heap.size := Nat.le_trans hB ((hq.mono hB).trans h2).size
    exact ⟨rfl, Kd.R_below h1 (below_grow (Below.refl _ _) (Nat.le_refl _) os), below_grow ((hq.mono hB).trans h2) h4 os⟩
theorem leP_iff {x y : ByteArray} : leP x y = true ↔ cL (sp x.data.toList) (sp y.data.toList) ≤ 0 := by
  unfold leP
  rw [cL_anti (sp x.data.toList) (sp y.data.toList), Bool.not_eq_true', decide_eq_false_iff_not]
  omega
theorem leP_trans (a b c : ByteArray) (h1 : leP a b = true) (h2 : leP b c = true) : leP a c = true := leP_iff.2 (cL_trans _ _ _ (leP_iff.1 h1) (leP_iff.1 h2))
theorem leP_total (a b : ByteArray) : (leP a b || leP b a) = true := by
  rw [Bool.or_eq_true, leP_iff, leP_iff, cL_anti (sp a.data.toList) (sp b.data.toList)]
  omega
theorem leP_anti {a b : ByteArray} (h1 : leP a b = true) (h2 : leP b a = true) : a = b := by
  have h1 := leP_iff.1 h1
  have h2 := leP_iff.1 h2
  rw [cL_anti (sp a.data.toList) (sp b.data.toList)] at h2
  exact ByteArray.ext (Array.toList_inj.1 (sp_inj (cL_eq.1 (show cL (sp a.data.toList) (sp b.data.toList) = 0 by omega))))
/-- Sorted, name by name: each put in its place. -/
def ins (x : ByteArray) : List ByteArray → List ByteArray
  | [] => [x]
  | y :: ys => if leP x y = true then x :: y :: ys else y :: ins x ys
def isort : List ByteArray → List ByteArray
  | [] => []
  | x :: xs => ins x (isort xs)
theorem ins_perm (x : ByteArray) : ∀ l, (ins x l).Perm (x :: l)
  | [] => .refl _
  | y :: ys => by
    unfold ins
    split
    · exact .refl _
    · exact ((ins_perm x ys).cons y).trans (.swap _ _ _)
theorem isort_perm : ∀ l, (isort l).Perm l
  | [] => .refl _
  | x :: xs => (ins_perm x _).trans ((isort_perm xs).cons x)
theorem ins_sorted (x : ByteArray) : ∀ l : List ByteArray, l.Pairwise (fun a b => leP a b = true) → (ins x l).Pairwise (fun a b => leP a b = true)
  | [], _ => by simp [ins]
  | y :: ys, h => by
    unfold ins
    have h1 := List.pairwise_cons.1 h
    split
    · rename_i hxy
      refine List.pairwise_cons.2 ⟨fun z hz => ?_, h⟩
      rcases List.mem_cons.1 hz with rfl | hz
      · exact hxy
      · exact leP_trans _ _ _ hxy (h1.1 z hz)
    · rename_i hxy
      refine List.pairwise_cons.2 ⟨fun z hz => ?_, ins_sorted x ys h1.2⟩
      rcases List.mem_cons.1 ((ins_perm x ys).mem_iff.1 hz) with rfl | hz
      · have := leP_total z y
        simpa [hxy] using this
      · exact h1.1 z hz
theorem isort_sorted : ∀ l, (isort l).Pairwise (fun a b => leP a b = true)
  | [] => .nil
  | x :: xs => ins_sorted x _ (isort_sorted xs)
theorem isort_eq (l : List ByteArray) : l.mergeSort leP = isort l :=
  List.Perm.eq_of_pairwise (fun _ _ _ _ h1 h2 => leP_anti h1 h2) (List.pairwise_mergeSort leP_trans leP_total l) (isort_sorted l) ((List.mergeSort_perm l leP).trans (isort_perm l).symm)
/-- path.Sort. -/
def path_Sort.f (l0 : List ByteArray) : Option (List ByteArray) := if l0.length < 8796093022208 then if l0.all (fun x => decide (x.size < 4294967281)) then some (dk none (isort (l0.filter gd))) else none else none
theorem eg97 : ∀ args w, (callFunc 94 args).run Tryd.prog w = .ok (.enter 94 args) w := by
  intro args w
  go_simp
theorem path_Sort.calls (A0 : Option Addr) (c0 : Nat) (l0 : List ByteArray) (r : List ByteArray) (w : World) (hr0 : Kd.C Kd.string w A0 l0.length l0) (hc0 : l0.length ≤ c0) (h : path_Sort.f l0 = some r) :
    Calls Tryd.prog 54 #[.slice A0 l0.length c0] w fun e w' => ∃ v0_ : Value, e = .returned (v0_) ∧ Kd.R Kd.string 9 w' w.heap.size (fun _ => True) v0_ r ∧ Below w.heap.size w w' := by
  unfold path_Sort.f at h
  split at h
  · rename_i h1
    split at h
    · rename_i h2
      obtain rfl := Option.some.inj h
      have hs : ∀ x ∈ l0, x.size < 4294967281 := fun x hx => of_decide_eq_true (List.all_eq_true.1 h2 x hx)
      have k1 := slices_Clone_string_string.calls A0 c0 l0 l0 w hr0 hc0 (by unfold slices_Clone_string_string.f; rw [Option.bind_some, if_pos (by rw [List.length_nil]; omega), List.nil_append])
      have kT : ∀ x ∈ l0, Tst 94 (fun x => !gd x) x := fun x hx W => Sort1_calls x W (hs x hx)
      have k2 := fun v W h hB => DeleteFunc_calls 94 (fun x => !gd x) eg97 w.heap.size v l0 W h hB (by omega) kT
      clear hr0 hc0 h h2
      have hfl : (l0.filter fun x => !!gd x) = l0.filter gd := by simp
      have K1 := Aside0.mk k1
      have K2 := Aside0.mk k2
      have HS := Aside0.mk hs
      have HF := Aside0.mk hfl
      have HL := Aside0.mk h1
      clear k1 k2 hs hfl h1 kT
      go_enter Tryd.func54, Tryd.ntmps54
      go_wp2_with (fail)
      refine K1.out.mono ?_
      rintro e w2 ⟨v2, rfl, hR2, hb2⟩
      dsimp only
      have k := K2.out v2 w2 hR2 hb2.size
      obtain ⟨A2, c2, rfl⟩ := Kd.R_slice hR2
      clear hR2
      go_wp2_with (fail)
      refine k.mono ?_
      clear k
      rintro e w3 ⟨v3, rfl, hR3, hb3⟩
      dsimp only
      rw [HF.out] at hR3
      have hle := List.length_filter_le gd l0
      have h1 := HL.out
      have k := SortFunc_calls w.heap.size v3 _ w3 hR3 (by omega) (hb2.trans hb3).size (fun x hx => HS.out x (List.mem_filter.1 hx).1)
      clear hle h1
      obtain ⟨A3, c3, rfl⟩ := Kd.R_slice hR3
      clear hR3
      go_wp2_with (fail)
      refine k.mono ?_
      clear k
      rintro e w4 ⟨rfl, hR4, hb4⟩
      dsimp only
      rw [isort_eq] at hR4
      have k := Compact_calls w.heap.size _ _ w4 hR4 ((hb2.trans hb3).trans hb4).size
      clear hR4
      go_wp2_with (fail)
      refine k.mono ?_
      clear k
      rintro e w5 ⟨v5, rfl, hR5, hb5⟩
      dsimp only
      obtain ⟨A5, c5, rfl⟩ := Kd.R_slice hR5
      have H5 := Aside0.mk hR5
      have B5 := Aside0.mk (((hb2.trans hb3).trans hb4).trans hb5)
      clear hR5 hb2 hb3 hb4 hb5
      go_wp2_with (fail)
      go_ret
      exact ⟨_, rfl, H5.out, B5.out⟩
    · cases h
  · cases h
/-- path.Cmp. -/
def path_Cmp.f (a0 a1 : ByteArray) : Option Int := if a0.size < 4294967281 then if a1.size < 4294967281 then some (cL (sp a0.data.toList) (sp a1.data.toList)) else none else none
theorem path_Cmp.calls (a0 a1 : ByteArray) (r : Int) (w : World) (h : path_Cmp.f a0 a1 = some r) :
    Calls Tryd.prog 51 #[.string a0, .string a1] w fun e w' => e = .returned (.int .i64 r) ∧ Below w.heap.size w w' := by
  unfold path_Cmp.f at h
  split at h
  · rename_i h1
    split at h
    · rename_i h2
      obtain rfl := Option.some.inj h
      refine (path_Cmp.exact a0 a1 w h1 h2).mono ?_
      rintro e w' ⟨rfl, q, os, rfl⟩
      exact ⟨rfl, below_grow (pw_below_drewN (Below.refl _ _) q) (Nat.le_refl _) os⟩
    · cases h
  · cases h
end Go.Proofs.YtidlldfghkaeeaaDoor.P
