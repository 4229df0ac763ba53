/- Put together by pack2.py: TreeOkP, PfPathParts, PfPathUp, PfStringsliteHasPrefix, PfStringsHasPrefix, PfPathUnder, PthT, PfPathInside, RefT, TreeFind -/
import Derived.Test.YtidlldfghkaeeaaGreatDoorZyPfTallymanref7RemoveEtc
import Derived.Test.YtidlldfghkaeeaaGreatDoorZyRefNamesEtc
import Derived.Test.YtidlldfghkaeeaaGreatDoorZyLaidKEtc
import Derived.Test.YtidlldfghkaeeaaGreatDoorZyPfTallymanref7Up
import Derived.Test.YtidlldfghkaeeaaGreatDoorZyPfTallymanref7InsideEtc
import Derived.Test.YtidlldfghkaeeaaGreatDoorZyW0
set_option linter.unusedVariables false
set_option linter.unusedSimpArgs false
set_option maxHeartbeats 8000000
set_option maxRecDepth 100000
section
namespace Go.Proofs.YtidlldfghkaeeaaGreatDoor.P
open Go.RowKit
abbrev GT30 (l : List S42) : Prop := GT S42.f0 S42.f1 S42.f2 l
instance (l : List S42) : Decidable (GT30 l) := by
 unfold GT30 GT okE Srt
 exact inferInstance
def dirAt (l : List S42) (i : Nat) (s : ByteArray) : Prop := s = ⟨#[]⟩ ∨ ∃ x ∈ l.take i, x.f0 = s ∧ x.f1 = true
instance (l : List S42) (i : Nat) (s : ByteArray) : Decidable (dirAt l i s) := by
 unfold dirAt
 exact inferInstance
structure Cx (l : List S42) (i : Nat) (e : S42) : Prop where
 gd : Gd e.f0.data.toList
 up : dirAt l i (upB e.f0)
 db : e.f1 = true → e.f2 = []
 sz : e.f2.length ≤ 2048
 lt : ∀ q, i = q + 1 → ∀ h : q < l.length, ltP l[q].f0 e.f0
def Cs (l : List S42) (i : Nat) : Prop := ∀ j (h : j < l.length), j < i → Cx l j l[j]
theorem gd_ne {p : ByteArray} (h : Gd p.data.toList) : p ≠ ⟨#[]⟩ := by
 rintro rfl
 have h2 : ([] : List UInt8) ∈ sp [] := by simp [sp]
 exact (h.2 _ h2).1 rfl
theorem upB_nil {p : ByteArray} : upB p = ⟨#[]⟩ ↔ upL p.data.toList = [] := by
 constructor
 ·intro h
  have := upB_data p
  rw [h] at this
  exact this.symm
 ·intro h
  unfold upB
  rw [h]
theorem Cs_srt {l : List S42} {i : Nat} (h : Cs l i) (hi : i ≤ l.length) : ∀ a b (hb : b < l.length), a < b → b < i → ∀ ha : a < l.length, ltP l[a].f0 l[b].f0 := by
 intro a b
 induction b with
 | zero => intro _ h1; omega
 | succ b ih =>
  intro hb hab hbi ha
  have h1 := (h (b + 1) hb hbi).lt b rfl (by omega)
  rcases Nat.lt_or_ge a b with h2 | h2
  ·exact ltP_trans (ih (by omega) h2 (by omega) ha) h1
  ·obtain rfl : a = b := by omega
   exact h1
theorem Cs_all {l : List S42} (hl : l.length ≤ 40) (hn : nB S42.f2 l ≤ 16384) (h : Cs l l.length) : GT30 l := by
 refine ⟨hl, hn, List.pairwise_iff_getElem.2 fun a b ha hb hab => Cs_srt h (Nat.le_refl _) a b hb hab hb ha, fun e he => ?_⟩
 obtain ⟨i, hi, rfl⟩ := List.mem_iff_getElem.1 he
 have c := h i hi hi
 refine ⟨c.gd, c.db, c.sz, ?_⟩
 rcases c.up with h1 | ⟨x, hx, h1, h2⟩
 ·exact .inl (upB_nil.1 h1)
 ·exact .inr ⟨x, List.mem_of_mem_take hx, h1, h2⟩
theorem GT_Cs {l : List S42} (h : GT30 l) : Cs l l.length := by
 intro i hi _
 obtain ⟨_, _, hs, he⟩ := h
 have hp := List.pairwise_iff_getElem.1 hs
 have e := he l[i] (List.getElem_mem hi)
 refine ⟨e.1, ?_, e.2.1, e.2.2.1, ?_⟩
 ·rcases e.2.2.2 with h1 | ⟨d, hd, h1, h2⟩
  ·exact .inl (upB_nil.2 h1)
  ·refine .inr ⟨d, ?_, h1, h2⟩
   obtain ⟨j, hj, rfl⟩ := List.mem_iff_getElem.1 hd
   have h3 := up_lt e.1
   rw [← h1] at h3
   have hji : j < i := by
    rcases Nat.lt_trichotomy j i with h4 | h4 | h4
    ·exact h4
    ·subst h4; exact absurd h3 (ltP_irr _)
    ·exact absurd h3 (ltP_asym (hp i j hi hj h4))
   rw [List.mem_take_iff_getElem]
   exact ⟨j, by omega, rfl⟩
 ·rintro q rfl hq
  exact hp q (q + 1) hq hi (by omega)
theorem Cs_zero (l : List S42) : Cs l 0 := fun j _ h => absurd h (Nat.not_lt_zero j)
theorem Cs_succ {l : List S42} {i : Nat} (hi : i < l.length) (h : Cs l i) (c : Cx l i l[i]) : Cs l (i + 1) := by
 intro j hj h1
 rcases Nat.lt_or_ge j i with h2 | h2
 ·exact h j hj h2
 ·obtain rfl : j = i := by omega
  exact c
theorem Cs_bad {l : List S42} {i : Nat} (hi : i < l.length) (c : ¬ Cx l i l[i]) : ¬ GT30 l := fun h => c (GT_Cs h i hi hi)
theorem dirAt_succ {l : List S42} {i : Nat} (hi : i < l.length) (h : Cs l i) (c : Cx l i l[i]) (s : ByteArray) : dirAt l (i + 1) s ↔ (if s = l[i].f0 then l[i].f1 = true else dirAt l i s) := by
 unfold dirAt
 have htk : ∀ z, z ∈ l.take (i + 1) ↔ z ∈ l.take i ∨ z = l[i] := fun z => by
  rw [List.take_add_one, List.getElem?_eq_getElem hi, List.mem_append]
  simp
 have hno : ∀ x ∈ l.take i, x.f0 ≠ l[i].f0 := by
  intro x hx
  obtain ⟨j, hj, rfl⟩ := List.mem_take_iff_getElem.1 hx
  exact ltP_ne (Cs_srt (Cs_succ hi h c) (by omega) j i hi (by omega) (by omega) (by omega))
 split
 ·rename_i hs
  subst hs
  constructor
  ·rintro (h1 | ⟨x, hx, h1, h2⟩)
   ·exact absurd h1 (gd_ne c.gd)
   ·rcases (htk x).1 hx with h3 | rfl
    ·exact absurd h1 (hno x h3)
    ·exact h2
  ·intro h1
   exact .inr ⟨_, (htk _).2 (.inr rfl), rfl, h1⟩
 ·rename_i hs
  constructor
  ·rintro (h1 | ⟨x, hx, h1, h2⟩)
   ·exact .inl h1
   ·rcases (htk x).1 hx with h3 | rfl
    ·exact .inr ⟨x, h3, h1, h2⟩
    ·exact absurd h1.symm hs
  ·rintro (h1 | ⟨x, hx, h1, h2⟩)
   ·exact .inl h1
   ·exact .inr ⟨x, (htk x).2 (.inl hx), h1, h2⟩
theorem dirAt_zero (l : List S42) (s : ByteArray) : dirAt l 0 s ↔ s = ⟨#[]⟩ := by
 unfold dirAt
 simp
end Go.Proofs.YtidlldfghkaeeaaGreatDoor.P
end
section
namespace Go.Proofs.YtidlldfghkaeeaaGreatDoor.P
open Go.RowKit Go.Proofs.YtidlldfghkaeeaaGreatDoorW.PrintWords Go.Proofs.YtidlldfghkaeeaaGreatDoorW.PrintLast Go.Proofs.YtidlldfghkaeeaaGreatDoorW.PrintMore
attribute [local go_sem] max2_int min2_int max_two min_two max_three min_three max_four min_four
def path_parts.f (a0 : ByteArray) : Option (ByteArray × ByteArray × Bool) := (path_Good.f a0).bind fun t103 => (if t103 = true then ((strings_LastIndex.f a0 (⟨#[47]⟩ : ByteArray)).bind fun t104 => (if 0 ≤ (mx t104 0) then (if (mx t104 0) ≤ (a0.size : Int) then (if 0 ≤ (wrap64 (t104 + 1)) then (if (wrap64 (t104 + 1)) ≤ (a0.size : Int) then (some (a0.extract 0 ((mx t104 0) : Int).toNat, a0.extract ((wrap64 (t104 + 1)) : Int).toNat a0.size, true)) else (none)) else (none)) else (none)) else (none))) else (some ((⟨#[]⟩ : ByteArray), (⟨#[]⟩ : ByteArray), false)))
theorem path_parts.calls (a0 : ByteArray) (r1 : ByteArray) (r2 : ByteArray) (r3 : Bool) (w : World) (h : path_parts.f a0 = some (r1, r2, r3)) :
  Calls Tryz.prog 90 #[.string a0] w fun e w' => e = .returned (.tuple #[.string r1, .string r2, .bool r3]) ∧ Below w.heap.size w w' := by
 have HB := xa_ (Below.refl w.heap.size w)
 have H : ((path_Good.f a0).bind fun t103 => (if t103 = true then ((strings_LastIndex.f a0 (⟨#[47]⟩ : ByteArray)).bind fun t104 => (if 0 ≤ (mx t104 0) then (if (mx t104 0) ≤ (a0.size : Int) then (if 0 ≤ (wrap64 (t104 + 1)) then (if (wrap64 (t104 + 1)) ≤ (a0.size : Int) then (some (a0.extract 0 ((mx t104 0) : Int).toNat, a0.extract ((wrap64 (t104 + 1)) : Int).toNat a0.size, true)) else (none)) else (none)) else (none)) else (none))) else (some ((⟨#[]⟩ : ByteArray), (⟨#[]⟩ : ByteArray), false)))) = some (r1, r2, r3) := h
 clear h
 replace H := Option.bind_eq_some_iff.mp H
 obtain ⟨t103, A20, H⟩ := H
 replace H : (if t103 = true then ((strings_LastIndex.f a0 (⟨#[47]⟩ : ByteArray)).bind fun t104 => (if 0 ≤ (mx t104 0) then (if (mx t104 0) ≤ (a0.size : Int) then (if 0 ≤ (wrap64 (t104 + 1)) then (if (wrap64 (t104 + 1)) ≤ (a0.size : Int) then (some (a0.extract 0 ((mx t104 0) : Int).toNat, a0.extract ((wrap64 (t104 + 1)) : Int).toNat a0.size, true)) else (none)) else (none)) else (none)) else (none))) else (some ((⟨#[]⟩ : ByteArray), (⟨#[]⟩ : ByteArray), false))) = some (r1, r2, r3) := H
 have A2 := Aside0.mk A20
 clear A20
 by_cases c3 : t103 = true
 ·subst c3
  have H1 : ((strings_LastIndex.f a0 (⟨#[47]⟩ : ByteArray)).bind fun t104 => (if 0 ≤ (mx t104 0) then (if (mx t104 0) ≤ (a0.size : Int) then (if 0 ≤ (wrap64 (t104 + 1)) then (if (wrap64 (t104 + 1)) ≤ (a0.size : Int) then (some (a0.extract 0 ((mx t104 0) : Int).toNat, a0.extract ((wrap64 (t104 + 1)) : Int).toNat a0.size, true)) else (none)) else (none)) else (none)) else (none))) = some (r1, r2, r3) := by rw [if_pos rfl] at H; exact H
  clear H
  have H := H1
  clear H1
  replace H := Option.bind_eq_some_iff.mp H
  obtain ⟨t104, A40, H⟩ := H
  replace H : (if 0 ≤ (mx t104 0) then (if (mx t104 0) ≤ (a0.size : Int) then (if 0 ≤ (wrap64 (t104 + 1)) then (if (wrap64 (t104 + 1)) ≤ (a0.size : Int) then (some (a0.extract 0 ((mx t104 0) : Int).toNat, a0.extract ((wrap64 (t104 + 1)) : Int).toNat a0.size, true)) else (none)) else (none)) else (none)) else (none)) = some (r1, r2, r3) := H
  have A4 := Aside0.mk A40
  clear A40
  obtain ⟨ji5, hji5⟩ : ∃ j_ : Int, (mx t104 0) = j_ := ⟨_, rfl⟩
  replace H : (if 0 ≤ (ji5) then (if (ji5) ≤ (a0.size : Int) then (if 0 ≤ (wrap64 (t104 + 1)) then (if (wrap64 (t104 + 1)) ≤ (a0.size : Int) then (some (a0.extract 0 ((ji5) : Int).toNat, a0.extract ((wrap64 (t104 + 1)) : Int).toNat a0.size, true)) else (none)) else (none)) else (none)) else (none)) = some (r1, r2, r3) := by first | (rw [hji5] at H; exact H) | (simp only [hji5] at H ⊢; exact H)
  (try rw [hji5] at A2)
  (try rw [hji5] at A4)
  (try (have hji5l : 0 ≤ ji5 := by (rw [← hji5]; unfold mx; (repeat' split) <;> omega)))
  (try (have hji5m : 0 ≤ ji5 := by omega))
  have hji5_ : (if t104 < 0 then 0 else t104) = ji5 := hji5
  by_cases c6 : 0 ≤ (ji5)
  ·rw [if_pos c6] at H
   have c6b0 := eq_true c6
   have c6b1 : decide (0 ≤ (ji5)) = true := decide_eq_true c6
   clear c6
   by_cases c7 : (ji5) ≤ (a0.size : Int)
   ·rw [if_pos c7] at H
    have c7b0 := eq_true c7
    have c7b1 : decide ((ji5) ≤ (a0.size : Int)) = true := decide_eq_true c7
    clear c7
    obtain ⟨ji8, hji8⟩ : ∃ j_ : Int, (wrap64 (t104 + 1)) = j_ := ⟨_, rfl⟩
    replace H : (if 0 ≤ (ji8) then (if (ji8) ≤ (a0.size : Int) then (some (a0.extract 0 ((ji5) : Int).toNat, a0.extract ((ji8) : Int).toNat a0.size, true)) else (none)) else (none)) = some (r1, r2, r3) := by first | (rw [hji8] at H; exact H) | (simp only [hji8] at H ⊢; exact H)
    (try rw [hji8] at A2)
    (try rw [hji8] at A4)
    have hji8w : (IntKind.i64.wrap (t104 + 1)) = ji8 := (i64_w _).trans hji8
    by_cases c9 : 0 ≤ (ji8)
    ·rw [if_pos c9] at H
     have c9b0 := eq_true c9
     have c9b1 : decide (0 ≤ (ji8)) = true := decide_eq_true c9
     clear c9
     by_cases c10 : (ji8) ≤ (a0.size : Int)
     ·rw [if_pos c10] at H
      have c10b0 := eq_true c10
      have c10b1 : decide ((ji8) ≤ (a0.size : Int)) = true := decide_eq_true c10
      clear c10
      simp only [Option.some.injEq, Prod.mk.injEq] at H
      obtain ⟨rfl, rfl, rfl⟩ := H
      go_enter Tryz.func90, Tryz.ntmps90
      go_wp2_with (first | (go_at_call 46; (with_reducible refine (path_Good.calls a0 true _ A2.out).mono ?_); rintro e w11 ⟨rfl, hb⟩; replace HB := xa_ (below_step (xw_ HB.out) hb); (try clear hb); (try clear hb2); (try clear hk); (try clear hi)) | (go_at_call 100; (with_reducible refine (strings_LastIndex.calls a0 (⟨#[47]⟩ : ByteArray) t104 _ A4.out).mono ?_); rintro e w' ⟨rfl, ⟨nd, rfl⟩⟩; (try first | exact ⟨rfl, _, World.drewN_drewN _ _ _⟩ | exact ⟨rfl, _, Eq.trans (World.drewN_drewN _ _ _) (congrArg (World.drewN _) (Nat.add_assoc _ _ _))⟩)))
      repeat (go_quiet (first | (go_at_call 46; (with_reducible refine (path_Good.calls a0 true _ A2.out).mono ?_); rintro e w11 ⟨rfl, hb⟩; replace HB := xa_ (below_step (xw_ HB.out) hb); (try clear hb); (try clear hb2); (try clear hk); (try clear hi)) | (go_at_call 100; (with_reducible refine (strings_LastIndex.calls a0 (⟨#[47]⟩ : ByteArray) t104 _ A4.out).mono ?_); rintro e w' ⟨rfl, ⟨nd, rfl⟩⟩; (try first | exact ⟨rfl, _, World.drewN_drewN _ _ _⟩ | exact ⟨rfl, _, Eq.trans (World.drewN_drewN _ _ _) (congrArg (World.drewN _) (Nat.add_assoc _ _ _))⟩))); try go_wp2_with (first | (go_at_call 46; (with_reducible refine (path_Good.calls a0 true _ A2.out).mono ?_); rintro e w11 ⟨rfl, hb⟩; replace HB := xa_ (below_step (xw_ HB.out) hb); (try clear hb); (try clear hb2); (try clear hk); (try clear hi)) | (go_at_call 100; (with_reducible refine (strings_LastIndex.calls a0 (⟨#[47]⟩ : ByteArray) t104 _ A4.out).mono ?_); rintro e w' ⟨rfl, ⟨nd, rfl⟩⟩; (try first | exact ⟨rfl, _, World.drewN_drewN _ _ _⟩ | exact ⟨rfl, _, Eq.trans (World.drewN_drewN _ _ _) (congrArg (World.drewN _) (Nat.add_assoc _ _ _))⟩))))
      go_ret3
      exact ⟨by first | rfl | (simp [errW_none, errW_some] <;> rfl) | (simp only [← hji5, ← hji8]; first | rfl | (simp [errW_none, errW_some] <;> rfl)) | (simp [*, errW_none, errW_some] <;> rfl), by repeat (first | (with_reducible first | exact HB.out | apply below_alloc | apply pw_below_drewN | apply below_drew1) | exact HB.out)⟩
     ·rw [if_neg c10] at H
      exact absurd H (by simp)
    ·rw [if_neg c9] at H
     exact absurd H (by simp)
   ·rw [if_neg c7] at H
    exact absurd H (by simp)
  ·rw [if_neg c6] at H
   exact absurd H (by simp)
 ·replace c3 := Bool.eq_false_iff.mpr c3
  subst c3
  have H1 : (some ((⟨#[]⟩ : ByteArray), (⟨#[]⟩ : ByteArray), false)) = some (r1, r2, r3) := by rw [if_neg (show ¬ (false = true) by decide)] at H; exact H
  clear H
  have H := H1
  clear H1
  simp only [Option.some.injEq, Prod.mk.injEq] at H
  obtain ⟨rfl, rfl, rfl⟩ := H
  go_enter Tryz.func90, Tryz.ntmps90
  go_wp2_with (first | (go_at_call 46; (with_reducible refine (path_Good.calls a0 false _ A2.out).mono ?_); rintro e w12 ⟨rfl, hb⟩; replace HB := xa_ (below_step (xw_ HB.out) hb); (try clear hb); (try clear hb2); (try clear hk); (try clear hi)))
  repeat (go_quiet (first | (go_at_call 46; (with_reducible refine (path_Good.calls a0 false _ A2.out).mono ?_); rintro e w12 ⟨rfl, hb⟩; replace HB := xa_ (below_step (xw_ HB.out) hb); (try clear hb); (try clear hb2); (try clear hk); (try clear hi))); try go_wp2_with (first | (go_at_call 46; (with_reducible refine (path_Good.calls a0 false _ A2.out).mono ?_); rintro e w12 ⟨rfl, hb⟩; replace HB := xa_ (below_step (xw_ HB.out) hb); (try clear hb); (try clear hb2); (try clear hk); (try clear hi))))
  go_ret3
  exact ⟨by first | rfl | (simp [*, errW_none, errW_some] <;> rfl), by repeat (first | (with_reducible first | exact HB.out | apply below_alloc | apply pw_below_drewN | apply below_drew1) | exact HB.out)⟩
def path_Up.f (a0 : ByteArray) : Option (ByteArray × Bool) := (path_parts.f a0).bind fun bt105 => (some (bt105.1, bt105.2.2))
theorem path_Up.calls (a0 : ByteArray) (r1 : ByteArray) (r2 : Bool) (w : World) (h : path_Up.f a0 = some (r1, r2)) :
  Calls Tryz.prog 60 #[.string a0] w fun e w' => e = .returned (.tuple #[.string r1, .bool r2]) ∧ Below w.heap.size w w' := by
 have HB := xa_ (Below.refl w.heap.size w)
 have H : ((path_parts.f a0).bind fun bt105 => (some (bt105.1, bt105.2.2))) = some (r1, r2) := h
 clear h
 replace H := Option.bind_eq_some_iff.mp H
 obtain ⟨⟨t105, t106, t107⟩, A20, H⟩ := H
 replace H : (some (t105, t107)) = some (r1, r2) := H
 have A2 := Aside0.mk A20
 clear A20
 simp only [Option.some.injEq, Prod.mk.injEq] at H
 obtain ⟨rfl, rfl⟩ := H
 go_enter Tryz.func60, Tryz.ntmps60
 go_wp2_with (first | ((with_reducible refine gate_callee (f := 90) rfl ?_); refine goesL_ (some 9) rfl rfl Tryz.func90 (by kernel_rfl) rfl #[.string a0] rfl (by (try simp only [ca_]); first | done | rfl) ?_; (with_reducible refine (path_parts.calls a0 t105 t106 t107 _ A2.out).mono ?_); rintro e w3 ⟨rfl, hb⟩; refine ⟨_, rfl, ?_⟩; replace HB := xa_ (below_step (xw_ HB.out) hb); (try clear hb); (try clear hb2); (try clear hk); (try clear hi)))
 go_ret2
 exact ⟨by first | rfl | (simp [*, errW_none, errW_some] <;> rfl), by repeat (first | (with_reducible first | exact HB.out | apply below_alloc | apply pw_below_drewN | apply below_drew1) | exact HB.out)⟩
def stringslite_HasPrefix.f (a0 : ByteArray) (a1 : ByteArray) : Option (Bool) := if (a0.size : Int) ≥ (a1.size : Int) then (if 0 ≤ (a1.size : Int) then (if (a1.size : Int) ≤ (a0.size : Int) then (some ((a0.extract 0 ((a1.size : Int) : Int).toNat).toList == a1.toList)) else (none)) else (none)) else (some false)
theorem stringslite_HasPrefix.calls (a0 : ByteArray) (a1 : ByteArray) (r : Bool) (w : World) (h : stringslite_HasPrefix.f a0 a1 = some r) :
  Calls Tryz.prog 117 #[.string a0, .string a1] w fun e w' => e = .returned (.bool r) ∧ Drawn0 w w' := by
 have H : (if (a0.size : Int) ≥ (a1.size : Int) then (if 0 ≤ (a1.size : Int) then (if (a1.size : Int) ≤ (a0.size : Int) then (some ((a0.extract 0 ((a1.size : Int) : Int).toNat).toList == a1.toList)) else (none)) else (none)) else (some false)) = some r := h
 clear h
 by_cases c3 : (a0.size : Int) ≥ (a1.size : Int)
 ·rw [if_pos c3] at H
  have c3b0 : decide ((a1.size : Int) ≤ (a0.size : Int)) = true := decide_eq_true c3
  have c3b1 : decide (a1.size ≤ a0.size) = true := decide_eq_true (Int.ofNat_le.mp c3)
  clear c3
  by_cases c4 : 0 ≤ (a1.size : Int)
  ·rw [if_pos c4] at H
   have c4b0 := eq_true c4
   have c4b1 : decide (0 ≤ (a1.size : Int)) = true := decide_eq_true c4
   clear c4
   by_cases c5 : (a1.size : Int) ≤ (a0.size : Int)
   ·rw [if_pos c5] at H
    have c5b0 := eq_true c5
    have c5b1 : decide ((a1.size : Int) ≤ (a0.size : Int)) = true := decide_eq_true c5
    clear c5
    obtain rfl := Option.some.inj H
    go_enter Tryz.func117, Tryz.ntmps117
    go_wp2
    go_ret
    exact ⟨by first | rfl | (simp; done) | (simp [*]; done), by repeat (first | exact Drawn0.refl _ | apply Drawn0.step)⟩
   ·rw [if_neg c5] at H
    exact absurd H (by simp)
  ·rw [if_neg c4] at H
   exact absurd H (by simp)
 ·rw [if_neg c3] at H
  have c3b0 : decide ((a1.size : Int) ≤ (a0.size : Int)) = false := decide_eq_false c3
  have c3b1 : decide (a1.size ≤ a0.size) = false := decide_eq_false (fun h => c3 (Int.ofNat_le.mpr h))
  clear c3
  obtain rfl := Option.some.inj H
  go_enter Tryz.func117, Tryz.ntmps117
  go_wp2
  go_ret
  exact ⟨by first | rfl | (simp; done) | (simp [*]; done), by repeat (first | exact Drawn0.refl _ | apply Drawn0.step)⟩
def strings_HasPrefix.f (a0 : ByteArray) (a1 : ByteArray) : Option (Bool) := (stringslite_HasPrefix.f a0 a1).bind fun t309 => (some t309)
theorem strings_HasPrefix.calls (a0 : ByteArray) (a1 : ByteArray) (r : Bool) (w : World) (h : strings_HasPrefix.f a0 a1 = some r) :
  Calls Tryz.prog 102 #[.string a0, .string a1] w fun e w' => e = .returned (.bool r) ∧ Drawn0 w w' := by
 have H : ((stringslite_HasPrefix.f a0 a1).bind fun t309 => (some t309)) = some r := h
 clear h
 replace H := Option.bind_eq_some_iff.mp H
 obtain ⟨t309, A30, H⟩ := H
 replace H : (some t309) = some r := H
 have A3 := Aside0.mk A30
 clear A30
 obtain rfl := Option.some.inj H
 go_enter Tryz.func102, Tryz.ntmps102
 go_wp2_with (first | ((with_reducible refine gate_callee (f := 117) rfl ?_); refine goesL_ (some 7) rfl rfl Tryz.func117 (by kernel_rfl) rfl #[.string a0, .string a1] rfl (by (try simp only [ca_]); first | done | rfl) ?_; (with_reducible refine (stringslite_HasPrefix.calls a0 a1 t309 _ A3.out).mono ?_); rintro e w' ⟨rfl, ⟨nd, rfl⟩⟩; refine ⟨_, rfl, ?_⟩))
 go_ret
 exact ⟨by first | rfl | (simp; done) | (simp [*]; done), by repeat (first | exact Drawn0.refl _ | apply Drawn0.step)⟩
def path_Under.f (a0 : ByteArray) (a1 : ByteArray) : Option (Bool) := (path_Good.f a0).bind fun t310 => (if t310 = true then ((path_Good.f a1).bind fun t311 => (if t311 = true then (if a1.size + 1 ≤ 9223372036854775807 then ((strings_HasPrefix.f a0 (a1 ++ (⟨#[47]⟩ : ByteArray))).bind fun t312 => (some t312)) else (none)) else (some false))) else (some false))
theorem path_Under.calls (a0 : ByteArray) (a1 : ByteArray) (r : Bool) (w : World) (h : path_Under.f a0 a1 = some r) :
  Calls Tryz.prog 93 #[.string a0, .string a1] w fun e w' => e = .returned (.bool r) ∧ Below w.heap.size w w' := by
 have HB := xa_ (Below.refl w.heap.size w)
 have H : ((path_Good.f a0).bind fun t310 => (if t310 = true then ((path_Good.f a1).bind fun t311 => (if t311 = true then (if a1.size + 1 ≤ 9223372036854775807 then ((strings_HasPrefix.f a0 (a1 ++ (⟨#[47]⟩ : ByteArray))).bind fun t312 => (some t312)) else (none)) else (some false))) else (some false))) = some r := h
 clear h
 replace H := Option.bind_eq_some_iff.mp H
 obtain ⟨t310, A30, H⟩ := H
 replace H : (if t310 = true then ((path_Good.f a1).bind fun t311 => (if t311 = true then (if a1.size + 1 ≤ 9223372036854775807 then ((strings_HasPrefix.f a0 (a1 ++ (⟨#[47]⟩ : ByteArray))).bind fun t312 => (some t312)) else (none)) else (some false))) else (some false)) = some r := H
 have A3 := Aside0.mk A30
 clear A30
 by_cases c4 : t310 = true
 ·subst c4
  have H1 : ((path_Good.f a1).bind fun t311 => (if t311 = true then (if a1.size + 1 ≤ 9223372036854775807 then ((strings_HasPrefix.f a0 (a1 ++ (⟨#[47]⟩ : ByteArray))).bind fun t312 => (some t312)) else (none)) else (some false))) = some r := by rw [if_pos rfl] at H; exact H
  clear H
  have H := H1
  clear H1
  replace H := Option.bind_eq_some_iff.mp H
  obtain ⟨t311, A50, H⟩ := H
  replace H : (if t311 = true then (if a1.size + 1 ≤ 9223372036854775807 then ((strings_HasPrefix.f a0 (a1 ++ (⟨#[47]⟩ : ByteArray))).bind fun t312 => (some t312)) else (none)) else (some false)) = some r := H
  have A5 := Aside0.mk A50
  clear A50
  by_cases c6 : t311 = true
  ·subst c6
   have H1 : (if a1.size + 1 ≤ 9223372036854775807 then ((strings_HasPrefix.f a0 (a1 ++ (⟨#[47]⟩ : ByteArray))).bind fun t312 => (some t312)) else (none)) = some r := by rw [if_pos rfl] at H; exact H
   clear H
   have H := H1
   clear H1
   by_cases c7 : a1.size + 1 ≤ 9223372036854775807
   ·rw [if_pos c7] at H
    have c7b0 := eq_true c7
    have c7b1 : decide (a1.size + 1 ≤ 9223372036854775807) = true := decide_eq_true c7
    try have c7b2 : (9223372036854775807 < a1.size + 1) = False := eq_false (Nat.not_lt.2 c7)
    replace H := Option.bind_eq_some_iff.mp H
    obtain ⟨t312, A80, H⟩ := H
    replace H : (some t312) = some r := H
    have A8 := Aside0.mk A80
    clear A80
    obtain rfl := Option.some.inj H
    go_enter Tryz.func93, Tryz.ntmps93
    go_wp2_with (first | ((with_reducible refine gate_callee (f := 46) rfl ?_); refine goesL_ (some 6) rfl rfl Tryz.func46 (by kernel_rfl) rfl #[.string a0] rfl (by (try simp only [ca_]); first | done | rfl) ?_; (with_reducible refine (path_Good.calls a0 true _ A3.out).mono ?_); rintro e w9 ⟨rfl, hb⟩; refine ⟨_, rfl, ?_⟩; replace HB := xa_ (below_step (xw_ HB.out) hb); (try clear hb); (try clear hb2); (try clear hk); (try clear hi)) | (go_at_call 46; (with_reducible refine (path_Good.calls a1 true _ A5.out).mono ?_); rintro e w10 ⟨rfl, hb⟩; replace HB := xa_ (below_step (xw_ HB.out) hb); (try clear hb); (try clear hb2); (try clear hk); (try clear hi)) | (go_at_call 102; (with_reducible refine (strings_HasPrefix.calls a0 (a1 ++ (⟨#[47]⟩ : ByteArray)) t312 _ A8.out).mono ?_); rintro e w' ⟨rfl, ⟨nd, rfl⟩⟩))
    go_ret
    exact ⟨by first | rfl | (simp [*, errW_none, errW_some] <;> rfl), by repeat (first | (with_reducible first | exact HB.out | apply below_alloc | apply pw_below_drewN | apply below_drew1) | exact HB.out)⟩
   ·rw [if_neg c7] at H
    exact absurd H (by simp)
  ·replace c6 := Bool.eq_false_iff.mpr c6
   subst c6
   have H1 : (some false) = some r := by rw [if_neg (show ¬ (false = true) by decide)] at H; exact H
   clear H
   have H := H1
   clear H1
   obtain rfl := Option.some.inj H
   go_enter Tryz.func93, Tryz.ntmps93
   go_wp2_with (first | ((with_reducible refine gate_callee (f := 46) rfl ?_); refine goesL_ (some 6) rfl rfl Tryz.func46 (by kernel_rfl) rfl #[.string a0] rfl (by (try simp only [ca_]); first | done | rfl) ?_; (with_reducible refine (path_Good.calls a0 true _ A3.out).mono ?_); rintro e w11 ⟨rfl, hb⟩; refine ⟨_, rfl, ?_⟩; replace HB := xa_ (below_step (xw_ HB.out) hb); (try clear hb); (try clear hb2); (try clear hk); (try clear hi)) | (go_at_call 46; (with_reducible refine (path_Good.calls a1 false _ A5.out).mono ?_); rintro e w12 ⟨rfl, hb⟩; replace HB := xa_ (below_step (xw_ HB.out) hb); (try clear hb); (try clear hb2); (try clear hk); (try clear hi)))
   go_ret
   exact ⟨by first | rfl | (simp [*, errW_none, errW_some] <;> rfl), by repeat (first | (with_reducible first | exact HB.out | apply below_alloc | apply pw_below_drewN | apply below_drew1) | exact HB.out)⟩
 ·replace c4 := Bool.eq_false_iff.mpr c4
  subst c4
  have H1 : (some false) = some r := by rw [if_neg (show ¬ (false = true) by decide)] at H; exact H
  clear H
  have H := H1
  clear H1
  obtain rfl := Option.some.inj H
  go_enter Tryz.func93, Tryz.ntmps93
  go_wp2_with (first | ((with_reducible refine gate_callee (f := 46) rfl ?_); refine goesL_ (some 6) rfl rfl Tryz.func46 (by kernel_rfl) rfl #[.string a0] rfl (by (try simp only [ca_]); first | done | rfl) ?_; (with_reducible refine (path_Good.calls a0 false _ A3.out).mono ?_); rintro e w13 ⟨rfl, hb⟩; refine ⟨_, rfl, ?_⟩; replace HB := xa_ (below_step (xw_ HB.out) hb); (try clear hb); (try clear hb2); (try clear hk); (try clear hi)))
  go_ret
  exact ⟨by first | rfl | (simp [*, errW_none, errW_some] <;> rfl), by repeat (first | (with_reducible first | exact HB.out | apply below_alloc | apply pw_below_drewN | apply below_drew1) | exact HB.out)⟩
end Go.Proofs.YtidlldfghkaeeaaGreatDoor.P
end
section
namespace Go.Proofs.YtidlldfghkaeeaaGreatDoor.P
open Go.RowKit Go.Proofs.YtidlldfghkaeeaaGreatDoorW.PrintWords Go.Proofs.YtidlldfghkaeeaaGreatDoorW.PrintLast Go.Proofs.YtidlldfghkaeeaaGreatDoorW.PrintMore
theorem wrap_id {n : Int} (h0 : 0 ≤ n) (h1 : n < 9223372036854775808) : wrap64 n = n := by unfold wrap64; omega
theorem HasPrefix_eq (s p : ByteArray) : strings_HasPrefix.f s p = some (decide (p.data.toList <+: s.data.toList)) := by
 unfold strings_HasPrefix.f stringslite_HasPrefix.f
 by_cases h : (s.size : Int) ≥ (p.size : Int)
 ·rw [if_pos h, if_pos (by omega), if_pos h, Option.bind_some]
  congr 1
  rw [Bool.eq_iff_iff, beq_iff_eq, decide_eq_true_eq, Lib.toList_data, Lib.toList_data, D_ex, Int.toNat_natCast, List.drop_zero, D_size p]
  constructor
  ·intro e
   rw [← e]
   exact List.take_prefix _ _
  ·intro e
   exact (List.prefix_iff_eq_take.1 e).symm
 ·rw [if_neg h, Option.bind_some]
  congr 1
  refine (decide_eq_false fun e => ?_).symm
  have := e.length_le
  rw [← D_size, ← D_size] at this
  omega
theorem Under_eq {q p : ByteArray} (hq : q.size < 4294967280) (hp : p.size < 4294967280) : path_Under.f q p = some (decide (Gd q.data.toList ∧ Gd p.data.toList ∧ (p.data.toList ++ [47]) <+: q.data.toList)) := by
 unfold path_Under.f
 rw [Good_eq (by omega), Option.bind_some]
 by_cases h1 : Gd q.data.toList
 ·rw [if_pos (decide_eq_true h1), Good_eq (by omega), Option.bind_some]
  by_cases h2 : Gd p.data.toList
  ·rw [if_pos (decide_eq_true h2), if_pos (by omega), HasPrefix_eq, Option.bind_some, D_app]
   congr 1
   rw [decide_eq_decide]
   exact ⟨fun h => ⟨h1, h2, h⟩, fun h => h.2.2⟩
  ·rw [if_neg (by simpa using h2)]
   congr 1
   exact (decide_eq_false fun h => h2 h.2.1).symm
 ·rw [if_neg (by simpa using h1)]
  congr 1
  exact (decide_eq_false fun h => h1 h.1).symm
theorem at_ (s : ByteArray) {j : Nat} (h : j < s.size) : s.data.toList[j]? = some s.data[j]! := by
 have h' : j < s.data.size := h
 rw [Array.getElem?_toList, Array.getElem?_eq_getElem h', getElem!_pos s.data j h']
theorem last_none {s : ByteArray} (h : 47 ∉ s.data.toList) : Lib.lastIndexByte s 47 = -1 := by
 rcases Lib.lastIndexByte_spec s 47 with ⟨e, _⟩ | ⟨i, hi, e, hc, _⟩
 ·exact e
 ·exfalso
  have := at_ s hi
  rw [u47 hc] at this
  exact h (List.mem_of_getElem? this)
theorem last_some {s : ByteArray} {u x : List UInt8} (e : s.data.toList = u ++ 47 :: x) (h : 47 ∉ x) : Lib.lastIndexByte s 47 = u.length := by
 have hl : s.size = u.length + 1 + x.length := by rw [D_size, e]; simp; omega
 have hu : s.data.toList[u.length]? = some 47 := by rw [e]; simp
 rcases Lib.lastIndexByte_spec s 47 with ⟨_, hn⟩ | ⟨i, hi, e1, hc, hn⟩
 ·exfalso
  have h1 := hn u.length (by omega)
  have h2 := at_ s (j := u.length) (by omega)
  rw [hu] at h2
  rw [← Option.some.inj h2] at h1
  exact h1 rfl
 ·rw [e1]
  have h1 := at_ s hi
  rw [u47 hc] at h1
  rcases Nat.lt_trichotomy i u.length with h2 | h2 | h2
  ·exfalso
   have h3 := hn u.length h2 (by omega)
   have h4 := at_ s (j := u.length) (by omega)
   rw [hu] at h4
   rw [← Option.some.inj h4] at h3
   exact h3 rfl
  ·rw [h2]
  ·exfalso
   rw [e, List.getElem?_append_right (by omega), show i - u.length = (i - u.length - 1) + 1 by omega, List.getElem?_cons_succ] at h1
   exact h (List.mem_of_getElem? h1)
theorem last_part : ∀ l : List UInt8, 47 ∉ l ∨ ∃ u x, l = u ++ 47 :: x ∧ 47 ∉ x
 | [] => .inl (by simp)
 | b :: l => by
  rcases last_part l with h | ⟨u, x, e, hx⟩
  ·by_cases hb : b = 47
   ·exact .inr ⟨[], l, by rw [hb]; rfl, h⟩
   ·refine .inl fun hm => ?_
    rcases List.mem_cons.1 hm with hm | hm
    ·exact hb hm.symm
    ·exact h hm
  ·exact .inr ⟨b :: u, x, by rw [e]; rfl, hx⟩
theorem parts_bad {s : ByteArray} (h : s.size < 4294967281) (hg : ¬ Gd s.data.toList) : path_parts.f s = some (⟨#[]⟩, ⟨#[]⟩, false) := by
 unfold path_parts.f
 rw [Good_eq h, Option.bind_some, if_neg (by simpa using hg)]
theorem parts_one {s : ByteArray} (h : s.size < 4294967281) (hg : Gd s.data.toList) (hn : 47 ∉ s.data.toList) : path_parts.f s = some (⟨#[]⟩, s, true) := by
 unfold path_parts.f strings_LastIndex.f
 rw [Good_eq h, Option.bind_some, if_pos (decide_eq_true hg), if_pos rfl, if_pos (by omega), Option.bind_some, last_none hn, show mx (-1) 0 = 0 from rfl, if_pos (by decide), if_pos (by omega), show wrap64 (-1 + 1) = 0 from by unfold wrap64; omega, if_pos (by decide), if_pos (by omega)]
 congr 2
 ·exact bext (by rw [D_ex]; simp)
 ·congr 1
  exact bext (by rw [D_ex, List.take_of_length_le (by rw [D_size]; exact Nat.le_refl _)]; rfl)
theorem parts_more {s : ByteArray} {u x : List UInt8} (h : s.size < 4294967281) (hg : Gd s.data.toList) (e : s.data.toList = u ++ 47 :: x) (hn : 47 ∉ x) : path_parts.f s = some (⟨u.toArray⟩, ⟨x.toArray⟩, true) := by
 have hl : s.size = u.length + 1 + x.length := by rw [D_size, e]; simp; omega
 have hm : mx (u.length : Int) 0 = u.length := by unfold mx; omega
 have hw : wrap64 ((u.length : Int) + 1) = ((u.length + 1 : Nat) : Int) := by rw [wrap_id (by omega) (by omega)]; rfl
 unfold path_parts.f strings_LastIndex.f
 rw [Good_eq h, Option.bind_some, if_pos (decide_eq_true hg), if_pos rfl, if_pos (by omega), Option.bind_some, last_some e hn, hm, if_pos (by omega), if_pos (by omega), hw, if_pos (by omega), if_pos (by omega)]
 congr 2
 ·refine bext ?_
  rw [D_ex, e, Int.toNat_natCast]
  simp
 ·congr 1
  refine bext ?_
  rw [D_ex, e, Int.toNat_natCast, hl]
  rw [List.take_of_length_le (by simp; omega)]
  simp
theorem Up_of {s a b : ByteArray} {t : Bool} (h : path_parts.f s = some (a, b, t)) : path_Up.f s = some (a, t) := by unfold path_Up.f; rw [h]; rfl
end Go.Proofs.YtidlldfghkaeeaaGreatDoor.P
end
section
namespace Go.Proofs.YtidlldfghkaeeaaGreatDoor.P
open Go.RowKit Go.Proofs.YtidlldfghkaeeaaGreatDoorW.PrintWords Go.Proofs.YtidlldfghkaeeaaGreatDoorW.PrintLast Go.Proofs.YtidlldfghkaeeaaGreatDoorW.PrintMore
attribute [local go_sem] max2_int min2_int max_two min_two max_three min_three max_four min_four
def path_Inside.f (a0 : ByteArray) : Option (Bool) := if a0.toList = ([46, 119, 111, 114, 107] : List UInt8) then (some true) else ((path_Under.f a0 (⟨#[46, 119, 111, 114, 107]⟩ : ByteArray)).bind fun t313 => (some t313))
theorem path_Inside.calls (a0 : ByteArray) (r : Bool) (w : World) (h : path_Inside.f a0 = some r) :
  Calls Tryz.prog 66 #[.string a0] w fun e w' => e = .returned (.bool r) ∧ Below w.heap.size w w' := by
 have HB := xa_ (Below.refl w.heap.size w)
 have H : (if a0.toList = ([46, 119, 111, 114, 107] : List UInt8) then (some true) else ((path_Under.f a0 (⟨#[46, 119, 111, 114, 107]⟩ : ByteArray)).bind fun t313 => (some t313))) = some r := h
 clear h
 by_cases c2 : a0.toList = ([46, 119, 111, 114, 107] : List UInt8)
 ·rw [if_pos c2] at H
  have c2b0 : (a0.toList == ([46, 119, 111, 114, 107] : List UInt8)) = true := beq_iff_eq.mpr c2
  have c2b1 : (a0.toList != ([46, 119, 111, 114, 107] : List UInt8)) = false := bne_eq_false_iff_eq.mpr c2
  clear c2
  obtain rfl := Option.some.inj H
  go_enter Tryz.func66, Tryz.ntmps66
  go_wp2
  go_ret
  exact ⟨by first | rfl | (simp [*, errW_none, errW_some] <;> rfl), by repeat (first | (with_reducible first | exact HB.out | apply below_alloc | apply pw_below_drewN | apply below_drew1) | exact HB.out)⟩
 ·rw [if_neg c2] at H
  have c2b0 : (a0.toList == ([46, 119, 111, 114, 107] : List UInt8)) = false := beq_eq_false_iff_ne.mpr c2
  have c2b1 : (a0.toList != ([46, 119, 111, 114, 107] : List UInt8)) = true := bne_iff_ne.mpr c2
  replace H := Option.bind_eq_some_iff.mp H
  obtain ⟨t313, A30, H⟩ := H
  replace H : (some t313) = some r := H
  have A3 := Aside0.mk A30
  clear A30
  obtain rfl := Option.some.inj H
  go_enter Tryz.func66, Tryz.ntmps66
  go_wp2_with (first | (go_at_call 93; (with_reducible refine (path_Under.calls a0 (⟨#[46, 119, 111, 114, 107]⟩ : ByteArray) t313 _ A3.out).mono ?_); rintro e w4 ⟨rfl, hb⟩; replace HB := xa_ (below_step (xw_ HB.out) hb); (try clear hb); (try clear hb2); (try clear hk); (try clear hi)))
  go_ret
  exact ⟨by first | rfl | (simp [*, errW_none, errW_some] <;> rfl), by repeat (first | (with_reducible first | exact HB.out | apply below_alloc | apply pw_below_drewN | apply below_drew1) | exact HB.out)⟩
end Go.Proofs.YtidlldfghkaeeaaGreatDoor.P
end
section
namespace Go.Proofs.YtidlldfghkaeeaaGreatDoor.P
open Go.RowKit Go.Proofs.YtidlldfghkaeeaaGreatDoorW.PrintWords Go.Proofs.YtidlldfghkaeeaaGreatDoorW.PrintLast Go.Proofs.YtidlldfghkaeeaaGreatDoorW.PrintMore
theorem RGood_eq {s : ByteArray} (h : s.size < 4294967280) : tallymanref7_Good.f s = some (decide (Gd s.data.toList)) := by
 unfold tallymanref7_Good.f
 rw [if_pos h]
theorem Rnames_eq {s : ByteArray} (h : s.size < 4294967280) : tallymanref7_names.f s = some ((sp s.data.toList).map mkB) := by
 unfold tallymanref7_names.f
 rw [if_pos h]
theorem rdM {xs : List (List UInt8)} {i : Nat} (h : i < xs.length) : rdOf ByteArray.empty (xs.map mkB) (i : Int) = mkB xs[i] := by
 unfold rdOf
 rw [Int.toNat_natCast, List.getD_eq_getElem?_getD, List.getElem?_map, List.getElem?_eq_getElem h]
 rfl
theorem Up_eq {s : ByteArray} (h : s.size < 4294967281) : path_Up.f s = some (if Gd s.data.toList then (upB s, true) else (⟨#[]⟩, false)) := by
 by_cases hg : Gd s.data.toList
 ·rw [if_pos hg]
  rcases last_part s.data.toList with h1 | ⟨u, x, e, hx⟩
  ·rw [Up_of (parts_one h hg h1)]
   unfold upB
   rw [upL_one h1]
  ·rw [Up_of (parts_more h hg e hx)]
   unfold upB
   rw [e, upL_more hx]
 ·rw [if_neg hg, Up_of (parts_bad h hg)]
theorem RUp_l0 (xs : List (List UInt8)) (hn : xs.length ≤ 4) (hz : ∀ x ∈ xs, x.length ≤ 16) : ∀ (d i k : Nat) (acc : ByteArray), i + d + 1 = xs.length → d < k → acc.data.toList = jn (xs.take i) →
  tallymanref7_Up.l0 k (xs.map mkB) acc (i : Int) = some (⟨(jn (xs.take (i + d))).toArray⟩, true)
 | 0, i, k, acc, hd, hk, ha => by
  obtain ⟨k, rfl⟩ : ∃ m, k = m + 1 := ⟨k - 1, by omega⟩
  have hw : wrap64 ((i : Int) + 1) = ((i + 1 : Nat) : Int) := by unfold wrap64; omega
  rw [tallymanref7_Up.l0, hw, if_neg (by rw [List.length_map]; omega)]
  congr 2
  exact bext (by rw [ha]; rfl)
 | d + 1, i, k, acc, hd, hk, ha => by
  obtain ⟨k, rfl⟩ : ∃ m, k = m + 1 := ⟨k - 1, by omega⟩
  have hw : wrap64 ((i : Int) + 1) = ((i + 1 : Nat) : Int) := by unfold wrap64; omega
  have hi : i < xs.length := by omega
  have hb := hz _ (List.getElem_mem hi)
  have hal : acc.size ≤ 68 := by
   have h1 := jn_len (xs.take i) (fun x hx => hz x (List.mem_of_mem_take hx))
   rw [List.length_take] at h1
   rw [D_size, ha]
   omega
  have hms : (mkB xs[i]).size ≤ 16 := by rw [D_size]; exact hb
  have hs : (acc ++ (⟨#[47]⟩ : ByteArray)).size = acc.size + 1 := by rw [ByteArray.size_append]; rfl
  have ht : xs.take (i + 1) = xs.take i ++ [xs[i]] := by rw [List.take_add_one, List.getElem?_eq_getElem hi]; rfl
  rw [tallymanref7_Up.l0, hw, if_pos (by rw [List.length_map]; omega), List.length_map, rdM hi, hs]
  by_cases h0 : i = 0
  ·subst h0
   rw [if_neg (by omega), if_pos (by omega), if_pos (by omega), if_pos (by omega)]
   have h := RUp_l0 xs hn hz d 1 k (acc ++ mkB xs[0]) (by omega) (by omega) (by rw [D_app, ha, ht]; rfl)
   rw [show 0 + (d + 1) = 1 + d by omega]
   exact h
  ·rw [if_pos (by omega), if_pos (by omega), if_pos (by omega), if_pos (by omega), if_pos (by omega)]
   have h := RUp_l0 xs hn hz d (i + 1) k (acc ++ (⟨#[47]⟩ : ByteArray) ++ mkB xs[i]) (by omega) (by omega) (by
    rw [D_app, D_app, ha, ht, jn_snoc _ _ (by
     intro e
     have := congrArg List.length e
     rw [List.length_take, List.length_nil] at this
     omega), List.append_assoc]
    rfl)
   rw [show i + (d + 1) = i + 1 + d by omega]
   exact h
theorem RUp_eq {s : ByteArray} {k : Nat} (h : s.size < 4294967280) (hk : 5 ≤ k) : tallymanref7_Up.f k s = some (if Gd s.data.toList then (upB s, true) else (⟨#[]⟩, false)) := by
 unfold tallymanref7_Up.f
 rw [RGood_eq h, Option.bind_some]
 by_cases hg : Gd s.data.toList
 ·have hl : 0 < (sp s.data.toList).length := List.length_pos_iff.2 (sp_ne _)
  have h4 := hg.1
  rw [if_pos (decide_eq_true hg), Rnames_eq h, Option.bind_some, if_pos hg]
  have hl0 := RUp_l0 (sp s.data.toList) h4 (fun x hx => (hg.2 x hx).2.1) ((sp s.data.toList).length - 1) 0 k ⟨#[]⟩ (by omega) (by omega) rfl
  rw [Nat.zero_add, ← List.dropLast_eq_take] at hl0
  exact hl0
 ·rw [if_neg (by simpa using hg), if_neg hg]
theorem RUnder_eq {q p : ByteArray} (hq : q.size < 4294967280) (hp : p.size < 4294967280) : tallymanref7_Under.f q p = some (decide (Gd q.data.toList ∧ Gd p.data.toList ∧ (p.data.toList ++ [47]) <+: q.data.toList)) := by
 unfold tallymanref7_Under.f
 rw [if_pos hq, if_pos hp]
def work_ : ByteArray := ⟨#[46, 119, 111, 114, 107]⟩
def insideL (p : List UInt8) : Prop := p = work_.data.toList ∨ Gd p ∧ (work_.data.toList ++ [47]) <+: p
instance (p : List UInt8) : Decidable (insideL p) := by unfold insideL; exact inferInstance
theorem Inside_eq {s : ByteArray} (h : s.size < 4294967280) : path_Inside.f s = some (decide (insideL s.data.toList)) := by
 unfold path_Inside.f
 rw [Lib.toList_data]
 by_cases h0 : s.data.toList = [46, 119, 111, 114, 107]
 ·rw [if_pos h0]
  congr 1
  exact (decide_eq_true (.inl h0)).symm
 ·have hg : Gd (⟨#[46, 119, 111, 114, 107]⟩ : ByteArray).data.toList := by decide
  rw [if_neg h0, Under_eq h (by decide), Option.bind_some]
  congr 1
  rw [Bool.eq_iff_iff, decide_eq_true_eq, decide_eq_true_eq]
  exact ⟨fun h => .inr ⟨h.1, h.2.2⟩, fun h => h.elim (fun e => absurd e h0) (fun h => ⟨h.1, hg, h.2⟩)⟩
theorem RInside_eq {s : ByteArray} (h : s.size < 4294967280) : tallymanref7_Inside.f s = some (decide (insideL s.data.toList)) := by
 unfold tallymanref7_Inside.f
 rw [Lib.toList_data]
 by_cases h0 : s.data.toList = [46, 119, 111, 114, 107]
 ·rw [if_pos h0]
  congr 1
  exact (decide_eq_true (.inl h0)).symm
 ·have hg : Gd (⟨#[46, 119, 111, 114, 107]⟩ : ByteArray).data.toList := by decide
  rw [if_neg h0, RUnder_eq h (by decide), Option.bind_some]
  congr 1
  rw [Bool.eq_iff_iff, decide_eq_true_eq, decide_eq_true_eq]
  exact ⟨fun h => .inr ⟨h.1, h.2.2⟩, fun h => h.elim (fun e => absurd e h0) (fun h => ⟨h.1, hg, h.2⟩)⟩
theorem cmpC (a b : ByteArray) (W : World) (ha : a.size < 4294967281) (hb : b.size < 4294967281) : Calls Tryz.prog 61 #[.string a, .string b] W fun e w' => e = .returned (.int .i64 (cL (sp a.data.toList) (sp b.data.toList))) ∧ Below W.heap.size W w' :=
 path_Cmp.calls a b _ W (by unfold path_Cmp.f; rw [if_pos ha, if_pos hb])
theorem find1_calls (a : ByteArray) (d : Bool) (A : Option Addr) (n c : Nat) (q : ByteArray) (w : World) (ha : a.size < 4294967281) (hq : q.size < 4294967281) :
  Calls Tryz.prog 88 #[.agg #[.string a, .bool d, .slice A n c], .string q] w fun e w' => e = .returned (.int .i64 (cL (sp a.data.toList) (sp q.data.toList))) ∧ Below w.heap.size w w' := by
 have hC := fun W => cmpC a q W ha hq
 clear ha hq
 go_enter Tryz.func88, Tryz.ntmps88
 go_wp2_with (fail)
 refine (hC _).mono ?_
 rintro e w2 ⟨rfl, hb⟩
 dsimp only
 go_wp2_with (fail)
 go_ret
 exact ⟨rfl, (below_alloc (Below.refl _ _) _).trans (hb.mono (by rw [World.size_alloc]; omega))⟩
theorem rdT {xs : List S42} {i : Nat} (h : i < xs.length) : rd_T42 xs (i : Int) = xs[i] := by
 unfold rd_T42
 rw [Int.toNat_natCast, List.getD_eq_getElem?_getD, List.getElem?_eq_getElem h]
 rfl
theorem atT {w : World} {A : Option Addr} {n : Nat} {xs : List S42} (h : Kd.C k42 w A n xs) (i : Nat) (h1 : i < xs.length) : ∃ ad A2 c2, A = some ad ∧ w.cell? (ad.add (i * 3)) = some (.string xs[i].f0) ∧ w.cell? ⟨(ad.add (i * 3)).block, (ad.add (i * 3)).off + 1, none⟩ = some (.bool xs[i].f1) ∧
  w.cell? ⟨(ad.add (i * 3)).block, (ad.add (i * 3)).off + 2, none⟩ = some (.slice A2 xs[i].f2.length c2) ∧ xs[i].f2.length ≤ c2 ∧ (Kd.int .u8).C w A2 xs[i].f2.length xs[i].f2 := by
 obtain ⟨ad, A2, c2, e, h0, h2, h3, h4, h5⟩ := at_T42 h (i : Int) (by omega) (by have := h.1; omega)
 rw [rdT h1, Int.toNat_natCast] at *
 exact ⟨ad, A2, c2, e, h0, h2, h3, h4, h5⟩
theorem BinarySearch_calls (A0 : Option Addr) (c0 : Nat) (l0 : List S42) (q : ByteArray) (w : World) (hr0 : Kd.C k42 w A0 l0.length l0) (hc0 : l0.length ≤ c0) (hl0 : l0.length ≤ 100000) (hs0 : ∀ x ∈ l0, x.f0.size < 4294967281) (hq : q.size < 4294967281) (hsrt : Srt S42.f0 l0) :
  Calls Tryz.prog 87 #[.slice A0 l0.length c0, .string q, .func (.func 88) #[] #[]] w fun e w' => e = .returned (.tuple #[.int .i64 (lowB S42.f0 q l0), .bool (decide (∃ x ∈ l0, x.f0 = q))]) ∧ Below w.heap.size w w' := by
 have HS := Aside0.mk hs0
 have HSRT := Aside0.mk hsrt
 have HQ := Aside0.mk hq
 have HL := Aside0.mk hl0
 have HR := Aside0.mk hr0
 clear hs0 hsrt hq hl0 hr0
 go_enter Tryz.func87, Tryz.ntmps87
 go_wp2_with (fail)
 go_loopg [9, 10] l0.length (fun gg s9 s10 wr => ∃ i j : Nat, i ≤ j ∧ j ≤ l0.length ∧ gg = j - i ∧ s9 = .int .i64 i ∧ s10 = .int .i64 j ∧ (∀ m (h : m < l0.length), m < i → ltP l0[m].f0 q) ∧ (∀ m (h : m < l0.length), j ≤ m → ¬ ltP l0[m].f0 q) ∧ Below w.heap.size w wr)
 case atStart => exact ⟨0, l0.length, Nat.zero_le _, Nat.le_refl _, rfl, rfl, rfl, fun m h h2 => by omega, fun m h h2 => by omega, Below.refl _ _⟩
 case round =>
  obtain ⟨i, j, hij, hj, rfl, rfl, rfl, hlo, hhi, hb⟩ := hrel
  have hl0 := HL.out
  by_cases a : i < j
  ·have a1 : decide ((i : Int) < (j : Int)) = true := decide_eq_true (by omega)
   obtain ⟨m, hm⟩ : ∃ m, m = (i + j) / 2 := ⟨_, rfl⟩
   have hm2 : ((i : Int) + (j : Int)) / 2 = (m : Int) := by omega
   have hml : m < l0.length := by omega
   have hwm : wrap64 ((m : Int) + 1) = ((m + 1 : Nat) : Int) := by unfold wrap64; omega
   obtain ⟨ad, A2, c2, rfl, k0, k1, k2, _, _⟩ := atT HR.out m hml
   replace k0 := (hb.cell (cell_lt2 k0)).trans k0
   replace k1 := (hb.cell (cell_lt2 k1)).trans k1
   replace k2 := (hb.cell (cell_lt2 k2)).trans k2
   have hpx : l0[m].f0.size < 4294967281 := HS.out _ (List.getElem_mem hml)
   have hup : ltP l0[m].f0 q → ∀ m' (h : m' < l0.length), m' < m + 1 → ltP l0[m'].f0 q := fun hlt m' h h2 => by
    rcases Nat.lt_or_ge m' m with h3 | h3
    ·exact ltP_trans (List.pairwise_iff_getElem.1 HSRT.out m' m h hml h3) hlt
    ·obtain rfl : m' = m := by omega
     exact hlt
   have hdn : ¬ ltP l0[m].f0 q → ∀ m' (h : m' < l0.length), m ≤ m' → ¬ ltP l0[m'].f0 q := fun hlt m' h h2 => by
    rcases Nat.lt_or_ge m m' with h3 | h3
    ·exact fun h4 => hlt (ltP_trans (List.pairwise_iff_getElem.1 HSRT.out m m' hml h h3) h4)
    ·obtain rfl : m' = m := by omega
     exact hlt
   generalize l0[m].f0 = p at *
   generalize l0[m].f1 = dr at *
   generalize l0[m].f2.length = n2 at *
   have hC := fun W => find1_calls p dr A2 n2 c2 q W hpx HQ.out
   obtain ⟨cc, hcc⟩ : ∃ cc, cc = cL (sp p.data.toList) (sp q.data.toList) := ⟨_, rfl⟩
   rw [← hcc] at hC
   have HLO := Aside0.mk hlo
   have HHI := Aside0.mk hhi
   have HUP := Aside0.mk hup
   have HDN := Aside0.mk hdn
   have HWM := Aside0.mk hwm
   have HM := Aside0.mk hm
   have HCC := Aside0.mk hcc
   clear hlo hhi hup hdn hwm hm hcc hpx
   by_cases hlt : cc < 0
   ·have p5 : decide (cc < 0) = true := decide_eq_true hlt
    go_wp2_with (fail)
    refine (hC _).mono ?_
    rintro e w2 ⟨rfl, hb2⟩
    dsimp only
    go_wp2_with (fail)
    go_roundg (j - (m + 1))
    case measure =>
     have := HM.out
     omega
    case rel =>
     have := HM.out
     exact ⟨m + 1, j, by omega, hj, rfl, by first | rw [HWM.out] | (simp; done), rfl, HUP.out (by unfold ltP; rw [← HCC.out]; exact hlt), HHI.out, hb.trans (hb2.mono hb.size)⟩
   ·have p5 : decide (cc < 0) = false := decide_eq_false hlt
    go_wp2_with (fail)
    refine (hC _).mono ?_
    rintro e w2 ⟨rfl, hb2⟩
    dsimp only
    go_wp2_with (fail)
    go_roundg (m - i)
    case measure =>
     have := HM.out
     omega
    case rel =>
     have := HM.out
     exact ⟨i, m, by omega, by omega, rfl, rfl, rfl, HLO.out, HDN.out (by unfold ltP; rw [← HCC.out]; omega), hb.trans (hb2.mono hb.size)⟩
  ·have a1 : decide ((i : Int) < (j : Int)) = false := decide_eq_false (by omega)
   obtain rfl : i = j := by omega
   have hi := lowB_uniq HSRT.out hj hlo hhi
   have hat := lowB_at (p := q) HSRT.out
   rw [← hi] at hat
   have HI := Aside0.mk hi
   clear hlo hhi hi
   by_cases hin : i < l0.length
   ·have a2 : decide ((i : Int) < (l0.length : Int)) = true := decide_eq_true (by omega)
    obtain ⟨ad, A2, c2, rfl, k0, k1, k2, _, _⟩ := atT HR.out i hin
    replace k0 := (hb.cell (cell_lt2 k0)).trans k0
    replace k1 := (hb.cell (cell_lt2 k1)).trans k1
    replace k2 := (hb.cell (cell_lt2 k2)).trans k2
    have hpx : l0[i].f0.size < 4294967281 := HS.out _ (List.getElem_mem hin)
    have hfd : decide (∃ x ∈ l0, x.f0 = q) = decide (l0[i].f0 = q) := by
     rw [decide_eq_decide, ← hat]
     exact ⟨fun ⟨_, h⟩ => h, fun h => ⟨hin, h⟩⟩
    have HFD := Aside0.mk hfd
    clear hat hfd
    generalize l0[i].f0 = p at *
    generalize l0[i].f1 = dr at *
    generalize l0[i].f2.length = n2 at *
    have hC := fun W => find1_calls p dr A2 n2 c2 q W hpx HQ.out
    have hcq : cL (sp p.data.toList) (sp q.data.toList) = 0 ↔ p = q := ⟨fun h => ByteArray.ext (Array.toList_inj.1 (sp_inj (cL_eq.1 h))), fun h => cL_eq.2 (by rw [h])⟩
    obtain ⟨cc, hcc⟩ : ∃ cc, cc = cL (sp p.data.toList) (sp q.data.toList) := ⟨_, rfl⟩
    rw [← hcc] at hC hcq
    have HCQ := Aside0.mk hcq
    clear hcc hcq hpx
    by_cases hc0 : cc = 0
    ·have p5 : (cc == 0) = true := beq_iff_eq.2 hc0
     have he : decide (p = q) = true := decide_eq_true (HCQ.out.1 hc0)
     have HE := Aside0.mk he
     clear he hc0
     go_wp2_with (fail)
     refine (hC _).mono ?_
     rintro e w2 ⟨rfl, hb2⟩
     dsimp only
     go_wp2_with (fail)
     go_ret2
     exact ⟨by rw [← HI.out, HFD.out, HE.out]; rfl, hb.trans (hb2.mono hb.size)⟩
    ·have p5 : (cc == 0) = false := beq_eq_false_iff_ne.2 hc0
     have he : decide (p = q) = false := decide_eq_false fun h => hc0 (HCQ.out.2 h)
     have HE := Aside0.mk he
     clear he hc0
     go_wp2_with (fail)
     refine (hC _).mono ?_
     rintro e w2 ⟨rfl, hb2⟩
     dsimp only
     go_wp2_with (fail)
     go_ret2
     exact ⟨by rw [← HI.out, HFD.out, HE.out]; rfl, hb.trans (hb2.mono hb.size)⟩
   ·have a2 : decide ((i : Int) < (l0.length : Int)) = false := decide_eq_false (by omega)
    have he : decide (∃ x ∈ l0, x.f0 = q) = false := decide_eq_false fun h => hin (hat.2 h).1
    have HE := Aside0.mk he
    clear hat he
    go_wp2_with (fail)
    go_ret2
    exact ⟨by rw [← HI.out, HE.out]; rfl, hb⟩
def okP (l : List S42) : Bool := l.all (fun x => decide (x.f0.size < 4294967280)) && decide (l.length ≤ 100000)
theorem okP_iff {l : List S42} : okP l = true ↔ (∀ x ∈ l, x.f0.size < 4294967280) ∧ l.length ≤ 100000 := by
 unfold okP
 rw [Bool.and_eq_true, List.all_eq_true, decide_eq_true_eq]
 simp only [decide_eq_true_eq]
instance (l : List S42) : Decidable (Srt S42.f0 l) := by unfold Srt; exact inferInstance
def tree_find.f (l : List S42) (q : ByteArray) : Option (Int × Bool) := if okP l = true ∧ q.size < 4294967280 ∧ Srt S42.f0 l then some ((lowB S42.f0 q l : Int), decide (∃ x ∈ l, x.f0 = q)) else none
theorem tree_find.calls (A0 : Option Addr) (c0 : Nat) (l0 : List S42) (a1 : ByteArray) (r1 : Int) (r2 : Bool) (w : World) (hr0 : Kd.C k42 w A0 l0.length l0) (hc0 : l0.length ≤ c0) (h : tree_find.f l0 a1 = some (r1, r2)) :
  Calls Tryz.prog 53 #[.slice A0 l0.length c0, .string a1] w fun e w' => e = .returned (.tuple #[.int .i64 r1, .bool r2]) ∧ Below w.heap.size w w' := by
 unfold tree_find.f at h
 split at h
 ·rename_i hc
  obtain ⟨h1, h2⟩ := Prod.mk.inj (Option.some.inj h)
  subst h1
  subst h2
  obtain ⟨ho, hq, hs⟩ := hc
  have ho := okP_iff.1 ho
  have k := BinarySearch_calls A0 c0 l0 a1 w hr0 hc0 ho.2 (fun x hx => by have := ho.1 x hx; omega) (by omega) hs
  clear ho hq hs hr0 h
  go_enter Tryz.func53, Tryz.ntmps53
  go_wp2_with (fail)
  refine k.mono ?_
  rintro e w2 ⟨rfl, hb⟩
  dsimp only
  go_wp2_with (fail)
  go_ret2
  exact ⟨rfl, hb⟩
 ·cases h
end Go.Proofs.YtidlldfghkaeeaaGreatDoor.P
end
