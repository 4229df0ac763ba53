/- Put together by pack2.py: RefNames, RefGood, RefUnder, RefCmp, Spx, Srt, PthSort, RefSort, Px0 -/
import Derived.Test.YtidlldfghkaeeaaGreatDoorZyLaidKEtc
import Derived.Test.YtidlldfghkaeeaaGreatDoorZyOwn53
import Derived.Sort.Grow
import Derived.Lib.SliceRun
import Derived.Shelf.Slices.Cells
import Derived.Shelf.SlSortCmp.NoneTotal
import Derived.Test.YtidlldfghkaeeaaGreatDoorProg
import Derived.Below
import Derived.Deep.Draws
import Derived.Deep.AppendLies
import Derived.Maps.AppendAt
import Derived.OwnWalk
import Derived.Laws.BytesArg
import Derived.Laws.MakeOwn
import Derived.Laws.OwnMore
import Derived.Deep.OwnRows
import Derived.Tactics
import Derived.Lib.ConvBytes
import Derived.Laws.Slices
import Derived.WalkKit
import Derived.KernelRfl
import Derived.RowKit3
import Derived.Deep.LoopGhost
import Derived.Deep.QuietTactic
import Derived.BigQuiet
import Derived.WideLaws
import Derived.Deep.DeepCutAuto
import Derived.Deep.CutBlock
import Derived.Deep.RegionHeld3
import Derived.Laws.Rows
import Derived.Lib.AppendStr
import Derived.ArgAppend
import Derived.Laws.IdiomCopy
import Derived.OrdersHeld
import Derived.Laws.BitsLemmas
import Derived.RowKit
import Derived.Lib.SlBytesConst
import Derived.Test.YtidlldfghkaeeaaGreatDoorZyW0
import Derived.Laws.StructEq
set_option linter.unusedVariables false
set_option linter.unusedSimpArgs false
set_option maxHeartbeats 8000000
set_option maxRecDepth 100000
section
namespace Go.Proofs.YtidlldfghkaeeaaGreatDoor.P
open Go.RowKit Go.Proofs.YtidlldfghkaeeaaGreatDoorW.PrintWords Go.Proofs.YtidlldfghkaeeaaGreatDoorW.PrintLast
def mkB (l : List UInt8) : ByteArray := ⟨l.toArray⟩
def glue (cur rest : List UInt8) : List (List UInt8) := match sp rest with
 | [] => [cur]
 | x :: xs => (cur ++ x) :: xs
theorem glue_slash (cur r : List UInt8) : glue cur (47 :: r) = cur :: glue [] r := by
 unfold glue
 rw [sp_slash]
 obtain ⟨x, xs, e⟩ := List.exists_cons_of_ne_nil (sp_ne r)
 rw [e]
 simp
theorem glue_cons {b : UInt8} (hb : b ≠ 47) (cur r : List UInt8) : glue cur (b :: r) = glue (cur ++ [b]) r := by
 unfold glue
 obtain ⟨x, xs, e⟩ := List.exists_cons_of_ne_nil (sp_ne r)
 rw [sp_cons hb e, e]
 simp
theorem glue_nil (r : List UInt8) : glue [] r = sp r := by
 unfold glue
 obtain ⟨x, xs, e⟩ := List.exists_cons_of_ne_nil (sp_ne r)
 rw [e]
 rfl
theorem ex_mk (s : ByteArray) (a i : Nat) : s.extract a i = mkB ((s.data.toList.take i).drop a) := bext (D_ex s a i)
theorem names_l0 (s : ByteArray) (hs : s.size < 4294967281) : ∀ (d a i k : Nat) (acc : List ByteArray), i + d = s.size → a ≤ i → d + 1 ≤ k → acc.length ≤ i →
  ref7_names.l0 (k + 1) s acc (a : Int) (i : Int) = some (acc ++ (glue ((s.data.toList.take i).drop a) (s.data.toList.drop i)).map mkB)
 | 0, a, i, k, acc, hd, ha, hk, hl => by
  obtain ⟨k, rfl⟩ : ∃ n, k = n + 1 := ⟨k - 1, by omega⟩
  have hw : wrap64 ((i : Int) + 1) = ((i + 1 : Nat) : Int) := by unfold wrap64; omega
  have hdn : s.data.toList.drop i = [] := List.drop_eq_nil_of_le (by rw [← D_size]; omega)
  rw [ref7_names.l0, if_pos (by omega), if_pos (by omega), if_pos (by omega), if_pos (by omega), if_pos (by omega), hw, ref7_names.l0, if_neg (by omega), Int.toNat_natCast, Int.toNat_natCast, ex_mk, hdn]
  congr 2
  simp [glue, sp]
 | d + 1, a, i, k, acc, hd, ha, hk, hl => by
  obtain ⟨k, rfl⟩ : ∃ n, k = n + 1 := ⟨k - 1, by omega⟩
  have hi : i < s.size := by omega
  have hw : wrap64 ((i : Int) + 1) = ((i + 1 : Nat) : Int) := by unfold wrap64; omega
  have hi' : i < s.data.toList.length := by rw [← D_size]; exact hi
  have hb : bt s (i : Int) = ((s.data.toList[i]).toNat : Int) := by
   unfold bt
   rw [dif_pos (by omega)]
   rfl
  have hdr : s.data.toList.drop i = s.data.toList[i] :: s.data.toList.drop (i + 1) := List.drop_eq_getElem_cons hi'
  have htk : s.data.toList.take (i + 1) = s.data.toList.take i ++ [s.data.toList[i]] := by
   rw [List.take_add_one, List.getElem?_eq_getElem hi']
   rfl
  have hsz := D_size s
  rw [ref7_names.l0, if_pos (by omega), if_neg (by omega), if_pos (by omega), if_pos (by omega), hb, hdr]
  generalize s.data.toList[i] = b at *
  by_cases h : b = 47
  ·subst h
   rw [if_pos (by decide), if_pos (by omega), if_pos (by omega), if_pos (by omega), hw, names_l0 s hs d (i + 1) (i + 1) k _ (by omega) (Nat.le_refl _) (by omega) (by rw [List.length_append, List.length_singleton]; omega), Int.toNat_natCast, Int.toNat_natCast, ex_mk, glue_slash, List.drop_eq_nil_of_le (show (s.data.toList.take (i + 1)).length ≤ i + 1 by rw [List.length_take]; omega)]
   simp
  ·rw [if_neg (fun e => h (u47 e)), hw, names_l0 s hs d a (i + 1) k _ (by omega) (by omega) (by omega) (by omega), glue_cons h, htk, List.drop_append_of_le_length (by rw [List.length_take]; omega)]
theorem names_eq {s : ByteArray} (hs : s.size < 4294967281) {k : Nat} (hk : s.size + 2 ≤ k) : ref7_names.f k s = some ((sp s.data.toList).map mkB) := by
 obtain ⟨k, rfl⟩ : ∃ n, k = n + 1 := ⟨k - 1, by omega⟩
 have h := names_l0 s hs s.size 0 0 k [] (by omega) (Nat.le_refl _) (by omega) (Nat.le_refl _)
 rw [List.drop_zero, List.take_zero, glue_nil, List.nil_append] at h
 exact h
theorem ok_iff (b : UInt8) : b ∈ letters_.data.toList ↔ (97 ≤ b.toNat ∧ b.toNat ≤ 122) ∨ (48 ≤ b.toNat ∧ b.toNat ≤ 57) ∨ b.toNat = 46 ∨ b.toNat = 45 ∨ b.toNat = 95 := by
 have h : ∀ n, n < 256 → (UInt8.ofNat n ∈ letters_.data.toList ↔ (97 ≤ n ∧ n ≤ 122) ∨ (48 ≤ n ∧ n ≤ 57) ∨ n = 46 ∨ n = 45 ∨ n = 95) := by decide +kernel
 have h2 := h b.toNat b.toNat_lt
 rwa [UInt8.ofNat_toNat] at h2
theorem rdP {l : List ByteArray} {i : Nat} (h : i < l.length) : rdOf ByteArray.empty l (i : Int) = l[i] := by
 unfold rdOf
 rw [Int.toNat_natCast, List.getD_eq_getElem?_getD, List.getElem?_eq_getElem h]
 rfl
theorem G1 (ps : List ByteArray) (i : Nat) (hi : i < ps.length) (hz : ps[i].size < 4294967281) (hi2 : i < 4294967281) (m : Nat) (R : Bool)
  (H : ∀ k, m ≤ k → ref7_Good.l0 k ps ((i + 1 : Nat) : Int) = some R) : ∀ (d j k : Nat), j + d = ps[i].size → m + d ≤ k →
  ref7_Good.l1 (k + 1) ps (i : Int) (j : Int) = some ((ps[i].data.toList.drop j).all (fun b => decide (b ∈ letters_.data.toList)) && R)
 | 0, j, k, hd, hk => by
  have hw : wrap64 ((i : Int) + 1) = ((i + 1 : Nat) : Int) := by unfold wrap64; omega
  rw [ref7_Good.l1, if_pos (by omega), if_pos (by omega), rdP hi, if_neg (by omega), hw, H k (by omega), List.drop_eq_nil_of_le (by rw [← D_size]; omega)]
  simp
 | d + 1, j, k, hd, hk => by
  obtain ⟨k, rfl⟩ : ∃ n, k = n + 1 := ⟨k - 1, by omega⟩
  have hw : wrap64 ((j : Int) + 1) = ((j + 1 : Nat) : Int) := by unfold wrap64; omega
  have hj : j < ps[i].size := by omega
  have ih := G1 ps i hi hz hi2 m R H d (j + 1) k (by omega) (by omega)
  have hj' : j < ps[i].data.toList.length := by rw [← D_size]; exact hj
  have hb : bt ps[i] (j : Int) = ((ps[i].data.toList[j]).toNat : Int) := by
   unfold bt
   rw [dif_pos (by omega)]
   rfl
  rw [ref7_Good.l1, if_pos (by omega), if_pos (by omega), rdP hi, if_pos (by omega), if_pos (by omega), hw, hb, ih, List.drop_eq_getElem_cons hj']
  have ho := ok_iff ps[i].data.toList[j]
  generalize ps[i].data.toList[j] = b at *
  have e : ((b :: ps[i].data.toList.drop (j + 1)).all (fun b => decide (b ∈ letters_.data.toList)) && R) = (if b ∈ letters_.data.toList then ((ps[i].data.toList.drop (j + 1)).all (fun b => decide (b ∈ letters_.data.toList)) && R) else false) := by
   rw [List.all_cons]
   by_cases h : b ∈ letters_.data.toList
   ·rw [if_pos h, decide_eq_true h, Bool.true_and]
   ·rw [if_neg h, decide_eq_false h]
    rfl
  rw [e]
  generalize ((ps[i].data.toList.drop (j + 1)).all (fun b => decide (b ∈ letters_.data.toList)) && R) = Q
  clear ih H e
  by_cases h : b ∈ letters_.data.toList
  ·rw [if_pos h]
   have h := ho.1 h
   repeat' split
   all_goals first | rfl | (exfalso; omega)
  ·rw [if_neg h]
   have h : ¬ _ := fun x => h (ho.2 x)
   repeat' split
   all_goals first | rfl | (exfalso; omega)
theorem G0 (ps : List ByteArray) (hn : ps.length < 4294967281) (N : Nat) (hz : ∀ x ∈ ps, x.size ≤ N) (hN : N < 4294967281) : ∀ (d i k : Nat), i + d = ps.length → d * (N + 3) + 1 ≤ k →
  ref7_Good.l0 k ps (i : Int) = some ((ps.drop i).all (fun x => decide (Nm x.data.toList)) && decide (ps.length ≤ 4))
 | 0, i, k, hd, hk => by
  obtain ⟨k, rfl⟩ : ∃ n, k = n + 1 := ⟨k - 1, by omega⟩
  rw [ref7_Good.l0, if_neg (by omega), List.drop_eq_nil_of_le (by omega)]
  congr 1
  rw [show decide ((ps.length : Int) ≤ 4) = decide (ps.length ≤ 4) from decide_eq_decide.2 (by omega)]
  simp
 | d + 1, i, k, hd, hk => by
  have hm : (d + 1) * (N + 3) = d * (N + 3) + (N + 3) := by rw [Nat.add_mul, Nat.one_mul]
  obtain ⟨k, rfl⟩ : ∃ n, k = n + 3 := ⟨k - 3, by omega⟩
  have hi : i < ps.length := by omega
  have hzi := hz _ (List.getElem_mem hi)
  have hD := D_size ps[i]
  have h1 := G1 ps i hi (by omega) (by omega) (d * (N + 3) + 1) _ (fun k hk => G0 ps hn N hz hN d (i + 1) k (by omega) hk) ps[i].size 0 k (by omega) (by omega)
  rw [List.drop_zero, show ((0 : Nat) : Int) = 0 from rfl] at h1
  generalize hQ : ((ps.drop (i + 1)).all (fun x => decide (Nm x.data.toList)) && decide (ps.length ≤ 4)) = Q at *
  have hj : ∀ b : Bool, ref7_Good.j1 (k + 2) ps (i : Int) b = if b = true then some false else some (ps[i].data.toList.all (fun b => decide (b ∈ letters_.data.toList)) && Q) := fun b => by
   rw [ref7_Good.j1, h1]
  have hR : ((ps[i] :: ps.drop (i + 1)).all (fun x => decide (Nm x.data.toList)) && decide (ps.length ≤ 4)) = (decide (Nm ps[i].data.toList) && Q) := by
   rw [← hQ, List.all_cons, Bool.and_assoc]
  rw [ref7_Good.l0, if_pos (by omega), if_pos (by omega), rdP hi, hj, hj, List.drop_eq_getElem_cons hi, hR, Lib.toList_data]
  generalize ps[i] = x at *
  clear hj h1 hR hQ
  have hn : (Nm x.data.toList ↔ (1 ≤ x.size ∧ x.size ≤ 16 ∧ x.data.toList ≠ [46] ∧ x.data.toList ≠ [46, 46] ∧ x.data.toList.all (fun b => decide (b ∈ letters_.data.toList)) = true)) := by
   unfold Nm
   rw [← hD, List.all_eq_true]
   constructor
   ·rintro ⟨a, b, c, d, e⟩
    exact ⟨by rw [hD]; exact List.length_pos_iff.2 a, b, c, d, fun y hy => decide_eq_true (e y hy)⟩
   ·rintro ⟨a, b, c, d, e⟩
    exact ⟨List.length_pos_iff.1 (by omega), b, c, d, fun y hy => of_decide_eq_true (e y hy)⟩
  by_cases c1 : (x.size : Int) < 1
  ·rw [if_pos c1, if_pos rfl, decide_eq_false (fun h => by have := (hn.1 h).1; omega)]
   rfl
  ·rw [if_neg c1]
   by_cases c2 : (x.size : Int) > 16
   ·rw [if_pos c2, if_pos rfl, decide_eq_false (fun h => by have := (hn.1 h).2.1; omega)]
    rfl
   ·rw [if_neg c2]
    by_cases c3 : x.data.toList = [46]
    ·rw [if_pos c3, if_pos rfl, decide_eq_false (fun h => (hn.1 h).2.2.1 c3)]
     rfl
    ·rw [if_neg c3]
     by_cases c4 : x.data.toList = [46, 46]
     ·rw [if_pos (by rw [c4]; rfl), decide_eq_false (fun h => (hn.1 h).2.2.2.1 c4)]
      rfl
     ·rw [if_neg (by simpa using c4)]
      congr 2
      rw [Bool.eq_iff_iff, decide_eq_true_eq, hn]
      exact ⟨fun h => ⟨by omega, by omega, c3, c4, h⟩, fun h => h.2.2.2.2⟩
theorem sp_le : ∀ (l x : List UInt8), x ∈ sp l → x.length ≤ l.length
 | [], x, h => by
  have : x = [] := by simpa [sp] using h
  rw [this]
  exact Nat.le_refl _
 | b :: l, x, h => by
  by_cases hb : b = 47
  ·subst hb
   rw [sp_slash] at h
   rcases List.mem_cons.1 h with rfl | h
   ·exact Nat.zero_le _
   ·exact Nat.le_succ_of_le (sp_le l x h)
  ·obtain ⟨y, ys, e⟩ := List.exists_cons_of_ne_nil (sp_ne l)
   rw [sp_cons hb e] at h
   rcases List.mem_cons.1 h with rfl | h
   ·exact Nat.succ_le_succ (sp_le l y (by rw [e]; exact List.mem_cons_self))
   ·exact Nat.le_succ_of_le (sp_le l x (by rw [e]; exact List.mem_cons_of_mem _ h))
theorem sp_len_le (s : ByteArray) : (sp s.data.toList).length ≤ s.size + 1 := by
 rw [sp_len, D_size]
 have := List.count_le_length (a := (47 : UInt8)) (l := s.data.toList)
 omega
theorem GoodRef_eq {s : ByteArray} (hs : s.size < 4294967280) {k : Nat} (hk : (s.size + 1) * (s.size + 3) + 2 ≤ k) : ref7_Good.f k s = some (decide (Gd s.data.toList)) := by
 have h1 := sp_len_le s
 have h2 : s.size + 2 ≤ k := by
  have : s.size + 3 ≤ (s.size + 1) * (s.size + 3) := Nat.le_mul_of_pos_left _ (by omega)
  omega
 have h3 : (sp s.data.toList).length * (s.size + 3) ≤ (s.size + 1) * (s.size + 3) := Nat.mul_le_mul_right _ h1
 unfold ref7_Good.f
 rw [names_eq (by omega) h2, Option.bind_some]
 have h := G0 ((sp s.data.toList).map mkB) (by rw [List.length_map]; omega) s.size (fun x hx => by
  obtain ⟨y, hy, rfl⟩ := List.mem_map.1 hx
  rw [D_size, D_size]
  exact sp_le _ _ hy) (by omega) (sp s.data.toList).length 0 k (by rw [List.length_map]; omega) (by omega)
 rw [show ((0 : Nat) : Int) = 0 from rfl, List.drop_zero, List.length_map] at h
 rw [h]
 congr 1
 rw [Bool.eq_iff_iff, Bool.and_eq_true, List.all_eq_true, decide_eq_true_eq, decide_eq_true_eq]
 show _ ↔ ((sp s.data.toList).length ≤ 4 ∧ ∀ x ∈ sp s.data.toList, Nm x)
 constructor
 ·rintro ⟨a, b⟩
  exact ⟨b, fun x hx => of_decide_eq_true (a (mkB x) (List.mem_map_of_mem hx))⟩
 ·rintro ⟨a, b⟩
  refine ⟨fun x hx => ?_, a⟩
  obtain ⟨y, hy, rfl⟩ := List.mem_map.1 hx
  exact decide_eq_true (b y hy)
end Go.Proofs.YtidlldfghkaeeaaGreatDoor.P
end
section
namespace Go.Proofs.YtidlldfghkaeeaaGreatDoor.P
open Go.RowKit Go.Proofs.YtidlldfghkaeeaaGreatDoorW.PrintWords Go.Proofs.YtidlldfghkaeeaaGreatDoorW.PrintLast Go.Proofs.YtidlldfghkaeeaaGreatDoorW.PrintMore
def tallymanref7_names.f (a0 : ByteArray) : Option (List ByteArray) := if a0.size < 4294967280 then some ((sp a0.data.toList).map mkB) else none
theorem tallymanref7_names.calls (a0 : ByteArray) (r : List ByteArray) (w : World) (h : tallymanref7_names.f a0 = some r) :
  Calls Tryz.prog 86 #[.string a0] w fun e w' => ∃ v0_ : Value, e = .returned (v0_) ∧ Kd.R Kd.string 9 w' w.heap.size (fun _ => True) v0_ r ∧ Below w.heap.size w w' := by
 unfold tallymanref7_names.f at h
 split at h
 ·rename_i h1
  exact ref7_names.calls (a0.size + 2) a0 r w ((names_eq (by omega) (Nat.le_refl _)).trans h)
 ·cases h
def tallymanref7_Good.f (a0 : ByteArray) : Option Bool := if a0.size < 4294967280 then some (decide (Gd a0.data.toList)) else none
theorem tallymanref7_Good.calls (a0 : ByteArray) (r : Bool) (w : World) (h : tallymanref7_Good.f a0 = some r) :
  Calls Tryz.prog 49 #[.string a0] w fun e w' => e = .returned (.bool r) ∧ Below w.heap.size w w' := by
 unfold tallymanref7_Good.f at h
 split at h
 ·rename_i h1
  exact ref7_Good.calls ((a0.size + 1) * (a0.size + 3) + 2) a0 r w ((GoodRef_eq h1 (Nat.le_refl _)).trans h)
 ·cases h
def tallymanref7_Under.f (a0 a1 : ByteArray) : Option Bool := if a0.size < 4294967280 then if a1.size < 4294967280 then some (decide (Gd a0.data.toList ∧ Gd a1.data.toList ∧ (a1.data.toList ++ [47]) <+: a0.data.toList)) else none else none
theorem tallymanref7_Under.calls (a0 a1 : ByteArray) (r : Bool) (w : World) (h : tallymanref7_Under.f a0 a1 = some r) :
  Calls Tryz.prog 56 #[.string a0, .string a1] w fun e w' => e = .returned (.bool r) ∧ Below w.heap.size w w' := by
 unfold tallymanref7_Under.f at h
 split at h
 ·rename_i h0
  split at h
  ·rename_i h1
   have k0 := fun W => tallymanref7_Good.calls a0 (decide (Gd a0.data.toList)) W (by unfold tallymanref7_Good.f; rw [if_pos h0])
   have k1 := fun W => tallymanref7_Good.calls a1 (decide (Gd a1.data.toList)) W (by unfold tallymanref7_Good.f; rw [if_pos h1])
   obtain rfl := Option.some.inj h
   clear h
   by_cases g0 : Gd a0.data.toList
   ·by_cases g1 : Gd a1.data.toList
    ·rw [decide_eq_true g0] at k0
     rw [decide_eq_true g1] at k1
     by_cases c1 : a1.size < a0.size
     ·have hl : a1.data.toList.length < a0.data.toList.length := by rw [← D_size, ← D_size]; exact c1
      have c2 : decide ((a1.size : Int) < (a0.size : Int)) = true := decide_eq_true (by omega)
      have hx : (a0.extract 0 a1.size).data.toList = a0.data.toList.take a1.data.toList.length := by rw [D_ex, List.drop_zero, D_size a1]
      have p12 : (0 ≤ (a1.size : Int)) = True := eq_true (by omega)
      have p13 : ((a1.size : Int) ≤ (a0.size : Int)) = True := eq_true (by omega)
      have p14 : ((a1.size : Int) < (a0.size : Int)) = True := eq_true (by omega)
      have hb : bt a0 (a1.size : Int) = ((a0.data.toList[a1.data.toList.length]).toNat : Int) := by
       unfold bt
       rw [dif_pos (by omega)]
       simp only [Int.toNat_natCast, D_size a1]
       rfl
      have hbt := bt_at a0 (a1.size : Int)
      by_cases c3 : (a0.extract 0 a1.size).toList = a1.toList
      ·have c3b : ((a0.extract 0 a1.size).toList == a1.toList) = true := beq_iff_eq.2 c3
       have e : decide (Gd a0.data.toList ∧ Gd a1.data.toList ∧ (a1.data.toList ++ [47]) <+: a0.data.toList) = (bt a0 (a1.size : Int) == 47) := by
        rw [hb, Bool.eq_iff_iff, decide_eq_true_eq, beq_iff_eq]
        rw [Lib.toList_data, Lib.toList_data, hx] at c3
        have hd : a0.data.toList.drop a1.data.toList.length = a0.data.toList[a1.data.toList.length] :: a0.data.toList.drop (a1.data.toList.length + 1) := List.drop_eq_getElem_cons hl
        have ht : a0.data.toList = a1.data.toList ++ (a0.data.toList[a1.data.toList.length] :: a0.data.toList.drop (a1.data.toList.length + 1)) := by
         rw [← hd]
         conv => lhs; rw [← List.take_append_drop a1.data.toList.length a0.data.toList, c3]
        generalize a0.data.toList[a1.data.toList.length] = b at *
        constructor
        ·rintro ⟨_, _, t, h⟩
         rw [ht, List.append_assoc, List.append_cancel_left_eq] at h
         injection h with h _
         rw [← h]
         rfl
        ·intro h
         refine ⟨g0, g1, a0.data.toList.drop (a1.data.toList.length + 1), ?_⟩
         rw [u47 h] at ht
         conv => rhs; rw [ht]
         simp
       rw [e]
       clear e g0 g1 h0 h1 c1 hb hx c3 hl
       go_enter Tryz.func56, Tryz.ntmps56
       go_wp2_with (fail)
       refine (k0 _).mono ?_
       rintro e w2 ⟨rfl, hb2⟩
       dsimp only
       go_wp2_with (fail)
       refine (k1 _).mono ?_
       rintro e w3 ⟨rfl, hb3⟩
       dsimp only
       clear k0 k1
       go_wp2_with (fail)
       go_ret
       have hq := hbt (by have := of_eq_true p14; omega)
       rw [← hq]
       exact ⟨rfl, hb2.trans (hb3.mono hb2.size)⟩
      ·have c3b : ((a0.extract 0 a1.size).toList == a1.toList) = false := beq_eq_false_iff_ne.2 c3
       have e : decide (Gd a0.data.toList ∧ Gd a1.data.toList ∧ (a1.data.toList ++ [47]) <+: a0.data.toList) = false := decide_eq_false (fun h => c3 (by
        obtain ⟨_, _, t, h⟩ := h
        rw [Lib.toList_data, Lib.toList_data, hx, ← h, List.append_assoc, List.take_left]))
       rw [e]
       clear e g0 g1 h0 h1 c1 hb hx c3 hl hbt
       go_enter Tryz.func56, Tryz.ntmps56
       go_wp2_with (fail)
       refine (k0 _).mono ?_
       rintro e w2 ⟨rfl, hb2⟩
       dsimp only
       go_wp2_with (fail)
       refine (k1 _).mono ?_
       rintro e w3 ⟨rfl, hb3⟩
       dsimp only
       clear k0 k1
       go_wp2_with (fail)
       go_ret
       exact ⟨rfl, hb2.trans (hb3.mono hb2.size)⟩
     ·have e : decide (Gd a0.data.toList ∧ Gd a1.data.toList ∧ (a1.data.toList ++ [47]) <+: a0.data.toList) = false := decide_eq_false (fun h => by
       have := h.2.2.length_le
       rw [List.length_append, ← D_size, ← D_size, List.length_singleton] at this
       omega)
      rw [e]
      have c2 : decide ((a1.size : Int) < (a0.size : Int)) = false := decide_eq_false (by omega)
      have c2' : decide (a1.size < a0.size) = false := decide_eq_false (by omega)
      clear e g0 g1 h0 h1 c1
      go_enter Tryz.func56, Tryz.ntmps56
      go_wp2_with (fail)
      refine (k0 _).mono ?_
      rintro e w2 ⟨rfl, hb2⟩
      dsimp only
      go_wp2_with (fail)
      refine (k1 _).mono ?_
      rintro e w3 ⟨rfl, hb3⟩
      dsimp only
      clear k0 k1
      go_wp2_with (fail)
      go_ret
      exact ⟨rfl, hb2.trans (hb3.mono hb2.size)⟩
    ·have e : decide (Gd a0.data.toList ∧ Gd a1.data.toList ∧ (a1.data.toList ++ [47]) <+: a0.data.toList) = false := decide_eq_false (fun h => g1 h.2.1)
     rw [e]
     rw [decide_eq_true g0] at k0
     rw [decide_eq_false g1] at k1
     clear e g0 g1 h0 h1
     go_enter Tryz.func56, Tryz.ntmps56
     go_wp2_with (fail)
     refine (k0 _).mono ?_
     rintro e w2 ⟨rfl, hb2⟩
     dsimp only
     go_wp2_with (fail)
     refine (k1 _).mono ?_
     rintro e w3 ⟨rfl, hb3⟩
     dsimp only
     clear k0 k1
     go_wp2_with (fail)
     go_ret
     exact ⟨rfl, hb2.trans (hb3.mono hb2.size)⟩
   ·have e : decide (Gd a0.data.toList ∧ Gd a1.data.toList ∧ (a1.data.toList ++ [47]) <+: a0.data.toList) = false := decide_eq_false (fun h => g0 h.1)
    rw [e]
    rw [decide_eq_false g0] at k0
    clear e g0 h0 h1
    go_enter Tryz.func56, Tryz.ntmps56
    go_wp2_with (go_at_call 49; refine (k0 _).mono ?_; rintro e w2 ⟨rfl, hb2⟩)
    go_ret
    exact ⟨rfl, hb2⟩
  ·cases h
 ·cases h
theorem cL_lens : ∀ {xs ys : List (List UInt8)}, xs = [] ∨ ys = [] → cL xs ys = if xs.length = ys.length then 0 else if xs.length < ys.length then -1 else 1
 | [], [], _ => rfl
 | [], _ :: _, _ => by simp [cL]
 | _ :: _, [], _ => by simp [cL]
 | _ :: _, _ :: _, h => by rcases h with h | h <;> cases h
def tallymanref7_Cmp.f (a0 a1 : ByteArray) : Option Int := if a0.size < 4294967280 then if a1.size < 4294967280 then some (cL (sp a0.data.toList) (sp a1.data.toList)) else none else none
set_option maxHeartbeats 4000000 in
theorem RefCmp_calls (a0 a1 : ByteArray) (xs ys : List ByteArray) (w : World) (hlx : xs.length ≤ 4611686018427387904) (hly : ys.length ≤ 4611686018427387904) (h0 : tallymanref7_names.f a0 = some xs) (h1 : tallymanref7_names.f a1 = some ys) :
  Calls Tryz.prog 85 #[.string a0, .string a1] w fun e w' => e = .returned (.int .i64 (cL (Ds xs) (Ds ys))) ∧ Below w.heap.size w w' := by
 have k0 := fun W => tallymanref7_names.calls a0 xs W h0
 have k1 := fun W => tallymanref7_names.calls a1 ys W h1
 have K1 := Aside0.mk k1
 have HX := Aside0.mk hlx
 have HY := Aside0.mk hly
 clear h0 h1 k1 hlx hly
 go_enter Tryz.func85, Tryz.ntmps85
 go_wp2_with (fail)
 refine (k0 _).mono ?_
 clear k0
 rintro e w2 ⟨v2, rfl, hR2, hb2⟩
 dsimp only
 go_wp2_with (fail)
 refine (K1.out _).mono ?_
 clear K1
 rintro e w3 ⟨v3, rfl, hR3, hb3⟩
 dsimp only
 have hX := Kd.R_below hR2 hb3
 have hY := Kd.R_lower hR3 hb2.size
 have hB := hb2.trans (hb3.mono hb2.size)
 clear hR2 hR3 hb2 hb3
 obtain ⟨A2, c2, rfl⟩ := Kd.R_slice hX
 obtain ⟨A3, c3, rfl⟩ := Kd.R_slice hY
 go_wp2_with (fail)
 go_loopg [7] xs.length (fun gg s7 wr => ∃ i : Nat, i ≤ xs.length ∧ i ≤ ys.length ∧ gg = xs.length - i ∧ s7 = .int .i64 i ∧ cL (Ds xs) (Ds ys) = cL (Ds (xs.drop i)) (Ds (ys.drop i)) ∧ Kd.R Kd.string 9 wr w.heap.size (fun _ => True) (.slice A2 xs.length c2) xs ∧ Kd.R Kd.string 9 wr w.heap.size (fun _ => True) (.slice A3 ys.length c3) ys ∧ Below w.heap.size w wr)
 case atStart => exact ⟨0, Nat.zero_le _, Nat.zero_le _, rfl, rfl, by rw [List.drop_zero, List.drop_zero], hX, hY, hB⟩
 case round =>
  obtain ⟨i, hi, hi2, rfl, rfl, he, hX, hY, hb⟩ := hrel
  by_cases a : i < xs.length ∧ i < ys.length
  ·obtain ⟨ax, ay⟩ := a
   have a1 : decide ((i : Int) < (xs.length : Int)) = true := decide_eq_true (by omega)
   have a2 : decide ((i : Int) < (ys.length : Int)) = true := decide_eq_true (by omega)
   obtain ⟨ad, rfl, cx⟩ := Kd.at_string (Kd.R_reads' hX).2.2 (i : Int) (by omega) (by omega)
   obtain ⟨ad2, rfl, cy⟩ := Kd.at_string (Kd.R_reads' hY).2.2 (i : Int) (by omega) (by omega)
   rw [rdP ax] at cx
   rw [rdP ay] at cy
   rw [List.drop_eq_getElem_cons ax, List.drop_eq_getElem_cons ay] at he
   rw [show ∀ (p : ByteArray) ps, Ds (p :: ps) = p.data.toList :: Ds ps from fun _ _ => rfl, show ∀ (p : ByteArray) ps, Ds (p :: ps) = p.data.toList :: Ds ps from fun _ _ => rfl, cL, ← Lib.toList_data, ← Lib.toList_data] at he
   rw [Int.toNat_natCast] at cx cy
   generalize xs[i] = x at *
   generalize ys[i] = y at *
   have HE := Aside0.mk he
   have hRX := Aside0.mk hX
   have hRY := Aside0.mk hY
   have HBB := Aside0.mk hb
   clear he hX hY hb
   by_cases l1 : Op.bytesLess x.toList y.toList = true
   ·have e : cL (Ds xs) (Ds ys) = -1 := by
     rw [HE.out, c1_lt.2 l1]
     rfl
    go_wp2_with (fail)
    repeat (go_quiet (fail); try go_wp2)
    go_ret
    exact ⟨by rw [e]; rfl, pw_below_drewN HBB.out _⟩
   ·have l1f : Op.bytesLess x.toList y.toList = false := by simpa using l1
    clear l1
    have hgt : ∀ W : World, (binOp .gtr 9 (.string x) (.string y)).run Tryz.prog W = .ok (.bool (Op.bytesLess y.toList x.toList)) W := fun W => gtr_ x y W
    have cxn : ∀ n, (wr.drewN n).cell? (ad.add i) = some (.string x) := fun n => cx
    have cyn : ∀ n, (wr.drewN n).cell? (ad2.add i) = some (.string y) := fun n => cy
    by_cases l2 : Op.bytesLess y.toList x.toList = true
    ·have e : cL (Ds xs) (Ds ys) = 1 := by
      have ec : c1 x.toList y.toList = 1 := by simp [c1, l1f, l2]
      rw [HE.out, ec]
      rfl
     go_wp2_with (fail)
     go_quiet (fail)
     have cx2 := cxn nq
     have cy2 := cyn nq
     have BQ := Aside0.mk (pw_below_drewN HBB.out nq)
     have XQ := Aside0.mk (Kd.R_drewN hRX.out nq)
     have YQ := Aside0.mk (Kd.R_drewN hRY.out nq)
     clear cxn cyn cx cy HBB hRX hRY
     generalize wr.drewN nq = wq at *
     go_wp2_with (fail)
     go_quiet (fail)
     go_wp2_with (fail)
     go_ret
     exact ⟨by rw [e]; rfl, pw_below_drewN BQ.out _⟩
    ·have l2f : Op.bytesLess y.toList x.toList = false := by simpa using l2
     clear l2
     have e : cL (Ds xs) (Ds ys) = cL (Ds (xs.drop (i + 1))) (Ds (ys.drop (i + 1))) := by
      have ec : c1 x.toList y.toList = 0 := by simp [c1, l1f, l2f]
      rw [HE.out, if_pos ec]
     have HE2 := Aside0.mk e
     clear e
     go_wp2_with (fail)
     go_quiet (fail)
     have cx2 := cxn nq
     have cy2 := cyn nq
     have BQ := Aside0.mk (pw_below_drewN HBB.out nq)
     have XQ := Aside0.mk (Kd.R_drewN hRX.out nq)
     have YQ := Aside0.mk (Kd.R_drewN hRY.out nq)
     clear cxn cyn cx cy HBB hRX hRY
     generalize wr.drewN nq = wq at *
     go_wp2_with (fail)
     go_quiet (fail)
     go_wp2_with (fail)
     go_roundg (xs.length - (i + 1))
     case measure => omega
     case rel =>
      have hl := HX.out
      have hw : wrap64 ((i : Int) + 1) = ((i + 1 : Nat) : Int) := by unfold wrap64; omega
      exact ⟨i + 1, by omega, by omega, rfl, by first | rw [hw] | go_num, HE2.out, Kd.R_drewN XQ.out _, Kd.R_drewN YQ.out _, pw_below_drewN BQ.out _⟩
  ·have e : cL (Ds xs) (Ds ys) = if xs.length = ys.length then 0 else if xs.length < ys.length then -1 else 1 := by
    rw [he, cL_lens]
    ·simp only [Ds, List.length_map, List.length_drop]
     by_cases h1 : xs.length = ys.length
     ·rw [if_pos (by omega), if_pos h1]
     ·rw [if_neg (by omega), if_neg h1]
      by_cases h2 : xs.length < ys.length
      ·rw [if_pos (by omega), if_pos h2]
      ·rw [if_neg (by omega), if_neg h2]
    ·by_cases h : i < xs.length
     ·exact .inr (by rw [List.drop_eq_nil_of_le (by omega)]; rfl)
     ·exact .inl (by rw [List.drop_eq_nil_of_le (by omega)]; rfl)
   have HBB := Aside0.mk hb
   have HE := Aside0.mk e
   clear he e hX hY hb
   have fin : ∀ (n1 : Nat), True := fun _ => trivial
   by_cases h : i < xs.length
   ·have a1 : decide ((i : Int) < (xs.length : Int)) = true := decide_eq_true (by omega)
    have a2 : decide ((i : Int) < (ys.length : Int)) = false := decide_eq_false (by omega)
    by_cases h2 : xs.length = ys.length
    ·exfalso
     omega
    ·have b1 : ((xs.length : Int) != (ys.length : Int)) = true := bne_iff_ne.2 (by omega)
     have b2 : decide ((xs.length : Int) < (ys.length : Int)) = false := decide_eq_false (by omega)
     have b3 : decide (xs.length < ys.length) = false := decide_eq_false (by omega)
     go_wp2_with (fail)
     go_ret
     exact ⟨by rw [HE.out, if_neg h2, if_neg (by omega)]; rfl, HBB.out⟩
   ·have a1 : decide ((i : Int) < (xs.length : Int)) = false := decide_eq_false (by omega)
    by_cases h2 : xs.length = ys.length
    ·have b1 : ((xs.length : Int) != (ys.length : Int)) = false := by rw [h2]; exact bne_self_eq_false _
     go_wp2_with (fail)
     go_ret
     exact ⟨by rw [HE.out, if_pos h2]; rfl, HBB.out⟩
    ·have b1 : ((xs.length : Int) != (ys.length : Int)) = true := bne_iff_ne.2 (by omega)
     have b2 : decide ((xs.length : Int) < (ys.length : Int)) = true := decide_eq_true (by omega)
     have b3 : decide (xs.length < ys.length) = true := decide_eq_true (by omega)
     go_wp2_with (fail)
     go_ret
     exact ⟨by rw [HE.out, if_neg h2, if_pos (by omega)]; rfl, HBB.out⟩
theorem Ds_mk (l : List (List UInt8)) : Ds (l.map mkB) = l := by
 unfold Ds
 rw [List.map_map]
 exact List.map_id l
theorem tallymanref7_Cmp.calls (a0 a1 : ByteArray) (r : Int) (w : World) (h : tallymanref7_Cmp.f a0 a1 = some r) :
  Calls Tryz.prog 85 #[.string a0, .string a1] w fun e w' => e = .returned (.int .i64 r) ∧ Below w.heap.size w w' := by
 unfold tallymanref7_Cmp.f at h
 split at h
 ·rename_i h0
  split at h
  ·rename_i h1
   have l0 := sp_len_le a0
   have l1 := sp_len_le a1
   have k := RefCmp_calls a0 a1 ((sp a0.data.toList).map mkB) ((sp a1.data.toList).map mkB) w (by rw [List.length_map]; omega) (by rw [List.length_map]; omega) (by unfold tallymanref7_names.f; rw [if_pos h0]) (by unfold tallymanref7_names.f; rw [if_pos h1])
   rw [Ds_mk, Ds_mk, Option.some.inj h] at k
   exact k
  ·cases h
 ·cases h
theorem strings_Split.exact (a0 a1 : ByteArray) (r : List ByteArray) (w : World) (h : strings_Split.f a0 a1 = some r) :
  Calls Tryz.prog 79 #[.string a0, .string a1] w fun e w' => e = .returned (.slice (some ⟨w.heap.size, 0, none⟩) r.length r.length) ∧ w' = w.alloc (.cells (r.map Value.string).toArray 9) := by
 unfold strings_Split.f at h
 split at h
 ·rename_i hs
  obtain rfl := sep_eq hs
  split at h
  ·rename_i hz
   obtain rfl := Option.some.inj h
   have hle := Lib.countB_le ⟨#[47]⟩ (Nat.le_refl _) a0.size a0 (Nat.le_refl _)
   have hlen := Lib.splitB_all ⟨#[47]⟩ (Nat.le_refl _) 0 _ a0 rfl
   have hI : ∀ (x : ByteArray) (c : Array Value), x.size ≤ a0.size → Calls Tryz.prog 105 #[.string x, .string ⟨#[47]⟩] (w.alloc (.cells c 9)) fun e w' => e = .returned (.int .i64 (Lib.indexB x ⟨#[47]⟩)) ∧ w' = w.alloc (.cells c 9) := fun x c _ => by
    have c1 : Calls Tryz.prog 105 #[.string x, .string ⟨#[47]⟩] (w.alloc (.cells c 9)) _ := Any.strings_Index_one Tryz.lays143 x 47 _
    refine c1.mono ?_
    rintro e w' ⟨rfl, rfl⟩
    exact ⟨by rw [show Lib.indexB x ⟨#[47]⟩ = Lib.index x.data.toList [47] from rfl, Lib.index_one], rfl⟩
   have hC : Calls Tryz.prog 104 #[.string a0, .string ⟨#[47]⟩] w fun e w' => e = .returned (.int .i64 (Lib.countB a0 ⟨#[47]⟩)) ∧ w' = w := by
    have c1 : Calls Tryz.prog 104 #[.string a0, .string ⟨#[47]⟩] w _ := Any.strings_Count_one Tryz.lays138 a0 47 w
    refine c1.mono ?_
    rintro e w' ⟨rfl, rfl⟩
    exact ⟨by rw [show Lib.countB a0 ⟨#[47]⟩ = Lib.count a0.data.toList [47] from rfl, Lib.count_one]; rfl, rfl⟩
   have c : Calls Tryz.prog 95 #[.string a0, .string ⟨#[47]⟩, .int .i64 (0 : Nat), .int .i64 (-1)] w _ := Any.strings_genSplit_core Tryz.lays221 info9s a0 ⟨#[47]⟩ 0 (-1) (Lib.countB a0 ⟨#[47]⟩ + 1) w hz (Nat.le_refl _) (Nat.zero_le _) hI hC (by decide) (by decide) (by rw [if_pos (by decide)]; omega)
   rw [Nat.add_sub_cancel, hlen] at c
   have e2 : Lib.cellsOf (Lib.splitB ⟨#[47]⟩ 0 (Lib.countB a0 ⟨#[47]⟩) a0) (Lib.countB a0 ⟨#[47]⟩ + 1) = ((Lib.splitB ⟨#[47]⟩ 0 (Lib.countB a0 ⟨#[47]⟩) a0).map Value.string).toArray := by rw [← hlen]; exact Lib.cellsOf_full _
   rw [e2] at c
   replace c : Calls Tryz.prog 95 #[.string a0, .string ⟨#[47]⟩, .int .i64 (0 : Nat), .int .i64 (-1)] w fun e w' => e = .returned (.slice (some ⟨w.heap.size, 0, none⟩) (Lib.countB a0 ⟨#[47]⟩ + 1) (Lib.countB a0 ⟨#[47]⟩ + 1)) ∧ w' = w.alloc (.cells ((Lib.splitB ⟨#[47]⟩ 0 (Lib.countB a0 ⟨#[47]⟩) a0).map Value.string).toArray 9) := c
   rw [← hlen] at c
   generalize Lib.splitB ⟨#[47]⟩ 0 (Lib.countB a0 ⟨#[47]⟩) a0 = ps at *
   generalize w.alloc (.cells (ps.map Value.string).toArray 9) = w2 at *
   clear hI hC e2 hlen hle hs h hz
   go_enter Tryz.func79, Tryz.ntmps79
   go_wp2_with (go_at_call 95; refine c.mono ?_; rintro e w' ⟨rfl, rfl⟩)
   go_ret
   exact ⟨rfl, rfl⟩
  ·cases h
 ·cases h
theorem path_Cmp.exact (a b : ByteArray) (w : World) (ha : a.size < 4294967281) (hb : b.size < 4294967281) :
  Calls Tryz.prog 61 #[.string a, .string b] w fun e w' => e = .returned (.int .i64 (cL (sp a.data.toList) (sp b.data.toList))) ∧ ∃ q os, w' = Go.Sort.grow (w.drewN q) os := by
 have hl : (pieces a).length ≤ a.size + 1 := by
  have h := congrArg List.length (pieces_sp a)
  rw [List.length_map, sp_len] at h
  have := List.count_le_length (a := (47 : UInt8)) (l := a.data.toList)
  rw [← D_size] at this
  omega
 have h := Compare_l0 (pieces a) (pieces b) (by omega) (pieces a).length 0 (a.size + 1) (by omega) (Nat.zero_le _) (by omega)
 rw [List.drop_zero, List.drop_zero, show Ds (pieces a) = sp a.data.toList from pieces_sp a, show Ds (pieces b) = sp b.data.toList from pieces_sp b] at h
 have hsa : strings_Split.f a ⟨#[47]⟩ = some (pieces a) := by
  unfold strings_Split.f
  rw [if_pos rfl, if_pos ha]
  rfl
 have hsb : strings_Split.f b ⟨#[47]⟩ = some (pieces b) := by
  unfold strings_Split.f
  rw [if_pos rfl, if_pos hb]
  rfl
 have hlx : (pieces a).length ≤ 9223372036854775807 := by omega
 have hly : (pieces b).length ≤ 9223372036854775807 := by
  have h := congrArg List.length (pieces_sp b)
  rw [List.length_map, sp_len] at h
  have := List.count_le_length (a := (47 : UInt8)) (l := b.data.toList)
  rw [← D_size] at this
  omega
 have c1 := fun w => strings_Split.exact a ⟨#[47]⟩ (pieces a) w hsa
 have c2 := fun w => strings_Split.exact b ⟨#[47]⟩ (pieces b) w hsb
 generalize cL (sp a.data.toList) (sp b.data.toList) = r at *
 generalize pieces a = xs at *
 generalize pieces b = ys at *
 clear hsa hsb ha hb hl
 have c3 := fun A1 c1 A2 c2 w h1 h2 h3 h4 => slices_Compare_string_string.calls (a.size + 2) A1 c1 xs A2 c2 ys r w h1 h2 h3 h4 h
 go_enter Tryz.func61, Tryz.ntmps61
 have HX := Aside0.mk hlx
 have HY := Aside0.mk hly
 have H3 := Aside0.mk c3
 have H2 := Aside0.mk c2
 clear hlx hly c3 h c2
 go_wp2_with (fail)
 refine (c1 w).mono ?_
 clear c1
 rintro e w2 ⟨rfl, rfl⟩
 dsimp only
 have hR1 := R_block (W := w.alloc (.cells (xs.map Value.string).toArray 9)) (b := w.heap.size) (B := w.heap.size) (xs := xs) (blk_new _ _) (Nat.le_refl _) HX.out
 have h2 := H2.out (w.alloc (.cells (xs.map Value.string).toArray 9))
 have hR2 := R_block (W := (w.alloc (.cells (xs.map Value.string).toArray 9)).alloc (.cells (ys.map Value.string).toArray 9)) (b := (w.alloc (.cells (xs.map Value.string).toArray 9)).heap.size) (B := w.heap.size) (xs := ys) (blk_new _ _) (by show w.heap.size ≤ (w.heap.push _).size; rw [Array.size_push]; omega) HY.out
 have hR1' := Kd.R_alloc hR1 (.cells (ys.map Value.string).toArray 9)
 have h3 := H3.out _ _ _ _ _ (Kd.R_reads' hR1').2.2 (Nat.le_refl _) (Kd.R_reads' hR2).2.2 (Nat.le_refl _)
 have hg : ∀ n, ((w.alloc (.cells (xs.map Value.string).toArray 9)).alloc (.cells (ys.map Value.string).toArray 9)).drewN n = Go.Sort.grow (w.drewN n) (#[.cells (xs.map Value.string).toArray 9] ++ #[.cells (ys.map Value.string).toArray 9]) := fun n => by
  rw [Go.Sort.alloc_eq_grow, Go.Sort.alloc_eq_grow, Go.Sort.grow_grow]
  rfl
 clear hR1 hR2 hR1'
 generalize (w.alloc (.cells (xs.map Value.string).toArray 9)).alloc (.cells (ys.map Value.string).toArray 9) = w3 at *
 generalize (w.alloc (.cells (xs.map Value.string).toArray 9)) = w2 at *
 have HG := Aside0.mk hg
 clear hg
 go_wp2_with (first | (go_at_call 79; refine h2.mono ?_; rintro e w4 ⟨rfl, rfl⟩) | (go_at_call 91; refine h3.mono ?_; rintro e w5 ⟨rfl, ⟨nd, rfl⟩⟩))
 go_ret
 exact ⟨rfl, _, _, HG.out _⟩
abbrev Tx := {s : ByteArray // s.size < 4294967281}
instance : Inhabited Tx := ⟨⟨ByteArray.empty, by decide⟩⟩
theorem cL_ntrans {xs ys zs} (h1 : cL xs ys < 0) (h2 : cL ys zs < 0) : cL xs zs < 0 := by
 have h3 := cL_trans xs ys zs (by omega) (by omega)
 by_cases h : cL xs zs = 0
 ·obtain rfl := cL_eq.1 h
  have := cL_anti xs ys
  omega
 ·omega
def leP (x y : ByteArray) : Bool := !decide (cL (sp y.data.toList) (sp x.data.toList) < 0)
theorem below_grow {B : Nat} {w W : World} (h : Below B w W) (hB : B ≤ W.heap.size) (os : Array Obj) : Below B w (Go.Sort.grow W os) := by
 refine ⟨h.os, h.tape, h.output, Nat.le_trans h.size (by simp), fun k hk => ?_⟩
 rw [← h.block k hk]
 exact Array.getElem?_append_left (by omega)
def dk {α : Type} [DecidableEq α] : Option α → List α → List α
 | _, [] => []
 | p, x :: xs => if p = some x then dk p xs else x :: dk (some x) xs
def gd (x : ByteArray) : Bool := decide (GPieces (pieces x))
def ins (x : ByteArray) : List ByteArray → List ByteArray
 | [] => [x]
 | y :: ys => if leP x y = true then x :: y :: ys else y :: ins x ys
def isort : List ByteArray → List ByteArray
 | [] => []
 | x :: xs => ins x (isort xs)
def path_Sort.f (l0 : List ByteArray) : Option (List ByteArray) := if l0.length < 8796093022208 then if l0.all (fun x => decide (x.size < 4294967281)) then some (dk none (isort (l0.filter gd))) else none else none
def path_Cmp.f (a0 a1 : ByteArray) : Option Int := if a0.size < 4294967281 then if a1.size < 4294967281 then some (cL (sp a0.data.toList) (sp a1.data.toList)) else none else none
theorem path_Cmp.calls (a0 a1 : ByteArray) (r : Int) (w : World) (h : path_Cmp.f a0 a1 = some r) :
  Calls Tryz.prog 61 #[.string a0, .string a1] w fun e w' => e = .returned (.int .i64 r) ∧ Below w.heap.size w w' := by
 unfold path_Cmp.f at h
 split at h
 ·rename_i h1
  split at h
  ·rename_i h2
   obtain rfl := Option.some.inj h
   refine (path_Cmp.exact a0 a1 w h1 h2).mono ?_
   rintro e w' ⟨rfl, q, os, rfl⟩
   exact ⟨rfl, below_grow (pw_below_drewN (Below.refl _ _) q) (Nat.le_refl _) os⟩
  ·cases h
 ·cases h
end Go.Proofs.YtidlldfghkaeeaaGreatDoor.P
end
section
namespace Go.Proofs.YtidlldfghkaeeaaGreatDoor.P
open Go.RowKit Go.Proofs.YtidlldfghkaeeaaGreatDoorW.PrintWords Go.Proofs.YtidlldfghkaeeaaGreatDoorW.PrintLast
def srt (l : List ByteArray) : List ByteArray := dk none (isort (l.filter gd))
end Go.Proofs.YtidlldfghkaeeaaGreatDoor.P
end
section
namespace Go.Proofs.YtidlldfghkaeeaaGreatDoor.P
open Go.RowKit Go.Proofs.YtidlldfghkaeeaaGreatDoorW.PrintWords Go.Proofs.YtidlldfghkaeeaaGreatDoorW.PrintLast Go.Proofs.YtidlldfghkaeeaaGreatDoorW.PrintMore
section
variable {ops : Array Oper} {op : Oper} {a : Act} {Q : Exit → Act → World → Prop} {Kc : Act → World → Prop}
end
theorem cell_lt2 {w : World} {a : Addr} {v : Value} (h : w.cell? a = some v) : a.block < w.heap.size := World.block_lt_of_cell? w a h
def tallymanref7_Sort.f (l0 : List ByteArray) : Option (List ByteArray) := if l0.length ≤ 1000 then if l0.all (fun x => decide (x.size < 4294967280)) then some (srt l0) else none else none
end Go.Proofs.YtidlldfghkaeeaaGreatDoor.P
end
section
namespace Go.Proofs.YtidlldfghkaeeaaGreatDoor.P
open Go.RowKit Go.Proofs.YtidlldfghkaeeaaGreatDoorW.PrintWords Go.Proofs.YtidlldfghkaeeaaGreatDoorW.PrintLast Go.Proofs.YtidlldfghkaeeaaGreatDoorW.PrintMore
attribute [local go_sem] max2_int min2_int max_two min_two max_three min_three max_four min_four
theorem C_of_block {W : World} {g : Nat} {xs : List Int} {e : TypeId} {fr : Nat × Nat} (k : IntKind) (h : W.heap[g]? = some (.cells (nums k xs).toArray e fr)) (hm : xs.length ≤ 9223372036854775807) :
  (Kd.int k).C W (some ⟨g, 0, none⟩) xs.length xs := by
 refine Kd.C_of_reads (d := (0 : Int)) (h1 := fun _ => rfl) ?_
 refine ⟨rfl, hm, fun _ => ⟨_, rfl, fun j hj => ?_⟩⟩
 have ha : ((⟨g, 0, none⟩ : Addr).add j) = ⟨g, j, none⟩ := by
  unfold Addr.add
  by_cases h0 : j = 0
  ·subst h0; simp
  ·simp [h0]
 rw [ha]
 simp [World.cell?, h, nums, List.getElem?_eq_getElem hj]
theorem V_mlit {P : Program} {ops : Array Oper} {rest : List Oper} {o : Oper} {a : Act} {Q : Exit → Act → World → Prop} {W : World} {C : Array Value} {xs : List Int} {n : Nat} {N : Tmp} (hgd : o.guard = none) (_hd : o.dst = some N) (src : Operand) {t e : TypeId}
  (hop : o.op = .convert t t src) (hx : a.eval src = .slice (some ⟨W.heap.size, 0, none⟩) n n) (ht : P.underlying t = some (.slice e)) (he : P.underlying e = some (.int .u8)) (hC : C = (nums .u8 xs).toArray) (hn : xs.length = n) (hm : xs.length ≤ 9223372036854775807)
  (h : ∀ v1 w1, Kd.V (Kd.int .u8) e w1 W.heap.size (fun k => W.heap.size ≤ k) v1 xs → Below W.heap.size W w1 → W.grownBy w1 none → (∃ b, v1.ownBlock = some b ∧ W.heap.size ≤ b) → wpList P ops Q rest (a.put o.dst v1) w1) :
  wpList P ops Q (o :: rest) a (W.alloc (.cells C e)) := by
 subst hn
 have hb : ∀ fr, (W.alloc (.cells C e fr)).heap[W.heap.size]? = some (.cells C e fr) := fun fr => by
  show (W.heap.push (.cells C e fr))[W.heap.size]? = _
  simp
 have hsz : ∀ fr, (W.alloc (.cells C e fr)).heap.size = W.heap.size + 1 := fun fr => by show (W.heap.push _).size = _; simp
 refine Kd.event_run hgd (v := .slice (some ⟨W.heap.size, 0, none⟩) xs.length xs.length) (w1 := W.alloc (.cells C e (C.size, C.size + 1))) ?_ (h _ _ ⟨some ⟨W.heap.size, 0, none⟩, xs.length, rfl, Nat.le_refl _, fun W' hW' => ?_⟩ ((Below.refl _ _).alloc (Nat.le_refl _) _) (World.grownBy_alloc W _ none) ⟨W.heap.size, by simp [Value.ownBlock], Nat.le_refl _⟩)
 ·have := Lib.run_convert_bytes_const (P := P) W t e C xs.length xs.length ht he
  unfold execOp
  simp only [hop, hx]
  simp [this]
 ·have hk := hW' W.heap.size (Nat.le_refl _) (by rw [hsz]; omega)
  rw [hb] at hk
  subst hC
  exact C_of_block .u8 hk hm
theorem C_none_nil {α : Type} {d : Kd α} {w : World} {n : Nat} {l : List α} (h : Kd.C d w none n l) : l = [] := by
 obtain ⟨h1, _, h3⟩ := h
 rcases Nat.eq_zero_or_pos n with h0 | h0
 ·exact List.length_eq_zero_iff.1 (h1.trans h0)
 ·obtain ⟨ad, e, _⟩ := h3 h0
  cases e
theorem info5 : (Tryz.prog.info? 5).map (fun i => (i.zero, i.size, i.bytes)) = some (some (.int .u8 0), 1, 1) := by kernel_rfl
theorem info9 : (Tryz.prog.info? 9).map (fun i => (i.zero, i.size, i.bytes)) = some (some (.string ⟨#[]⟩), 1, 16) := by kernel_rfl
theorem info42 : (Tryz.prog.info? 42).map (fun i => (i.zero, i.size, i.bytes)) = some (some (.agg #[(.string ⟨#[]⟩), (.bool false), (.slice none 0 0)]), 3, 48) := by kernel_rfl
theorem info45 : (Tryz.prog.info? 45).map (fun i => (i.zero, i.size, i.bytes)) = some (some (.agg #[(.string ⟨#[]⟩), (.bool false), (.slice none 0 0)]), 3, 48) := by kernel_rfl
structure S42 where
 f0 : ByteArray
 f1 : Bool
 f2 : (List Int)
def z42 : S42 := ⟨(⟨#[]⟩ : ByteArray), false, ([] : List Int)⟩
def k42 : Kd S42 := Kd.iso (Kd.pair Kd.string (Kd.pair Kd.bool (Kd.slice 5 (Kd.int .u8)))) (fun x : S42 => (x.f0, x.f1, x.f2))
theorem k42_open {w : World} {x : S42} {cs : List Value} (h : k42.K w x cs) : ∃ A2 c2, cs = [.string x.f0, .bool x.f1, .slice A2 x.f2.length c2] ∧ x.f2.length ≤ c2 ∧ (Kd.int .u8).C w A2 x.f2.length x.f2 := by
 obtain ⟨_, _, rfl, rfl, ⟨_, _, rfl, rfl, ⟨A2, c2, rfl, l2, g2⟩⟩⟩ := h
 exact ⟨A2, c2, rfl, l2, g2⟩
theorem k42_mk (w : World) (x : S42) {A2 : Option Addr} {c2 : Nat} (l2 : x.f2.length ≤ c2) (g2 : (Kd.int .u8).C w A2 x.f2.length x.f2) : k42.K w x [.string x.f0, .bool x.f1, .slice A2 x.f2.length c2] := ⟨[.string x.f0], [.bool x.f1, .slice A2 x.f2.length c2], rfl, rfl, ⟨[.bool x.f1], [.slice A2 x.f2.length c2], rfl, rfl, ⟨A2, c2, rfl, l2, g2⟩⟩⟩
theorem k42_mkM (w : World) (base : Nat) (ok : Nat → Prop) (x : S42) {v2 : Value} (g2 : (Kd.int .u8).R 5 w base ok v2 x.f2) : k42.M w base ok x [.string x.f0, .bool x.f1, v2] := ⟨[.string x.f0], [.bool x.f1, v2], rfl, rfl, ⟨[.bool x.f1], [v2], rfl, rfl, ⟨v2, rfl, g2⟩⟩⟩
theorem k42_openF {W : World} {ok : Nat → Prop} {x : S42} {cs : List Value} (h : Kd.FK k42 W ok x cs) : ∃ A2 c2, cs = [.string x.f0, .bool x.f1, .slice A2 x.f2.length c2] ∧ x.f2.length ≤ c2 ∧ Kd.F (Kd.int .u8) W ok A2 x.f2.length x.f2 := by
 obtain ⟨A2, c2, rfl, l2, _⟩ := k42_open (Kd.FK_now h)
 exact ⟨A2, c2, rfl, l2, (fun W' hW => by obtain ⟨A2_, c2_, he, l2_, g2_⟩ := k42_open (h W' hW); injection (Option.some.inj (show some (Value.slice A2 x.f2.length c2) = some (Value.slice A2_ x.f2.length c2_) from congrArg (fun l => l[2]?) he)) with ha_ _ _; rw [ha_]; exact g2_)⟩
theorem k42_mkF (W : World) (ok : Nat → Prop) (x : S42) {A2 : Option Addr} {c2 : Nat} (l2 : x.f2.length ≤ c2) (g2 : Kd.F (Kd.int .u8) W ok A2 x.f2.length x.f2) : Kd.FK k42 W ok x [.string x.f0, .bool x.f1, .slice A2 x.f2.length c2] := fun W2 hW => k42_mk W2 x l2 (g2 W2 hW)
def rd_T42 (xs : List S42) (i : Int) : S42 := xs.getD i.toNat z42
theorem at_T42 {w : World} {A : Option Addr} {n : Nat} {xs : List S42} (h : Kd.C k42 w A n xs) (i : Int) (h0 : 0 ≤ i) (h1 : i < n) : ∃ ad A2 c2, A = some ad ∧ w.cell? (ad.add (i.toNat * 3)) = some (.string (rd_T42 xs i).f0) ∧ w.cell? ⟨(ad.add (i.toNat * 3)).block, (ad.add (i.toNat * 3)).off + 1, none⟩ = some (.bool (rd_T42 xs i).f1) ∧ w.cell? ⟨(ad.add (i.toNat * 3)).block, (ad.add (i.toNat * 3)).off + 2, none⟩ = some (.slice A2 (rd_T42 xs i).f2.length c2) ∧ (rd_T42 xs i).f2.length ≤ c2 ∧ (Kd.int .u8).C w A2 (rd_T42 xs i).f2.length (rd_T42 xs i).f2 := by
 obtain ⟨ad, c, e, _, hK, hc0⟩ := Kd.C_get h z42 i h0 h1
 have hc : ∀ j u, c[j]? = some u → w.cell? (ad.add (i.toNat * 3 + j)) = some u := hc0
 obtain ⟨A2, c2, rfl, l2, g2⟩ := k42_open hK
 exact ⟨ad, A2, c2, e, hc 0 _ rfl, by rw [← add_field _ _ 1 (by omega)]; exact hc 1 _ rfl, by rw [← add_field _ _ 2 (by omega)]; exact hc 2 _ rfl, l2, g2⟩
structure S45 where
 f0 : ByteArray
 f1 : Bool
 f2 : (List Int)
def z45 : S45 := ⟨(⟨#[]⟩ : ByteArray), false, ([] : List Int)⟩
def k45 : Kd S45 := Kd.iso (Kd.pair Kd.string (Kd.pair Kd.bool (Kd.slice 5 (Kd.int .u8)))) (fun x : S45 => (x.f0, x.f1, x.f2))
theorem k45_open {w : World} {x : S45} {cs : List Value} (h : k45.K w x cs) : ∃ A2 c2, cs = [.string x.f0, .bool x.f1, .slice A2 x.f2.length c2] ∧ x.f2.length ≤ c2 ∧ (Kd.int .u8).C w A2 x.f2.length x.f2 := by
 obtain ⟨_, _, rfl, rfl, ⟨_, _, rfl, rfl, ⟨A2, c2, rfl, l2, g2⟩⟩⟩ := h
 exact ⟨A2, c2, rfl, l2, g2⟩
theorem k45_mk (w : World) (x : S45) {A2 : Option Addr} {c2 : Nat} (l2 : x.f2.length ≤ c2) (g2 : (Kd.int .u8).C w A2 x.f2.length x.f2) : k45.K w x [.string x.f0, .bool x.f1, .slice A2 x.f2.length c2] := ⟨[.string x.f0], [.bool x.f1, .slice A2 x.f2.length c2], rfl, rfl, ⟨[.bool x.f1], [.slice A2 x.f2.length c2], rfl, rfl, ⟨A2, c2, rfl, l2, g2⟩⟩⟩
theorem k45_openF {W : World} {ok : Nat → Prop} {x : S45} {cs : List Value} (h : Kd.FK k45 W ok x cs) : ∃ A2 c2, cs = [.string x.f0, .bool x.f1, .slice A2 x.f2.length c2] ∧ x.f2.length ≤ c2 ∧ Kd.F (Kd.int .u8) W ok A2 x.f2.length x.f2 := by
 obtain ⟨A2, c2, rfl, l2, _⟩ := k45_open (Kd.FK_now h)
 exact ⟨A2, c2, rfl, l2, (fun W' hW => by obtain ⟨A2_, c2_, he, l2_, g2_⟩ := k45_open (h W' hW); injection (Option.some.inj (show some (Value.slice A2 x.f2.length c2) = some (Value.slice A2_ x.f2.length c2_) from congrArg (fun l => l[2]?) he)) with ha_ _ _; rw [ha_]; exact g2_)⟩
theorem k45_mkF (W : World) (ok : Nat → Prop) (x : S45) {A2 : Option Addr} {c2 : Nat} (l2 : x.f2.length ≤ c2) (g2 : Kd.F (Kd.int .u8) W ok A2 x.f2.length x.f2) : Kd.FK k45 W ok x [.string x.f0, .bool x.f1, .slice A2 x.f2.length c2] := fun W2 hW => k45_mk W2 x l2 (g2 W2 hW)
def rd_T45 (xs : List S45) (i : Int) : S45 := xs.getD i.toNat z45
theorem at_T45 {w : World} {A : Option Addr} {n : Nat} {xs : List S45} (h : Kd.C k45 w A n xs) (i : Int) (h0 : 0 ≤ i) (h1 : i < n) : ∃ ad A2 c2, A = some ad ∧ w.cell? (ad.add (i.toNat * 3)) = some (.string (rd_T45 xs i).f0) ∧ w.cell? ⟨(ad.add (i.toNat * 3)).block, (ad.add (i.toNat * 3)).off + 1, none⟩ = some (.bool (rd_T45 xs i).f1) ∧ w.cell? ⟨(ad.add (i.toNat * 3)).block, (ad.add (i.toNat * 3)).off + 2, none⟩ = some (.slice A2 (rd_T45 xs i).f2.length c2) ∧ (rd_T45 xs i).f2.length ≤ c2 ∧ (Kd.int .u8).C w A2 (rd_T45 xs i).f2.length (rd_T45 xs i).f2 := by
 obtain ⟨ad, c, e, _, hK, hc0⟩ := Kd.C_get h z45 i h0 h1
 have hc : ∀ j u, c[j]? = some u → w.cell? (ad.add (i.toNat * 3 + j)) = some u := hc0
 obtain ⟨A2, c2, rfl, l2, g2⟩ := k45_open hK
 exact ⟨ad, A2, c2, e, hc 0 _ rfl, by rw [← add_field _ _ 1 (by omega)]; exact hc 1 _ rfl, by rw [← add_field _ _ 2 (by omega)]; exact hc 2 _ rfl, l2, g2⟩
structure S31 where
 f0 : Int
 f1 : ByteArray
 f2 : ByteArray
 f3 : (List Int)
def z31 : S31 := ⟨(0 : Int), (⟨#[]⟩ : ByteArray), (⟨#[]⟩ : ByteArray), ([] : List Int)⟩
def k31 : Kd S31 := Kd.iso (Kd.pair (Kd.int .i64) (Kd.pair Kd.string (Kd.pair Kd.string (Kd.slice 5 (Kd.int .u8))))) (fun x : S31 => (x.f0, x.f1, x.f2, x.f3))
theorem k31_open {w : World} {x : S31} {cs : List Value} (h : k31.K w x cs) : ∃ A3 c3, cs = [.int .i64 x.f0, .string x.f1, .string x.f2, .slice A3 x.f3.length c3] ∧ x.f3.length ≤ c3 ∧ (Kd.int .u8).C w A3 x.f3.length x.f3 := by
 obtain ⟨_, _, rfl, rfl, ⟨_, _, rfl, rfl, ⟨_, _, rfl, rfl, ⟨A3, c3, rfl, l3, g3⟩⟩⟩⟩ := h
 exact ⟨A3, c3, rfl, l3, g3⟩
def rd_T31 (xs : List S31) (i : Int) : S31 := xs.getD i.toNat z31
theorem at_T31 {w : World} {A : Option Addr} {n : Nat} {xs : List S31} (h : Kd.C k31 w A n xs) (i : Int) (h0 : 0 ≤ i) (h1 : i < n) : ∃ ad A3 c3, A = some ad ∧ w.cell? (ad.add (i.toNat * 4)) = some (.int .i64 (rd_T31 xs i).f0) ∧ w.cell? ⟨(ad.add (i.toNat * 4)).block, (ad.add (i.toNat * 4)).off + 1, none⟩ = some (.string (rd_T31 xs i).f1) ∧ w.cell? ⟨(ad.add (i.toNat * 4)).block, (ad.add (i.toNat * 4)).off + 2, none⟩ = some (.string (rd_T31 xs i).f2) ∧ w.cell? ⟨(ad.add (i.toNat * 4)).block, (ad.add (i.toNat * 4)).off + 3, none⟩ = some (.slice A3 (rd_T31 xs i).f3.length c3) ∧ (rd_T31 xs i).f3.length ≤ c3 ∧ (Kd.int .u8).C w A3 (rd_T31 xs i).f3.length (rd_T31 xs i).f3 := by
 obtain ⟨ad, c, e, _, hK, hc0⟩ := Kd.C_get h z31 i h0 h1
 have hc : ∀ j u, c[j]? = some u → w.cell? (ad.add (i.toNat * 4 + j)) = some u := hc0
 obtain ⟨A3, c3, rfl, l3, g3⟩ := k31_open hK
 exact ⟨ad, A3, c3, e, hc 0 _ rfl, by rw [← add_field _ _ 1 (by omega)]; exact hc 1 _ rfl, by rw [← add_field _ _ 2 (by omega)]; exact hc 2 _ rfl, by rw [← add_field _ _ 3 (by omega)]; exact hc 3 _ rfl, l3, g3⟩
end Go.Proofs.YtidlldfghkaeeaaGreatDoor.P
end
