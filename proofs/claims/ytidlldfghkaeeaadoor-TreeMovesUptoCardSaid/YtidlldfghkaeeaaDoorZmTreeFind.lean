/- Put together by pack.py: TreeFind -/
import Derived.Test.YtidlldfghkaeeaaDoorZmPx0
import Derived.Test.YtidlldfghkaeeaaDoorZmTreeList
import Derived.Test.YtidlldfghkaeeaaDoorZmSrt
namespace Go.Proofs.YtidlldfghkaeeaaDoor.P
open Go.RowKit Go.Proofs.YtidlldfghkaeeaaDoorW.PrintWords Go.Proofs.YtidlldfghkaeeaaDoorW.PrintLast Go.Proofs.YtidlldfghkaeeaaDoorW.PrintMore
set_option linter.unusedVariables false
set_option linter.unusedSimpArgs false
theorem cell_lt2 {w : World} {a : Addr} {v : Value} (h : w.cell? a = some v) : a.block < w.heap.size := World.block_lt_of_cell? w a h

/-- A call of a function value. -/
theorem goesV_ {P : Program} {ops : Array Oper} {Q : Exit → Act → World → Prop} {oi : Oper} {N : Option Tmp} {a : Act} {w : World} {K : Act → World → Prop} {f : FuncId} {fn : Func} {ars : Array Operand} {ts : Array TypeId} (hf : P.funcs[f]? = some fn) (hname : (fn.name == "runtime.NumGoroutine") = false) (hb : fn.body.isSome = true) (args : Array Value)
    (hw : Region.wanted oi (yielded ops a.tmps) = true) (hN : oi.dst = N) (x : Operand) (hop : oi.op = .call { callee := .value x, args := ars, argTypes := ts }) (hx : a.eval x = .func (.func f) #[] #[]) (hargs : ars.map a.eval = args)
    (h : Calls P f args w fun e w' => ∃ v, e = .returned v ∧ K (a.put N v) w') : if Region.wanted oi (yielded ops a.tmps) = true then Oper.wp P oi a w K Q else K (a.put N undef) w := by
  refine call_ f args hw hN ?_ h
  have he := enters_ hf hname hb args w
  unfold execOp
  simp [hop, resolve, hx, Deferred.ofValue, invoke, hargs, he]
theorem cmpC (a b : ByteArray) (W : World) (ha : a.size < 4294967281) (hb : b.size < 4294967281) : Calls Tryd.prog 51 #[.string a, .string b] W fun e w' => e = .returned (.int .i64 (cL (sp a.data.toList) (sp b.data.toList))) ∧ Below W.heap.size W w' :=
  path_Cmp.calls a b _ W (by unfold path_Cmp.f; rw [if_pos ha, if_pos hb])
theorem find1_calls (a : ByteArray) (d : Bool) (A : Option Addr) (n c : Nat) (q : ByteArray) (w : World) (ha : a.size < 4294967281) (hq : q.size < 4294967281) :
    Calls Tryd.prog 100 #[.agg #[.string a, .bool d, .slice A n c], .string q] w fun e w' => e = .returned (.int .i64 (cL (sp a.data.toList) (sp q.data.toList))) ∧ Below w.heap.size w w' := by
  have hC := fun W => cmpC a q W ha hq
  clear ha hq
  go_enter Tryd.func100, Tryd.ntmps100
  go_wp2_with (fail)
  refine (hC _).mono ?_
  rintro e w2 ⟨rfl, hb⟩
  dsimp only
  go_wp2_with (fail)
  go_ret
  exact ⟨rfl, (below_alloc (Below.refl _ _) _).trans (hb.mono (by rw [World.size_alloc]; omega))⟩
theorem rdT {xs : List S30} {i : Nat} (h : i < xs.length) : rd_T30 xs (i : Int) = xs[i] := by
  unfold rd_T30
  rw [Int.toNat_natCast, List.getD_eq_getElem?_getD, List.getElem?_eq_getElem h]
  rfl
/-- An entry's cells. -/
theorem atT {w : World} {A : Option Addr} {n : Nat} {xs : List S30} (h : Kd.C k30 w A n xs) (i : Nat) (h1 : i < xs.length) : ∃ ad A2 c2, A = some ad ∧ w.cell? (ad.add (i * 3)) = some (.string xs[i].f0) ∧ w.cell? ⟨(ad.add (i * 3)).block, (ad.add (i * 3)).off + 1, none⟩ = some (.bool xs[i].f1) ∧
    w.cell? ⟨(ad.add (i * 3)).block, (ad.add (i * 3)).off + 2, none⟩ = some (.slice A2 xs[i].f2.length c2) ∧ xs[i].f2.length ≤ c2 ∧ (Kd.int .u8).C w A2 xs[i].f2.length xs[i].f2 := by
  obtain ⟨ad, A2, c2, e, h0, h2, h3, h4, h5⟩ := at_T30 h (i : Int) (by omega) (by have := h.1; omega)
  rw [rdT h1, Int.toNat_natCast] at *
  exact ⟨ad, A2, c2, e, h0, h2, h3, h4, h5⟩
set_option maxHeartbeats 8000000 in
set_option maxRecDepth 100000 in
theorem BinarySearch_calls (A0 : Option Addr) (c0 : Nat) (l0 : List S30) (q : ByteArray) (w : World) (hr0 : Kd.C k30 w A0 l0.length l0) (hc0 : l0.length ≤ c0) (hl0 : l0.length ≤ 100000) (hs0 : ∀ x ∈ l0, x.f0.size < 4294967281) (hq : q.size < 4294967281) (hsrt : Srt S30.f0 l0) :
    Calls Tryd.prog 99 #[.slice A0 l0.length c0, .string q, .func (.func 100) #[] #[]] w fun e w' => e = .returned (.tuple #[.int .i64 (lowB S30.f0 q l0), .bool (decide (∃ x ∈ l0, x.f0 = q))]) ∧ Below w.heap.size w w' := by
  have HS := Aside0.mk hs0
  have HSRT := Aside0.mk hsrt
  have HQ := Aside0.mk hq
  have HL := Aside0.mk hl0
  have HR := Aside0.mk hr0
  clear hs0 hsrt hq hl0 hr0
  go_enter Tryd.func99, Tryd.ntmps99
  go_wp2_with (fail)
  go_loopg [9, 10] l0.length (fun gg s9 s10 wr => ∃ i j : Nat, i ≤ j ∧ j ≤ l0.length ∧ gg = j - i ∧ s9 = .int .i64 i ∧ s10 = .int .i64 j ∧ (∀ m (h : m < l0.length), m < i → ltP l0[m].f0 q) ∧ (∀ m (h : m < l0.length), j ≤ m → ¬ ltP l0[m].f0 q) ∧ Below w.heap.size w wr)
  case atStart => exact ⟨0, l0.length, Nat.zero_le _, Nat.le_refl _, rfl, rfl, rfl, fun m h h2 => by omega, fun m h h2 => by omega, Below.refl _ _⟩
  case round =>
    obtain ⟨i, j, hij, hj, rfl, rfl, rfl, hlo, hhi, hb⟩ := hrel
    have hl0 := HL.out
    by_cases a : i < j
    · have a1 : decide ((i : Int) < (j : Int)) = true := decide_eq_true (by omega)
      obtain ⟨m, hm⟩ : ∃ m, m = (i + j) / 2 := ⟨_, rfl⟩
      have hm2 : ((i : Int) + (j : Int)) / 2 = (m : Int) := by omega
      have hml : m < l0.length := by omega
      have hwm : wrap64 ((m : Int) + 1) = ((m + 1 : Nat) : Int) := by unfold wrap64; omega
      obtain ⟨ad, A2, c2, rfl, k0, k1, k2, _, _⟩ := atT HR.out m hml
      replace k0 := (hb.cell (cell_lt2 k0)).trans k0
      replace k1 := (hb.cell (cell_lt2 k1)).trans k1
      replace k2 := (hb.cell (cell_lt2 k2)).trans k2
      have hpx : l0[m].f0.size < 4294967281 := HS.out _ (List.getElem_mem hml)
      have hup : ltP l0[m].f0 q → ∀ m' (h : m' < l0.length), m' < m + 1 → ltP l0[m'].f0 q := fun hlt m' h h2 => by
        rcases Nat.lt_or_ge m' m with h3 | h3
        · exact ltP_trans (List.pairwise_iff_getElem.1 HSRT.out m' m h hml h3) hlt
        · obtain rfl : m' = m := by omega
          exact hlt
      have hdn : ¬ ltP l0[m].f0 q → ∀ m' (h : m' < l0.length), m ≤ m' → ¬ ltP l0[m'].f0 q := fun hlt m' h h2 => by
        rcases Nat.lt_or_ge m m' with h3 | h3
        · exact fun h4 => hlt (ltP_trans (List.pairwise_iff_getElem.1 HSRT.out m m' hml h h3) h4)
        · obtain rfl : m' = m := by omega
          exact hlt
      generalize l0[m].f0 = p at *
      generalize l0[m].f1 = dr at *
      generalize l0[m].f2.length = n2 at *
      have hC := fun W => find1_calls p dr A2 n2 c2 q W hpx HQ.out
      obtain ⟨cc, hcc⟩ : ∃ cc, cc = cL (sp p.data.toList) (sp q.data.toList) := ⟨_, rfl⟩
      rw [← hcc] at hC
      have HLO := Aside0.mk hlo
      have HHI := Aside0.mk hhi
      have HUP := Aside0.mk hup
      have HDN := Aside0.mk hdn
      have HWM := Aside0.mk hwm
      have HM := Aside0.mk hm
      have HCC := Aside0.mk hcc
      clear hlo hhi hup hdn hwm hm hcc hpx
      by_cases hlt : cc < 0
      · have p5 : decide (cc < 0) = true := decide_eq_true hlt
        go_wp2_with (fail)
        refine (hC _).mono ?_
        rintro e w2 ⟨rfl, hb2⟩
        dsimp only
        go_wp2_with (fail)
        go_roundg (j - (m + 1))
        case measure =>
          have := HM.out
          omega
        case rel =>
          have := HM.out
          exact ⟨m + 1, j, by omega, hj, rfl, by first | rw [HWM.out] | (simp; done), rfl, HUP.out (by unfold ltP; rw [← HCC.out]; exact hlt), HHI.out, hb.trans (hb2.mono hb.size)⟩
      · have p5 : decide (cc < 0) = false := decide_eq_false hlt
        go_wp2_with (fail)
        refine (hC _).mono ?_
        rintro e w2 ⟨rfl, hb2⟩
        dsimp only
        go_wp2_with (fail)
        go_roundg (m - i)
        case measure =>
          have := HM.out
          omega
        case rel =>
          have := HM.out
          exact ⟨i, m, by omega, by omega, rfl, rfl, rfl, HLO.out, HDN.out (by unfold ltP; rw [← HCC.out]; omega), hb.trans (hb2.mono hb.size)⟩
    · have a1 : decide ((i : Int) < (j : Int)) = false := decide_eq_false (by omega)
      obtain rfl : i = j := by omega
      have hi := lowB_uniq HSRT.out hj hlo hhi
      have hat := lowB_at (p := q) HSRT.out
      rw [← hi] at hat
      have HI := Aside0.mk hi
      clear hlo hhi hi
      by_cases hin : i < l0.length
      · have a2 : decide ((i : Int) < (l0.length : Int)) = true := decide_eq_true (by omega)
        obtain ⟨ad, A2, c2, rfl, k0, k1, k2, _, _⟩ := atT HR.out i hin
        replace k0 := (hb.cell (cell_lt2 k0)).trans k0
        replace k1 := (hb.cell (cell_lt2 k1)).trans k1
        replace k2 := (hb.cell (cell_lt2 k2)).trans k2
        have hpx : l0[i].f0.size < 4294967281 := HS.out _ (List.getElem_mem hin)
        have hfd : decide (∃ x ∈ l0, x.f0 = q) = decide (l0[i].f0 = q) := by
          rw [decide_eq_decide, ← hat]
          exact ⟨fun ⟨_, h⟩ => h, fun h => ⟨hin, h⟩⟩
        have HFD := Aside0.mk hfd
        clear hat hfd
        generalize l0[i].f0 = p at *
        generalize l0[i].f1 = dr at *
        generalize l0[i].f2.length = n2 at *
        have hC := fun W => find1_calls p dr A2 n2 c2 q W hpx HQ.out
        have hcq : cL (sp p.data.toList) (sp q.data.toList) = 0 ↔ p = q := ⟨fun h => ByteArray.ext (Array.toList_inj.1 (sp_inj (cL_eq.1 h))), fun h => cL_eq.2 (by rw [h])⟩
        obtain ⟨cc, hcc⟩ : ∃ cc, cc = cL (sp p.data.toList) (sp q.data.toList) := ⟨_, rfl⟩
        rw [← hcc] at hC hcq
        have HCQ := Aside0.mk hcq
        clear hcc hcq hpx
        by_cases hc0 : cc = 0
        · have p5 : (cc == 0) = true := beq_iff_eq.2 hc0
          have he : decide (p = q) = true := decide_eq_true (HCQ.out.1 hc0)
          have HE := Aside0.mk he
          clear he hc0
          go_wp2_with (fail)
          refine (hC _).mono ?_
          rintro e w2 ⟨rfl, hb2⟩
          dsimp only
          go_wp2_with (fail)
          go_ret2
          exact ⟨by rw [← HI.out, HFD.out, HE.out]; rfl, hb.trans (hb2.mono hb.size)⟩
        · have p5 : (cc == 0) = false := beq_eq_false_iff_ne.2 hc0
          have he : decide (p = q) = false := decide_eq_false fun h => hc0 (HCQ.out.2 h)
          have HE := Aside0.mk he
          clear he hc0
          go_wp2_with (fail)
          refine (hC _).mono ?_
          rintro e w2 ⟨rfl, hb2⟩
          dsimp only
          go_wp2_with (fail)
          go_ret2
          exact ⟨by rw [← HI.out, HFD.out, HE.out]; rfl, hb.trans (hb2.mono hb.size)⟩
      · have a2 : decide ((i : Int) < (l0.length : Int)) = false := decide_eq_false (by omega)
        have he : decide (∃ x ∈ l0, x.f0 = q) = false := decide_eq_false fun h => hin (hat.2 h).1
        have HE := Aside0.mk he
        clear hat he
        go_wp2_with (fail)
        go_ret2
        exact ⟨by rw [← HI.out, HE.out]; rfl, hb⟩
/-- Whether rows of entries are such that the walks tell them. -/
def okP (l : List S30) : Bool := l.all (fun x => decide (x.f0.size < 4294967280)) && decide (l.length ≤ 100000)
theorem okP_iff {l : List S30} : okP l = true ↔ (∀ x ∈ l, x.f0.size < 4294967280) ∧ l.length ≤ 100000 := by
  unfold okP
  rw [Bool.and_eq_true, List.all_eq_true, decide_eq_true_eq]
  simp only [decide_eq_true_eq]
instance (l : List S30) : Decidable (Srt S30.f0 l) := by unfold Srt; exact inferInstance
def tree_find.f (l : List S30) (q : ByteArray) : Option (Int × Bool) := if okP l = true ∧ q.size < 4294967280 ∧ Srt S30.f0 l then some ((lowB S30.f0 q l : Int), decide (∃ x ∈ l, x.f0 = q)) else none
theorem tree_find.calls (A0 : Option Addr) (c0 : Nat) (l0 : List S30) (a1 : ByteArray) (r1 : Int) (r2 : Bool) (w : World) (hr0 : Kd.C k30 w A0 l0.length l0) (hc0 : l0.length ≤ c0) (h : tree_find.f l0 a1 = some (r1, r2)) :
    Calls Tryd.prog 64 #[.slice A0 l0.length c0, .string a1] w fun e w' => e = .returned (.tuple #[.int .i64 r1, .bool r2]) ∧ Below w.heap.size w w' := by
  unfold tree_find.f at h
  split at h
  · rename_i hc
    obtain ⟨h1, h2⟩ := Prod.mk.inj (Option.some.inj h)
    subst h1
    subst h2
    obtain ⟨ho, hq, hs⟩ := hc
    have ho := okP_iff.1 ho
    have k := BinarySearch_calls A0 c0 l0 a1 w hr0 hc0 ho.2 (fun x hx => by have := ho.1 x hx; omega) (by omega) hs
    clear ho hq hs hr0 h
    go_enter Tryd.func64, Tryd.ntmps64
    go_wp2_with (fail)
    refine k.mono ?_
    rintro e w2 ⟨rfl, hb⟩
    dsimp only
    go_wp2_with (fail)
    go_ret2
    exact ⟨rfl, hb⟩
  · cases h
end Go.Proofs.YtidlldfghkaeeaaDoor.P
