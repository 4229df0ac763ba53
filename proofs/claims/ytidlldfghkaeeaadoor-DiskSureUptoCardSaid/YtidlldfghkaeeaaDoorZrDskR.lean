/- Put together by pack2.py: DskR -/
import Derived.Test.YtidlldfghkaeeaaDoorZrDskF
import Derived.Test.YtidlldfghkaeeaaDoorZrOwn53Etc
namespace Go.Proofs.YtidlldfghkaeeaaDoor.P
open Go.RowKit Go.Proofs.YtidlldfghkaeeaaDoorW.PrintWords Go.Proofs.YtidlldfghkaeeaaDoorW.PrintLast Go.Proofs.YtidlldfghkaeeaaDoorW.PrintMore
set_option linter.unusedVariables false
set_option linter.unusedSimpArgs false
section
variable {l : List S30} {p q : ByteArray} {d : Bool} {b : List Int} {x : S30} {c : S61}
theorem with1_mem (h : GT30 l) (hg : Gd p.data.toList) (hdb : d = true → b = []) (hx : x.f0 ≠ p) : x ∈ (with1 l p d b).1 ↔ x ∈ l := by
  rcases with1_cases (b := b) h hg hdb with ⟨h1, _⟩ | ⟨h1, _⟩
  · rw [h1]
  · rw [h1]
    show x ∈ insE S30.f0 ⟨p, d, b⟩ l ↔ _
    rw [insE_mem h.2.2.1]
    exact ⟨fun h => h.elim (fun e => absurd (by rw [e]) hx) fun h => h.1, fun h => .inr ⟨h, hx⟩⟩
theorem rem0_mem (h : GT30 l) (hx : x.f0 ≠ p) : x ∈ (rem0 l p).1 ↔ x ∈ l := by
  unfold rem0
  split
  · split
    · exact Iff.rfl
    · show x ∈ delE S30.f0 p l ↔ _
      rw [delE_mem]
      exact ⟨fun h => h.1, fun h => ⟨h, hx⟩⟩
  · exact Iff.rfl
theorem move0_mem (h : GT30 l) (h1 : x.f0 ≠ p) (h2 : x.f0 ≠ q) : x ∈ (move0 l p q).1 ↔ x ∈ l := by
  by_cases hd : (move0 l p q).2 = 0
  · obtain ⟨_, g1, g2, y, hy, hyp, hyf, hc⟩ := move0_done hd
    rcases hc with ⟨_, e⟩ | ⟨_, e⟩
    · rw [e]
    · have e1 : (move0 l p q).1 = (with1 (delE S30.f0 p l) q false y.f2).1 := by rw [e]
      have hdel : GT30 (delE S30.f0 p l) := GT_del h (by
        rintro ⟨z, hz, hzp, hzt⟩
        have := srt_key h.2.2.1 hz hy (hzp.trans hyp.symm)
        rw [this, hyf] at hzt
        cases hzt)
      rw [e1, with1_mem hdel g2 (fun h => by cases h) h2, delE_mem]
      exact ⟨fun h => h.1, fun h => ⟨h, h1⟩⟩
  · rw [move0_not hd]
theorem put0_mem (h : GT30 l) (h1 : x.f0 ≠ p) : x ∈ (put0 l p b).1 ↔ x ∈ l := by
  unfold put0
  rw [if_pos h]
  split
  · rename_i hg
    exact with1_mem h hg (fun h => by cases h) h1
  · exact Iff.rfl
theorem make0_mem (h : GT30 l) (h1 : x.f0 ≠ p) : x ∈ (make0 l p).1 ↔ x ∈ l := by
  unfold make0
  by_cases h0 : findE l p = 0
  · rw [if_pos h0]
  · rw [if_neg h0]
    by_cases h5 : findE l p = 5
    · rw [if_pos h5]
      exact with1_mem h (findE_five.1 h5).2.1 (fun _ => rfl) h1
    · rw [if_neg h5]
theorem done0_mem (h : GT30 l) (h1 : x.f0 ≠ c.f1) (h2 : c.f0 = 4 → x.f0 ≠ c.f2) : x ∈ (done0 l c).1 ↔ x ∈ l := by
  unfold done0
  split
  · exact put0_mem h h1
  · split
    · exact make0_mem h h1
    · split
      · exact rem0_mem h h1
      · split
        · rename_i h4
          exact move0_mem h h1 (h2 h4)
        · exact Iff.rfl
theorem cutC_names {torn : Int} : (cutC torn c).f0 = c.f0 ∧ (cutC torn c).f1 = c.f1 ∧ (cutC torn c).f2 = c.f2 := by
  unfold cutC
  split <;> exact ⟨rfl, rfl, rfl⟩
/-- No change names the path. -/
def Un (ws : List S61) (p : ByteArray) : Prop := ∀ c ∈ ws, p ≠ c.f1 ∧ (c.f0 = 4 → p ≠ c.f2)
theorem fallN_mem {keep : List Int} {torn : Int} {ws : List S61} (h : GT30 l) (hu : Un ws x.f0) : ∀ i, x ∈ fallN keep torn ws l i ↔ x ∈ l
  | 0 => Iff.rfl
  | i + 1 => by
    have ih := fallN_mem (keep := keep) (torn := torn) h hu i
    rw [fallN]
    split
    · rename_i c hc
      have hu' := hu c (List.mem_of_getElem? hc)
      obtain ⟨e0, e1, e2⟩ := cutC_names (c := c) (torn := torn)
      rw [← ih]
      unfold fall1
      split
      · split
        · exact done0_mem (fallN_GT h i) (by rw [e1]; exact hu'.1) (by rw [e0, e2]; exact hu'.2)
        · exact Iff.rfl
      · exact Iff.rfl
    · exact ih
/-- Whether some of the changes name the path. -/
def nmd (bs : List S61) (p : ByteArray) : Bool := bs.any fun c => decide (p = c.f1 ∨ (c.f0 = 4 ∧ p = c.f2))
theorem nmd_un {bs ws : List S61} (h : nmd bs p = false) (hs : ∀ c ∈ ws, c ∈ bs) : Un ws p := by
  intro c hc
  have h1 := List.any_eq_false.1 h c (hs c hc)
  have h2 : ¬(p = c.f1 ∨ (c.f0 = 4 ∧ p = c.f2)) := by simpa using h1
  exact ⟨fun e => h2 (.inl e), fun e0 e => h2 (.inr ⟨e0, e⟩)⟩
theorem nmd_step4 (bs : List S61) (h : c.f0 = 4) (z : ByteArray) : (if z = c.f2 then true else if z = c.f1 then true else nmd bs z) = nmd (bs ++ [c]) z := by
  unfold nmd
  rw [List.any_append, List.any_cons, List.any_nil, Bool.or_false]
  by_cases h2 : z = c.f2
  · rw [if_pos h2, decide_eq_true (.inr ⟨h, h2⟩), Bool.or_true]
  · rw [if_neg h2]
    by_cases h1 : z = c.f1
    · rw [if_pos h1, decide_eq_true (.inl h1), Bool.or_true]
    · rw [if_neg h1, decide_eq_false (fun e => e.elim h1 fun e => h2 e.2), Bool.or_false]
theorem nmd_step (bs : List S61) (h : c.f0 ≠ 4) (z : ByteArray) : (if z = c.f1 then true else nmd bs z) = nmd (bs ++ [c]) z := by
  unfold nmd
  rw [List.any_append, List.any_cons, List.any_nil, Bool.or_false]
  by_cases h1 : z = c.f1
  · rw [if_pos h1, decide_eq_true (.inl h1), Bool.or_true]
  · rw [if_neg h1, decide_eq_false (fun e => e.elim h1 fun e => h e.1), Bool.or_false]
end
/-- What holds of the disk while the second changes are done. -/
structure Bi (bs : List S61) (L : List S30) (s : Dk) : Prop where
  off : s.off = false
  fu : s.fuse ≤ 0
  wl : s.waits.length ≤ bs.length
  la : s.last = L
  okw : ∀ x ∈ s.waits, okG x
  sub : ∀ x ∈ s.waits, x ∈ bs
  gt : GT30 s.now
theorem do0_Bi {bs : List S61} {L : List S30} {s : Dk} {c : S61} (h : Bi bs L s) (hc : okG c) : Bi (bs ++ [c]) L (do0 s c).1 := by
  have hs : Bi (bs ++ [c]) L s := ⟨h.off, h.fu, by have := h.wl; rw [List.length_append]; omega, h.la, h.okw, fun x hx => List.mem_append_left _ (h.sub x hx), h.gt⟩
  have hgt := done0_GT (c := c) h.gt
  unfold do0
  rw [if_neg (by rw [h.off]; exact Bool.false_ne_true)]
  by_cases h1 : (done0 s.now c).2 ≠ 0
  · rw [if_pos h1]
    exact hs
  · rw [if_neg h1]
    by_cases h2 : (nB30 (done0 s.now c).1 : Int) > s.q ∧ nB30 (done0 s.now c).1 > nB30 s.now
    · rw [if_pos h2]
      exact hs
    · rw [if_neg h2]
      refine ⟨h.off, h.fu, ?_, h.la, ?_, ?_, hgt⟩
      · show (s.waits ++ [c]).length ≤ (bs ++ [c]).length
        rw [List.length_append, List.length_append]
        have := h.wl
        omega
      · intro x hx
        rcases List.mem_append.1 hx with hx | hx
        · exact h.okw x hx
        · rw [List.mem_singleton.1 hx]; exact hc
      · intro x hx
        rcases List.mem_append.1 hx with hx | hx
        · exact List.mem_append_left _ (h.sub x hx)
        · exact List.mem_append_right _ hx
/-- What tree.Find hands back of an entry. -/
theorem Find_at {l : List S30} {x : S30} (hg : GT30 l) (hx : x ∈ l) : tree_Find.f l x.f0 = some (x.f0, x.f1, x.f2, 0) := by
  have h := GT_okT hg
  have hd := (hg.2.2.2 x hx).1
  have hp : x.f0.size < 4294967280 := h.1 |> okP_iff.1 |>.1 x hx
  have hex : ∃ y ∈ l, y.f0 = x.f0 := ⟨x, hx, rfl⟩
  unfold tree_Find.f
  rw [tree_Good.eq h, Option.bind_some, if_pos (decide_eq_true hg), Good_eq (by omega), Option.bind_some, if_pos (decide_eq_true hd), tree_find.eq h hp hg.2.2.1, Option.bind_some]
  obtain ⟨hlt, he⟩ := (lowB_at hg.2.2.1).2 hex
  have hm := nB_mem (List.getElem_mem hlt)
  have hn := h.2
  have hxe : l[lowB S30.f0 x.f0 l] = x := srt_key hg.2.2.1 (List.getElem_mem hlt) hx he
  dsimp only
  rw [if_pos (decide_eq_true hex), if_pos (Int.natCast_nonneg _), if_pos (by omega), rdT hlt, own_eq (by omega), Option.bind_some, hxe]
/-! #### a state that is read, beside a block that is a map -/
/-- What a kind reads lies in cells. -/
structure HeapC {α : Type} (d : Kd α) : Prop where
  K : ∀ {w w1 : World} {x : α} {cs : List Value}, (∀ a v, w.cell? a = some v → w1.cell? a = some v) → d.K w x cs → d.K w1 x cs
theorem HeapC.C {α : Type} {d : Kd α} (hd : HeapC d) {w w1 : World} {A : Option Addr} {n : Nat} {xs : List α} (hb : ∀ a v, w.cell? a = some v → w1.cell? a = some v) (h : d.C w A n xs) : d.C w1 A n xs :=
  ⟨h.1, h.2.1, fun hn => by
    obtain ⟨ad, e, hc⟩ := h.2.2 hn
    refine ⟨ad, e, fun j p hj => ?_⟩
    obtain ⟨c, hs, hr, hcell⟩ := hc j p hj
    exact ⟨c, hs, hd.K hb hr, fun i u hu => hb _ _ (hcell i u hu)⟩⟩
theorem hc_int (k : IntKind) : HeapC (Kd.int k) := ⟨fun _ h => h⟩
theorem hc_30 : HeapC k30 := ⟨fun hb h => by
  obtain ⟨A2, c2, rfl, l2, g2⟩ := k30_open h
  exact k30_mk _ _ l2 ((hc_int .u8).C hb g2)⟩
theorem hc_61 : HeapC k61 := ⟨fun hb h => by
  obtain ⟨A2, c2, rfl, l2, g2⟩ := k61_open h
  exact k61_mk _ _ l2 ((hc_int .u8).C hb g2)⟩
theorem foot_map {P : World → Prop} {W : World} {ok : Nat → Prop} {mb cl : Nat} {es : Array MapEntry} (hm : W.heap[mb]? = some (.map es cl)) (hP : ∀ w w1 : World, (∀ a v, w.cell? a = some v → w1.cell? a = some v) → P w → P w1) (h : Foot P W ok) : Foot P W (fun k => ok k ∧ k ≠ mb) := fun W' hW => by
  have hsz : mb < (W'.heap ++ Array.replicate (mb + 1) (Obj.map #[] 0)).size := by
    rw [Array.size_append, Array.size_replicate]
    omega
  obtain ⟨W2, hW2⟩ : ∃ W2 : World, W2 = { W' with heap := (W'.heap ++ Array.replicate (mb + 1) (Obj.map #[] 0)).setIfInBounds mb (.map es cl) } := ⟨_, rfl⟩
  have hself : W2.heap[mb]? = some (.map es cl) := by
    rw [hW2]
    exact Array.getElem?_setIfInBounds_self_of_lt hsz
  have hoth : ∀ k, k ≠ mb → W2.heap[k]? = (W'.heap ++ Array.replicate (mb + 1) (Obj.map #[] 0))[k]? := fun k hk => by
    rw [hW2]
    exact Array.getElem?_setIfInBounds_ne (Ne.symm hk)
  refine hP W2 W' ?_ (h W2 fun k hk hlt => ?_)
  · intro a v hv
    by_cases e : a.block = mb
    · exfalso
      rw [← e] at hself
      simp [World.cell?, hself] at hv
    · have ho := hoth a.block e
      by_cases e2 : a.block < W'.heap.size
      · rw [Array.getElem?_append_left e2] at ho
        simpa [World.cell?, ho] using hv
      · exfalso
        rw [Array.getElem?_append_right (by omega)] at ho
        by_cases e3 : a.block - W'.heap.size < mb + 1
        · rw [Array.getElem?_replicate, if_pos e3] at ho
          simp [World.cell?, ho] at hv
        · rw [Array.getElem?_replicate, if_neg e3] at ho
          simp [World.cell?, ho] at hv
  · by_cases e : k = mb
    · rw [e, hself, hm]
    · have h1 := hW k ⟨hk, e⟩ hlt
      rw [hoth k e, Array.getElem?_append_left (heap_lt h1 hlt)]
      exact h1
theorem V_away {α : Type} {d : Kd α} (hd : HeapC d) {e B mb cl : Nat} {W W' : World} {ok : Nat → Prop} {v : Value} {xs : List α} {es : Array MapEntry} (h : Kd.V d e W B ok v xs) (hm : W.heap[mb]? = some (.map es cl)) (hK : Kept W W' (fun k => k = mb)) : Kd.V d e W' B ok v xs :=
  Kd.V_mono (Kd.V_kept (Kd.V_map (ok' := fun k => ok k ∧ k ≠ mb) h (fun A hf => foot_map hm (fun w w1 hb hC => hd.C hb hC) hf)) hK (fun k hk => hk.2)) fun k hk => hk.1
theorem N_away {α : Type} {d : Kd α} (hd : HeapC d) {e B mb cl : Nat} {W W' : World} {ok : Nat → Prop} {v : Value} {xs : List α} {es : Array MapEntry} (h : Kd.N d e W B ok v xs) (hm : W.heap[mb]? = some (.map es cl)) (ho : v.ownBlock ≠ some mb) (hK : Kept W W' (fun k => k = mb)) : Kd.N d e W' B ok v xs := by
  obtain ⟨h0, rows, hl, hR, hf⟩ := h
  refine ⟨h0, rows, hl, Kd.R_step hR (fun k hk hlt => hK.2 k hlt (fun e => ho (by rw [← e]; exact hk.symm))), fun j x c hx hc => ?_⟩
  exact Kd.FK_mono (Kd.FK_step (foot_map hm (fun w w1 hb hC => hd.K hb hC) (hf j x c hx hc)) (fun k hk hlt => hK.2 k hlt hk.2)) fun k hk => hk.1
theorem At.away {W W' : World} {B g mb cl : Nat} {s : Dk} {vn vl vw vk : Value} {es : Array MapEntry} (h : At W B g s vn vl vw vk) (hm : W.heap[mb]? = some (.map es cl)) (hg : g ≠ mb) (ho : vw.ownBlock ≠ some mb) (hK : Kept W W' (fun k => k = mb)) : At W' B g s vn vl vw vk :=
  ⟨(hK.2 g (blk_lt h.hg) hg).trans h.hg, h.hB, V_away hc_30 h.n hm hK, V_away hc_30 h.l hm hK, N_away hc_61 h.w hm ho hK, V_away (hc_int .i64) h.k hm hK⟩
theorem MapIs.blk {W : World} {b n : Nat} {g : ByteArray → Bool} (h : MapIs W b n g) : ∃ es cl, W.heap[b]? = some (.map es cl) := by
  obtain ⟨D, ⟨es, clock, hb, _⟩, _⟩ := h
  exact ⟨es, clock, hb⟩
theorem kept_grown {W W' : World} {mb : Nat} (h : W.grownBy W' (some mb)) : Kept W W' (fun k => k = mb) := ⟨h.size, fun i hi hn => h.block i hi (fun e => hn (Option.some.inj e))⟩
end Go.Proofs.YtidlldfghkaeeaaDoor.P
