/- Put together by pack.py: PureTreeKids -/
import Derived.Test.YtidlldfghkaeeaaDoorZkTreeLaws
import Derived.Test.YtidlldfghkaeeaaDoorZkTreeCln
import Derived.Test.YtidlldfghkaeeaaDoorZkPfTallymanlaw8TreeKids
namespace Go.Proofs.YtidlldfghkaeeaaDoor.Pure
open Go.RowKit Go.Proofs.YtidlldfghkaeeaaDoor.P Go.Proofs.YtidlldfghkaeeaaDoorW.PrintWords Go.Proofs.YtidlldfghkaeeaaDoorW.PrintLast
set_option linter.unusedVariables false
set_option linter.unusedSimpArgs false
theorem nB_leK {B : Nat} : ∀ {l : List S30}, (∀ x ∈ l, x.f2.length ≤ B) → nB30 l ≤ l.length * B
  | [], _ => by simp [nB30, nB]
  | x :: l, h => by
    have h1 := h x List.mem_cons_self
    have h2 := nB_leK (l := l) fun y hy => h y (List.mem_cons_of_mem _ hy)
    unfold nB30 at h2 ⊢
    rw [nB_cons, List.length_cons, Nat.succ_mul]
    omega
theorem okT_smallK {l : List S30} (h0 : ∀ x ∈ l, x.f0.size ≤ 1048576 ∧ x.f2.length ≤ 1048576) (hl : l.length ≤ 40) : okT l := by
  have h1 := nB_leK (B := 1048576) fun x hx => (h0 x hx).2
  have h2 : l.length * 1048576 ≤ 40 * 1048576 := Nat.mul_le_mul_right _ hl
  exact ⟨okP_iff.2 ⟨fun x hx => by have := (h0 x hx).1; omega, by omega⟩, by omega⟩
theorem sum_zero {a : ByteArray} : ∀ {ps : List ByteArray}, a ∉ ps → (ps.map fun p => if a = p then 1 else 0).sum = 0
  | [], _ => rfl
  | p :: ps, h => by
    rw [List.map_cons, List.sum_cons, if_neg (fun e => h (by rw [e]; exact List.mem_cons_self)), sum_zero fun hm => h (List.mem_cons_of_mem _ hm)]
theorem sum_one {a : ByteArray} : ∀ {ps : List ByteArray}, ps.Nodup → a ∈ ps → (ps.map fun p => if a = p then 1 else 0).sum = 1
  | p :: ps, hn, hm => by
    have h1 := List.nodup_cons.1 hn
    rw [List.map_cons, List.sum_cons]
    by_cases e : a = p
    · rw [if_pos e, sum_zero (by rw [e]; exact h1.1)]
    · rw [if_neg e, sum_one h1.2 ((List.mem_cons.1 hm).resolve_left e)]
theorem sum_add {f g : ByteArray → Nat} : ∀ ps : List ByteArray, (ps.map fun p => f p + g p).sum = (ps.map f).sum + (ps.map g).sum
  | [] => rfl
  | p :: ps => by
    rw [List.map_cons, List.sum_cons, List.map_cons, List.sum_cons, List.map_cons, List.sum_cons, sum_add ps]
    omega
/-- Each is counted once. -/
theorem count_once (f : S30 → ByteArray) {ps : List ByteArray} (hn : ps.Nodup) : ∀ X : List S30, (∀ x ∈ X, f x ∈ ps) → (ps.map fun p => (X.filter fun x => decide (f x = p)).length).sum = X.length
  | [], _ => by
    have : ∀ qs : List ByteArray, (qs.map fun _ => ([] : List S30).length).sum = 0 := fun qs => by
      induction qs with
      | nil => rfl
      | cons q qs ih => rw [List.map_cons, List.sum_cons, ih]; rfl
    exact this ps
  | x :: X, h => by
    have ih := count_once f hn X fun y hy => h y (List.mem_cons_of_mem _ hy)
    have h1 := sum_one hn (h x List.mem_cons_self)
    have e : ∀ p, ((x :: X).filter fun x => decide (f x = p)).length = (if f x = p then 1 else 0) + (X.filter fun x => decide (f x = p)).length := fun p => by
      rw [List.filter_cons]
      by_cases q : f x = p
      · rw [if_pos (decide_eq_true q), if_pos q, List.length_cons]; omega
      · rw [if_neg (by simpa using q), if_neg q]; omega
    rw [show (fun p => ((x :: X).filter fun x => decide (f x = p)).length) = fun p => (if f x = p then 1 else 0) + (X.filter fun x => decide (f x = p)).length from funext e, sum_add, ih, h1, List.length_cons]
    omega
theorem kids_len {l : List S30} (h : GT30 l) (p : ByteArray) : (kidsL l p).length = (l.filter fun x => decide (upB x.f0 = p)).length := by
  unfold kidsL
  rw [if_pos h, List.length_map]
theorem kids_all {l : List S30} (h : GT30 l) : (kidsL l ⟨#[]⟩).length + (l.map fun e => (kidsL l e.f0).length).sum = l.length := by
  have hn : ((⟨#[]⟩ : ByteArray) :: l.map S30.f0).Nodup := by
    refine List.nodup_cons.2 ⟨fun hm => ?_, ?_⟩
    · obtain ⟨x, hx, e⟩ := List.mem_map.1 hm
      exact gd_ne (h.2.2.2 x hx).1 e
    · exact List.pairwise_map.2 (h.2.2.1.imp fun {a b} hab => ltP_ne hab)
  have hc := count_once (fun x => upB x.f0) hn l fun x hx => by
    obtain ⟨_, _, _, a4⟩ := h.2.2.2 x hx
    rcases a4 with a4 | ⟨d, hd, e, _⟩
    · rw [upB_nil.2 a4]; exact List.mem_cons_self
    · rw [← e]; exact List.mem_cons_of_mem _ (List.mem_map_of_mem hd)
  rw [List.map_cons, List.sum_cons, List.map_map] at hc
  rw [kids_len h, show (fun e : S30 => (kidsL l e.f0).length) = fun e => (l.filter fun x => decide (upB x.f0 = e.f0)).length from funext fun e => kids_len h e.f0]
  exact hc
theorem kids_file {l : List S30} (h : GT30 l) {e : S30} (he : e ∈ l) (hf : e.f1 = false) : (kidsL l e.f0).length = 0 := by
  rw [kids_len h, List.length_eq_zero_iff, List.filter_eq_nil_iff]
  intro x hx hq
  have hq := of_decide_eq_true hq
  obtain ⟨_, _, _, a4⟩ := h.2.2.2 x hx
  rcases a4 with a4 | ⟨d, hd, e1, e2⟩
  · exact gd_ne (h.2.2.2 e he).1 (hq ▸ upB_nil.2 a4)
  · have : d = e := srt_key h.2.2.1 hd he (e1.trans hq)
    rw [this, hf] at e2
    cases e2
theorem inside_kid {p : ByteArray} (hg : Gd p.data.toList) (hu : upL p.data.toList ≠ []) (hi : insideL (upB p).data.toList) : insideL p.data.toList := by
  rw [upB_data] at hi
  rcases up_cases hg with ⟨h, _, _⟩ | ⟨x, _, _, he, _⟩
  · exact absurd h hu
  · refine .inr ⟨hg, ?_⟩
    rcases hi with hi | ⟨_, hi⟩
    · rw [he, hi]
      exact ⟨x, by simp⟩
    · rw [he]
      exact hi.trans (List.prefix_append _ _)
theorem GT_clean {l : List S30} (h : GT30 l) : GT30 (l.filter fun x => !insB x) := by
  refine ⟨Nat.le_trans (List.length_filter_le _ _) h.1, Nat.le_trans (nB_filter _ _) h.2.1, h.2.2.1.sublist List.filter_sublist, fun x hx => ?_⟩
  obtain ⟨hx, hk⟩ := List.mem_filter.1 hx
  obtain ⟨a1, a2, a3, a4⟩ := h.2.2.2 x hx
  refine ⟨a1, a2, a3, ?_⟩
  rcases a4 with a4 | ⟨d, hd, e1, e2⟩
  · exact .inl a4
  · by_cases hu : upL x.f0.data.toList = []
    · exact .inl hu
    · refine .inr ⟨d, List.mem_filter.2 ⟨hd, ?_⟩, e1, e2⟩
      cases hb : insB d with
      | false => rfl
      | true =>
        have h1 : insideL d.f0.data.toList := of_decide_eq_true hb
        rw [e1] at h1
        have h2 : insB x = true := decide_eq_true (inside_kid a1 hu h1)
        rw [h2] at hk
        cases hk
theorem kids_loop {l : List S30} (h : GT30 l) : ∀ (d i k x : Nat), i + d = l.length → d + 41 < k → x + ((l.drop i).map fun e => (kidsL l e.f0).length).sum = l.length → tallymanlaw8_TreeKids.l0 k l (x : Int) (i : Int) l = some true
  | 0, i, k, x, hd, hk, hx => by
    obtain ⟨k, rfl⟩ : ∃ m, k = m + 1 := ⟨k - 1, by omega⟩
    rw [List.drop_eq_nil_of_le (by omega)] at hx
    have hx' : x = l.length := hx
    have hc := GT_clean h
    have hcl : clean0 l = l.filter (fun x => !insB x) := by unfold clean0; rw [if_pos h]
    have hcc : clean0 (l.filter fun x => !insB x) = l.filter (fun x => !insB x) := by
      unfold clean0
      rw [if_pos hc, List.filter_filter]
      simp
    have e1 : tree_Clean.f l = some (l.filter fun x => !insB x) := by unfold tree_Clean.f; rw [if_pos (GT_okT h), hcl]
    have e2 : tree_Clean.f (l.filter fun x => !insB x) = some (l.filter fun x => !insB x) := by unfold tree_Clean.f; rw [if_pos (GT_okT hc), hcc]
    rw [tallymanlaw8_TreeKids.l0, if_neg (by omega), if_pos (by omega), e1, Option.bind_some, e2, Option.bind_some, Option.bind_some, tree_Same.self (GT_okT hc) hc, Option.bind_some]
  | d + 1, i, k, x, hd, hk, hx => by
    obtain ⟨k, rfl⟩ : ∃ m, k = m + 1 := ⟨k - 1, by omega⟩
    have hi : i < l.length := by omega
    have hl := h.1
    rw [List.drop_eq_getElem_cons hi, List.map_cons, List.sum_cons] at hx
    have hw : wrap64 ((i : Int) + 1) = ((i + 1 : Nat) : Int) := wr1 (by omega)
    have hw2 : wrap64 ((x : Int) + ((kidsL l l[i].f0).length : Int)) = ((x + (kidsL l l[i].f0).length : Nat) : Int) := by
      unfold wrap64
      omega
    have ih := kids_loop h d (i + 1) k (x + (kidsL l l[i].f0).length) (by omega) (by omega) (by omega)
    rw [tallymanlaw8_TreeKids.l0, if_pos (by omega), if_pos (by omega), rdT hi, tree_Kids.eq (GT_okT h) (by omega), Option.bind_some, hw, hw2]
    by_cases hd1 : l[i].f1 = true
    · rw [if_pos hd1]
      exact ih
    · have hf := kids_file h (List.getElem_mem hi) (by simpa using hd1)
      rw [if_neg hd1, if_neg (by rw [hf]; decide)]
      exact ih
theorem TreeKids (l0 : List S30) (h0 : ∀ x ∈ l0, x.f0.size ≤ 1048576 ∧ x.f2.length ≤ 1048576) : ∃ k, tallymanlaw8_TreeKids.f k l0 = some true := by
  refine ⟨101, ?_⟩
  have hj : tallymanlaw8_TreeKids.j0 (100 + 1) l0 true l0 = some true := by rw [tallymanlaw8_TreeKids.j0, if_pos rfl]
  unfold tallymanlaw8_TreeKids.f
  rw [show tallymanlaw8_awake.f = some true from rfl, Option.bind_some, if_pos rfl]
  by_cases q1 : (l0.length : Int) > 40
  · rw [if_pos q1]
    exact hj
  · have hok := okT_smallK h0 (by omega)
    rw [if_neg q1, tree_Good.eq hok, Option.bind_some]
    by_cases hg : GT30 l0
    · rw [decide_eq_true hg]
      show tallymanlaw8_TreeKids.j0 (100 + 1) l0 false l0 = some true
      rw [tallymanlaw8_TreeKids.j0, if_neg Bool.false_ne_true, tree_Kids.eq hok (by decide), Option.bind_some]
      have hl := hg.1
      exact kids_loop hg l0.length 0 100 _ (by omega) (by omega) (by rw [List.drop_zero]; exact kids_all hg)
    · rw [decide_eq_false hg]
      exact hj
end Go.Proofs.YtidlldfghkaeeaaDoor.Pure
