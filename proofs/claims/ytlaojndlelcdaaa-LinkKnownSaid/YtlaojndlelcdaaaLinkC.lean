/- The link's methods in plain words: what they hand back, and how they leave the link, as functions of lists and numbers. -/
import Derived.Test.YtlaojndlelcdaaaLinkB
import Derived.Test.YtlaojndlelcdaaaPureFrameApart
namespace Go.Proofs.Ytlaojndlelcdaaa.Links
open Go.RowKit Go.Proofs.Ytlaojndlelcdaaa.P Go.Proofs.Ytlaojndlelcdaaa.Pure Go.Proofs.YtlaojndlelcdaaaW.PrintWords Go.Proofs.YtlaojndlelcdaaaW.PrintLast Go.Proofs.YtlaojndlelcdaaaW.PrintMore

def up (n : Int) : Int := IntKind.u64.wrap (n + 1)
def sayL (s : L) (b : List Int) : L × List Int × Int :=
  if s.lost = true then (s, [], 12) else
  if (b.length : Int) > 131072 then (s, [], 9) else
  if s.busy = true then (s, [], 1) else
  (⟨up s.said, s.heard, putF ⟨false, up s.said, b⟩, true, 1, s.lost⟩, putF ⟨false, up s.said, b⟩, 0)
def tickL (s : L) : L × List Int × Int :=
  if s.busy = false then (s, [], 5) else
  if s.tries ≥ 12 then (⟨s.said, s.heard, s.wait, false, s.tries, true⟩, [], 12) else
  (⟨s.said, s.heard, s.wait, s.busy, wrap64 (s.tries + 1), s.lost⟩, s.wait, 0)
def hearL (s : L) (l : List Int) : L × List Int × Bool × List Int :=
  match getF l with
  | none => (s, [], false, [])
  | some f =>
    if f.ack = true then (if s.busy = true ∧ f.seq = s.said then (⟨s.said, s.heard, s.wait, false, 0, s.lost⟩, [], false, []) else (s, [], false, [])) else
    if up s.heard < f.seq then (s, [], false, []) else
    if f.seq = up s.heard then (⟨s.said, up s.heard, s.wait, s.busy, s.tries, s.lost⟩, f.b, true, putF ⟨true, f.seq, []⟩) else (s, [], false, putF ⟨true, f.seq, []⟩)

theorem putF_len (f : Fr) : (putF f).length ≤ 131100 := by
  unfold putF
  by_cases h : goodF f = true
  · rw [if_pos h]
    have hg := good_seq h
    have he := enc_len 9 f.seq
    have hb : f.b.length ≤ 131072 := hg.2.2.1
    simp [seal_len]
    omega
  · rw [if_neg h]
    simp

theorem say_eq (s : L) (b : List Int) : say 20000000 s b = some (sayL s b) := by
  unfold say sayL
  have hp := putF_eq ⟨false, IntKind.u64.wrap (s.said + 1), b⟩ 20000000 (by omega)
  have hl := putF_len ⟨false, IntKind.u64.wrap (s.said + 1), b⟩
  dsimp only at hp
  have hm : (putF ⟨false, IntKind.u64.wrap (s.said + 1), b⟩).length < 140737488355328 := by omega
  rw [hp, Option.bind_some]
  unfold up
  by_cases h1 : s.lost = true
  · rw [if_pos h1, if_pos h1]
  · rw [if_neg h1, if_neg h1]
    by_cases h2 : (b.length : Int) > 131072
    · rw [if_pos h2, if_pos h2]
    · rw [if_neg h2, if_neg h2]
      by_cases h3 : s.busy = true
      · rw [if_pos h3, if_pos h3]
      · rw [if_neg h3, if_neg h3, if_pos hm]
theorem tick_eq (s : L) (h : s.wait.length ≤ 131100) : tick s = some (tickL s) := by
  unfold tick tickL
  by_cases h1 : s.busy = false
  · rw [if_pos h1, if_pos h1]
  · rw [if_neg h1, if_neg h1]
    by_cases h2 : s.tries ≥ 12
    · rw [if_pos h2, if_pos h2]
    · rw [if_neg h2, if_neg h2, if_pos (show s.wait.length < 140737488355328 by omega)]
theorem hear_eq (s : L) (l : List Int) (hb : Bytes l) (hl : l.length ≤ 1000000) : hear 20000000 s l = some (hearL s l) := by
  unfold hear hearL
  rw [getF_eq l hb hl 20000000 (by omega), Option.bind_some]
  cases hg : getF l with
  | none => rfl
  | some f =>
    have hp := putF_eq ⟨true, f.seq, []⟩ 20000000 (by omega)
    dsimp only at hp ⊢
    rw [hp, Option.bind_some]
    unfold up
    rw [if_neg (by simp)]
    by_cases h1 : f.ack = true
    · rw [if_pos h1, if_pos h1]
      split <;> rfl
    · rw [if_neg h1, if_neg h1]
      split
      · rfl
      · split <;> rfl

theorem SayL (g : Nat) (s : L) (A0 : Option Addr) (c0 : Nat) (l0 : List Int) (w : World) (h : At w g s) (hr : Kd.C (Kd.int .u8) w A0 l0.length l0) (hc : l0.length ≤ c0) (hne : ∀ a, A0 = some a → 0 < l0.length → a.block ≠ g) :
    Calls Try.prog 59 #[.pointer (some ⟨g, 0, none⟩), .slice A0 l0.length c0] w fun e' w' => ∃ v, e' = .returned (.tuple #[v, .int .i64 (sayL s l0).2.2]) ∧ Kd.R (Kd.int .u8) 5 w' w.heap.size (fun _ => True) v (sayL s l0).2.1 ∧ At w' g (sayL s l0).1 ∧ Near w w' g :=
  Say_calls 20000000 g s _ A0 c0 l0 _ _ w h hr hc hne (say_eq s l0)
theorem TickL (g : Nat) (s : L) (w : World) (h : At w g s) (hw : s.wait.length ≤ 131100) :
    Calls Try.prog 60 #[.pointer (some ⟨g, 0, none⟩)] w fun e' w' => ∃ v, e' = .returned (.tuple #[v, .int .i64 (tickL s).2.2]) ∧ Kd.R (Kd.int .u8) 5 w' w.heap.size (fun _ => True) v (tickL s).2.1 ∧ At w' g (tickL s).1 ∧ Near w w' g :=
  Tick_calls g s _ _ _ w h (tick_eq s hw)
theorem HearL (g : Nat) (s : L) (A0 : Option Addr) (c0 : Nat) (l0 : List Int) (w : World) (h : At w g s) (hr : Kd.C (Kd.int .u8) w A0 l0.length l0) (hc : l0.length ≤ c0) (hb : Bytes l0) (hl : l0.length ≤ 1000000) :
    Calls Try.prog 61 #[.pointer (some ⟨g, 0, none⟩), .slice A0 l0.length c0] w fun e' w' => ∃ v v', e' = .returned (.tuple #[v, .bool (hearL s l0).2.2.1, v']) ∧ Kd.R (Kd.int .u8) 5 w' w.heap.size (fun _ => True) v (hearL s l0).2.1 ∧ Kd.R (Kd.int .u8) 5 w' w.heap.size (fun _ => True) v' (hearL s l0).2.2.2 ∧ At w' g (hearL s l0).1 ∧ Near w w' g :=
  Hear_calls 20000000 g s _ A0 c0 l0 _ _ _ w h hr hc (hear_eq s l0 hb hl)
end Go.Proofs.Ytlaojndlelcdaaa.Links
