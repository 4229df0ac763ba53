/- The net's first words, walked: it is awake. -/
import Derived.Test.YtlaojndlelcdaaaPx0
import Derived.Test.YtlaojndlelcdaaaNetA
namespace Go.Proofs.Ytlaojndlelcdaaa.Nets
set_option linter.unusedSimpArgs false
set_option linter.unusedVariables false
open Go.RowKit Go.Proofs.Ytlaojndlelcdaaa.P Go.Proofs.YtlaojndlelcdaaaW.PrintWords Go.Proofs.YtlaojndlelcdaaaW.PrintLast Go.Proofs.YtlaojndlelcdaaaW.PrintMore
theorem Take0 (B g : Nat) (ps0 ps1 : Ps) (c0 c1 : Int) (u : Value) (x : List Int) (w : World) (h : At w B g ((u, x) :: ps0) ps1 c0 c1) :
    Calls Try.prog 41 #[.pointer (some ⟨g, 0, none⟩), .agg #[.int .i64 1, .int .i64 0, .int .i64 0, .int .i64 0, .int .u8 0, .slice none 0 0]] w fun e w' => e = .returned (.tuple #[u, .int .i64 0]) ∧ At w' B g ps0 ps1 c0 c1 ∧ Below B w w' ∧ Ow w' B (u, x) ∧ Fr5 w w' :=
  Do0_1 B g ((u, x) :: ps0) ps1 c0 c1 0 u x 0 0 none 0 0 w h rfl
theorem Take1 (B g : Nat) (ps0 ps1 : Ps) (c0 c1 : Int) (u : Value) (x : List Int) (w : World) (h : At w B g ps0 ((u, x) :: ps1) c0 c1) :
    Calls Try.prog 41 #[.pointer (some ⟨g, 0, none⟩), .agg #[.int .i64 1, .int .i64 1, .int .i64 0, .int .i64 0, .int .u8 0, .slice none 0 0]] w fun e w' => e = .returned (.tuple #[u, .int .i64 0]) ∧ At w' B g ps0 ps1 c0 c1 ∧ Below B w w' ∧ Ow w' B (u, x) ∧ Fr5 w w' :=
  Do1_1 B g ps0 ((u, x) :: ps1) c0 c1 0 u x 0 0 none 0 0 w h rfl
theorem Ow.str {W : World} {B : Nat} {u : Value} {x : List Int} (h : Ow W B (u, x)) : (convert 24 9 u).run Try.prog W = .ok (.string (strOfNums x)) W := by
  obtain ⟨A, c, hu, hc, hC⟩ := h.slice
  dsimp only at hu hc hC
  subst hu
  exact C_string_n Try.underlying24 Try.underlying5 Try.underlying9 hC rfl
set_option maxHeartbeats 8000000 in
set_option maxRecDepth 100000 in
theorem awake_calls (w : World) : Calls Try.prog 38 #[] w fun e w' => e = .returned (.bool true) ∧ Below w.heap.size w w' := by
  go_enter Try.func38, Try.ntmps38
  go_wp2_with (first
    | (go_at_call 39; refine (New_calls w).mono ?_; rintro e wa ⟨rfl, hA, ba⟩)
    | ((with_reducible refine gate_dst (N := 10) rfl ?_); refine V_mlit (xs := [97, 98]) (n := 2) (N := 10) ?hg ?hd (.tmp 9) (t := 24) (e := 5) rfl rfl Try.underlying24 Try.underlying5 rfl rfl (by decide) ?_; (case hd => rfl); (case hg => rfl); intro vx wx hv bx hg_ hnew; obtain ⟨Ax, cx, rfl, hcx, hFx⟩ := hv; replace hA := At.below hA bx; have hS := Send1 w.heap.size w.heap.size [] [] 0 0 Ax cx [97, 98] wx hA (Kd.F_now hFx) hcx (by decide) (by decide))
    )
  refine hS.mono ?_
  clear hS
  rintro e w2 ⟨u, rfl, hA2, hb2, _⟩
  dsimp only
  go_wp2_with (fail)
  refine (Take1 w.heap.size w.heap.size [] [] 0 (wrap64 (0 + 1)) u [97, 98] w2 hA2).mono ?_
  rintro e w3 ⟨rfl, hA3, hb3, hO, _⟩
  dsimp only
  have hs := hO.str
  rw [show strOfNums [97, 98] = ⟨#[97, 98]⟩ from by decide] at hs
  have hW := Waits1 w.heap.size w.heap.size _ _ _ _ w3 hA3
  have hCt := Count1 w.heap.size w.heap.size _ _ _ _ w3 hA3
  rw [show wrap64 (0 + 1) = 1 from by simp [wrap64]] at hCt
  have hB : Below w.heap.size w w3 := ((ba.trans (bx.mono ba.size)).trans hb2).trans hb3
  clear hA2 hb2 hA3 hb3 hO hFx hA ba bx hg_ hnew hcx
  go_wp2_with (first
    | (go_at_call 42; refine hW.mono ?_; rintro e w' ⟨rfl, rfl⟩)
    | (go_at_call 47; refine hCt.mono ?_; rintro e w' ⟨rfl, rfl⟩))
  go_ret
  exact ⟨by simp, by assumption⟩
end Go.Proofs.Ytlaojndlelcdaaa.Nets
