/- NetPlays: walked. -/
import Derived.Test.YtlaojndlelcdaaaNetR
import Derived.Test.YtlaojndlelcdaaaNetQ
import Derived.Deep.CutBlock
namespace Go.Proofs.Ytlaojndlelcdaaa.Nets
set_option linter.unusedSimpArgs false
set_option linter.unusedVariables false
open Go.RowKit Go.Proofs.Ytlaojndlelcdaaa.P Go.Proofs.YtlaojndlelcdaaaW.PrintWords Go.Proofs.YtlaojndlelcdaaaW.PrintLast Go.Proofs.YtlaojndlelcdaaaW.PrintMore
set_option maxHeartbeats 16000000 in
set_option maxRecDepth 100000 in
theorem NetPlays_calls (A0 : Option Addr) (c0 : Nat) (l0 : List S66) (w : World) (hC0 : Kd.C k66 w A0 l0.length l0) (_hc0 : l0.length ≤ c0) (hwf : ∀ x ∈ l0, (0 ≤ x.y ∧ x.y < 256) ∧ ∀ b ∈ x.b, 0 ≤ b ∧ b < 256) :
    Calls Try.prog 12 #[.slice A0 l0.length c0] w fun e w' => e = .returned (.bool true) ∧ Below w.heap.size w w' := by
  have HWF := Aside0.mk hwf
  clear hwf
  by_cases h1 : (150 : Int) < (l0.length : Int)
  · have h1b : decide ((150 : Int) < (l0.length : Int)) = true := decide_eq_true h1
    go_enter Try.func12, Try.ntmps12
    go_wp2_with (go_at_call 38; refine (awake_calls w).mono ?_; rintro e wa ⟨rfl, ba⟩)
    go_ret
    exact ⟨rfl, by assumption⟩
  have h1b : decide ((150 : Int) < (l0.length : Int)) = false := decide_eq_false h1
  have hl150 : l0.length ≤ 150 := by omega
  clear h1
  go_enter Try.func12, Try.ntmps12
  go_wp2_with (first
    | (go_at_call 38; refine (awake_calls w).mono ?_; rintro e wa ⟨rfl, ba⟩)
    | (go_at_call 39; refine (New_calls wa).mono ?_; rintro e wb ⟨rfl, hA, bb⟩))
  have hgl := At.lt hA
  have hg0 : w.heap.size ≤ wa.heap.size := ba.size
  have hD1 := below_alloc (Below.refl wb.heap.size wb) (.cells #[.slice none 0 0, .slice none 0 0] 63)
  have hD2 := below_alloc (Below.refl (wb.alloc (.cells #[.slice none 0 0, .slice none 0 0] 63)).heap.size (wb.alloc (.cells #[.slice none 0 0, .slice none 0 0] 63))) (.cells #[.int .i64 0, .int .i64 0] 64)
  have hsz := World.size_alloc wb (.cells #[.slice none 0 0, .slice none 0 0] 63)
  have hI : Iv w ((wb.alloc (.cells #[.slice none 0 0, .slice none 0 0] 63)).alloc (.cells #[.int .i64 0, .int .i64 0] 64)) wa.heap.size wb.heap.size (wb.heap.size + 1) [] [] 0 0 (.slice none 0 0) (.slice none 0 0) :=
    ⟨(hA.below hD1).below hD2, (((ba.trans (bb.mono hg0)).trans (hD1.mono (Nat.le_trans hg0 (Nat.le_of_lt hgl)))).trans (hD2.mono (by rw [hsz]; have := Nat.le_trans hg0 (Nat.le_of_lt hgl); omega))), ⟨(hD2.block _ (by rw [hsz]; omega)).trans (blk_new _ _), by rw [← hsz]; exact blk_new _ _, Kd.R_nil _ _ _ _ _, Kd.R_nil _ _ _ _ _⟩, by simp, by simp, by simp, by simp, hg0, Nat.le_trans hg0 (Nat.le_of_lt hgl)⟩
  clear hD1 hD2 hgl hA ba bb
  generalize wb.heap.size = gw at *
  generalize wa.heap.size = g at *
  go_loopg [6] l0.length (fun gg s6 wr => ∃ (i : Nat) (qs rs : Ps) (c d : Int) (v0 v1 : Value), i ≤ l0.length ∧ gg = l0.length - i ∧ s6 = .int .i64 i ∧ Iv w wr g gw (gw + 1) qs rs c d v0 v1)
  case atStart => exact ⟨0, [], [], 0, 0, _, _, Nat.zero_le _, rfl, rfl, hI⟩
  case round =>
    clear hI hsz hg0
    obtain ⟨i, qs, rs, c, d, v0, v1, hi, rfl, rfl, hI⟩ := hrel
    by_cases hlt : i < l0.length
    · have hltb : decide ((i : Int) < (l0.length : Int)) = true := decide_eq_true (by omega)
      obtain ⟨ad, Ab, cb, rfl, e0, e1, e2, e3, e4, e5, e6, hlb, hCb⟩ := at_T66 hC0 hI.bel (i : Int) (by omega) (by omega)
      have hx := HWF.out (rd_T66 l0 (i : Int)) (by unfold rd_T66; rw [Int.toNat_natCast, List.getD_eq_getElem?_getD, List.getElem?_eq_getElem hlt]; exact List.getElem_mem hlt)
      clear HWF
      generalize rd_T66 l0 (i : Int) = x at *
      obtain ⟨xs, xo, xt, xi, xa, xy, xb⟩ := x
      dsimp only at e0 e1 e2 e3 e4 e5 e6 hlb hCb hx
      simp only [Int.toNat_natCast] at e0 e1 e2 e3 e4 e5 e6
      have HI := Aside0.mk hI
      clear hI
      have HE := Aside0.mk (And.intro e0 (And.intro e1 (And.intro e2 (And.intro e3 (And.intro e4 (And.intro e5 e6))))))
      clear e0 e1 e2 e3 e4 e5 e6
      go_upto_block 1 with (fail)
      obtain ⟨e0, e1, e2, e3, e4, e5, e6⟩ := HE.out
      clear HE
      refine round_ HI.out hlt hlb hCb hx.2 hx.1 e0 e1 e2 e3 e4 e5 e6 ?_
      intro u2 u7 u8 u9 u10 u11 u12 u13 u14 u15 u16 u17 u18 u19 u20 u33 u34 u35 u36 u37 u38 u39 u40 u41 u42 u43 u44 u45 u46 u47 u48 u49 u50 u51 u52 u53 u54 u55 u56 u57 u58 u59 u60 u61 u62 u63 u64 u65 u66 u67 u68 u69 u70 u71 u72 u73 u74 u75 u76 u77 u78 u79 u80 u81 u82 u83 u84 u85 u86 u87 u88 u89 u90 u91 u92 u93 u94 u95 u96 u97 u98 u99 u100 u101 u102 u103 u104 u105 u106 u107 u108 u109 u110 u111 u112 u113 u114 u115 u116 u117 u118 u119 u120 u121 u122 u123 u124 u125 u126 u127 u128 u129 u130 u131 u132 u133 u134 u135 u136 u137 u138 u139 u140 u141 u142 u143 u144 u145 u146 u147 u148 u149 u150 u151 u152 u153 u154 u155 u156 u157 u158 u159 u160 u161 u162 u163 u164 u165 u166 u167 u168 u169 u170 u171 u172 u173 u174 u175 u176 u177 u178 u179 u180 u181 u182 u183 u184 u185 u186 u187 u188 u189 u190 u191 u192 u193 u194 u195 u196 u197 u198 u199 u200 u201 u202 u203 u204 u205 u206 u207 u208 u209 u210 u211 u212 u213 u214 u215 u216 u217 u218 u219 u220 u221 u222 u223 u224 u225 u226 u227 u228 u229 u230 u231 u232 u233 u234 u235 u236 u237 u238 u239 u240 u241 u242 u243 u244 u245 u246 u247 u248 u249 u250 u251 u252 u253 u254 u255 u256 u257 u258 u259 u260 u261 u262 u263 u264 u265 u266 u267 u268 u269 u270 u271 u272 u273 u274 u275 u276 u277 u278 u279 u280 u281 u282 u283 u284 u285 u286 u287 u288 u289 u290 u291 u292 u293 u294 u295 u296 u297 u298 u299 u300 u301 u302 u303 u304 u305 u306 u307 u308 u309 u310 u311 u312 u313 w' ⟨qs, rs, c, d, v0, v1, hI'⟩
      clear e0 e1 e2 e3 e4 e5 e6 HI hCb hx hlb
      refine (‹∀ (a : Act) (w' : World), Code.wp Try.prog _ _ a w' → _› : _) _ _ ?_
      have hwi : wrap64 ((i : Int) + 1) = ((i + 1 : Nat) : Int) := by unfold wrap64; omega
      go_wp2_with (fail)
      go_roundg (l0.length - (i + 1))
      case measure => omega
      case rel => exact ⟨i + 1, qs, rs, c, d, v0, v1, by omega, rfl, by first | (rw [hwi]) | (rw [hwi]; rfl) | go_num, hI'⟩
    · have hltb : decide ((i : Int) < (l0.length : Int)) = false := decide_eq_false (by omega)
      go_wp2_with (fail)
      go_ret
      exact ⟨by simp, hI.bel⟩
end Go.Proofs.Ytlaojndlelcdaaa.Nets
