/- Put together by pack2.py: LaidK, Shelf, Str, CmpS, Pth, PthPure, Own75, Ord -/
import Derived.Test.YtidlldfghkaeeaaGreatDoorCards
import Derived.Test.YtidlldfghkaeeaaGreatDoorTie
import Derived.WalkKit
import Derived.ProofKit
import Derived.OpenShut
import Derived.Deep.DeepHandedRow
import Derived.Lib.LaidTab
import Derived.Shelf.Strings.Trim
import Derived.Shelf.Strings.Search3
import Derived.Shelf.Strings.Count
import Derived.Shelf.Strings.LastIndex
import Derived.Shelf.Strings.Split
import Derived.Test.YtidlldfghkaeeaaGreatDoorProg
import Derived.Test.YtidlldfghkaeeaaGreatDoorZyW0
import Derived.Shelf.Strings.SlTrimAscii
import Derived.Lib.IndexBytes
import Derived.Lib.SplitLaws
import Derived.Lib.LastIndexByte
import Derived.Lib.SliceRun
import Derived.Deep.LoopGhost
import Derived.Laws.Slices
set_option linter.unusedVariables false
set_option linter.unusedSimpArgs false
set_option maxHeartbeats 8000000
set_option maxRecDepth 100000
section
namespace Go.Proofs.YtidlldfghkaeeaaGreatDoor.LaidK
open Go.ChangeShapes Go.WideShapes Go.ChangeAt Go.RowKit
def ranges : Array Value := #[128, 191, 160, 191, 128, 159, 144, 191, 128, 143, 0, 0, 0, 0, 0, 0, 0, 0, 0, 0, 0, 0, 0, 0, 0, 0, 0, 0, 0, 0, 0, 0].map fun n : Nat => Value.int .u8 (n : Int)
noncomputable def firsts : Array Value := (Go.Pinned.utf8FirstZ.map fun n : Nat => Value.int .u8 (n : Int)).toArray
noncomputable def put (cs : Array Value) : Obj → Obj
 | .cells _ t frozen => .cells cs t frozen
 | o => o
noncomputable def laidWorld (os : Os) : World :=
 { World.holding Tryz.prog os ⟨#[], #[], []⟩ with heap := ((World.holding Tryz.prog os ⟨#[], #[], []⟩).heap.modify 2 (put ranges)).modify 1 (put firsts) }
theorem laid_met (os : Os) (args : Array Value) : laidMet Tryz.prog Rows.treePlaysRow.laid ((laidWorld os).forCall (fun _ _ => 0) ⟨#[], args, []⟩).memory :=
 laidMet_of_run' 8 (by kernel_rfl) (by kernel_rfl)
end Go.Proofs.YtidlldfghkaeeaaGreatDoor.LaidK
end
section
namespace Go.Proofs
open Go.Shelf
def Tryz.lays160_ren : Go.Shelf.Ren := ⟨fun | 160 => 97 | 232 => 107 | 231 => 106 | 227 => 108 | 234 => 110 | 233 => 109 | 236 => 112 | 235 => 111 | 228 => 122 | 271 => 124 | 151 => 123 | 197 => 119 | 120 => 133 | 152 => 132 | 260 => 127 | 137 => 136 | 119 => 137 | 224 => 130 | 225 => 129 | 217 => 128 | 266 => 134 | n => n, fun | 9 => 9 | 4 => 4 | 3 => 3 | 5 => 5 | 117 => 141 | 116 => 140 | 0 => 0 | 124 => 144 | 21 => 21 | 105 => 147 | 46 => 136 | 119 => 157 | 139 => 160 | 138 => 159 | n => n, fun | 3 => 1 | 4 => 2 | n => n⟩
theorem Tryz.lays160 : Go.Proofs.Lays.n160 Tryz.prog Tryz.lays160_ren := {
 mixed := by kernel_rfl
 f119 := Tryz.func137.trans (congrArg some (by kernel_rfl))
 f120 := Tryz.func133.trans (congrArg some (by kernel_rfl))
 f137 := Tryz.func136.trans (congrArg some (by kernel_rfl))
 f151 := Tryz.func123.trans (congrArg some (by kernel_rfl))
 f152 := Tryz.func132.trans (congrArg some (by kernel_rfl))
 f160 := Tryz.func97.trans (congrArg some (by kernel_rfl))
 f197 := Tryz.func119.trans (congrArg some (by kernel_rfl))
 f217 := Tryz.func128.trans (congrArg some (by kernel_rfl))
 f224 := Tryz.func130.trans (congrArg some (by kernel_rfl))
 f225 := Tryz.func129.trans (congrArg some (by kernel_rfl))
 f227 := Tryz.func108.trans (congrArg some (by kernel_rfl))
 f228 := Tryz.func122.trans (congrArg some (by kernel_rfl))
 f231 := Tryz.func106.trans (congrArg some (by kernel_rfl))
 f232 := Tryz.func107.trans (congrArg some (by kernel_rfl))
 f233 := Tryz.func109.trans (congrArg some (by kernel_rfl))
 f234 := Tryz.func110.trans (congrArg some (by kernel_rfl))
 f235 := Tryz.func111.trans (congrArg some (by kernel_rfl))
 f236 := Tryz.func112.trans (congrArg some (by kernel_rfl))
 f260 := Tryz.func127.trans (congrArg some (by kernel_rfl))
 f266 := Tryz.func134.trans (congrArg some (by kernel_rfl))
 f271 := Tryz.func124.trans (congrArg some (by kernel_rfl))
 t0 := Tryz.underlying0
 a0 := Tryz.isAgg0
 z0 := Tryz.sizeOf0
 v0 := Tryz.zeroValue0
 t3 := Tryz.underlying3
 a3 := Tryz.isAgg3
 z3 := Tryz.sizeOf3
 v3 := Tryz.zeroValue3
 t4 := Tryz.underlying4
 a4 := Tryz.isAgg4
 z4 := Tryz.sizeOf4
 v4 := Tryz.zeroValue4
 t5 := Tryz.underlying5
 a5 := Tryz.isAgg5
 z5 := Tryz.sizeOf5
 v5 := Tryz.zeroValue5
 t9 := Tryz.underlying9
 a9 := Tryz.isAgg9
 z9 := Tryz.sizeOf9
 v9 := Tryz.zeroValue9
 t21 := Tryz.underlying21
 a21 := Tryz.isAgg21
 z21 := Tryz.sizeOf21
 v21 := Tryz.zeroValue21
 t46 := Tryz.underlying136
 a46 := Tryz.isAgg136
 z46 := Tryz.sizeOf136
 v46 := Tryz.zeroValue136
 t105 := Tryz.underlying147
 a105 := Tryz.isAgg147
 z105 := Tryz.sizeOf147
 v105 := Tryz.zeroValue147
 t116 := Tryz.underlying140
 a116 := Tryz.isAgg140
 z116 := Tryz.sizeOf140
 t117 := Tryz.underlying141
 a117 := Tryz.isAgg141
 z117 := Tryz.sizeOf141
 v117 := Tryz.zeroValue141
 t119 := Tryz.underlying157
 a119 := Tryz.isAgg157
 z119 := Tryz.sizeOf157
 t124 := Tryz.underlying144
 a124 := Tryz.isAgg144
 z124 := Tryz.sizeOf144
 v124 := Tryz.zeroValue144
 t138 := Tryz.underlying159
 a138 := Tryz.isAgg159
 z138 := Tryz.sizeOf159
 v138 := Tryz.zeroValue159
 t139 := Tryz.underlying160
 a139 := Tryz.isAgg160
 z139 := Tryz.sizeOf160
 v139 := Tryz.zeroValue160
 g3 := by kernel_rfl
 g4 := by kernel_rfl }
def Tryz.lays219_ren : Go.Shelf.Ren := ⟨fun | 219 => 121 | 217 => 128 | 225 => 129 | 224 => 130 | 267 => 131 | 266 => 134 | 314 => 135 | n => n, fun | 9 => 9 | 3 => 3 | 4 => 4 | 5 => 5 | 46 => 136 | 146 => 153 | 51 => 152 | n => n, fun | 1 => 0 | n => n⟩
def Tryz.lays143_ren : Go.Shelf.Ren := ⟨fun | 143 => 105 | 219 => 121 | 217 => 128 | 225 => 129 | 224 => 130 | 267 => 131 | 266 => 134 | 314 => 135 | n => n, fun | 9 => 9 | 3 => 3 | 4 => 4 | 5 => 5 | 46 => 136 | 146 => 153 | 51 => 152 | n => n, fun | 1 => 0 | n => n⟩
theorem Tryz.lays143 : Go.Proofs.Lays.n143 Tryz.prog Tryz.lays143_ren := {
 mixed := by kernel_rfl
 f143 := Tryz.func105.trans (congrArg some (by kernel_rfl))
 f217 := Tryz.func128.trans (congrArg some (by kernel_rfl))
 f219 := Tryz.func121.trans (congrArg some (by kernel_rfl))
 f224 := Tryz.func130.trans (congrArg some (by kernel_rfl))
 f225 := Tryz.func129.trans (congrArg some (by kernel_rfl))
 f266 := Tryz.func134.trans (congrArg some (by kernel_rfl))
 f267 := Tryz.func131.trans (congrArg some (by kernel_rfl))
 f314 := Tryz.func135.trans (congrArg some (by kernel_rfl))
 t3 := Tryz.underlying3
 a3 := Tryz.isAgg3
 z3 := Tryz.sizeOf3
 v3 := Tryz.zeroValue3
 t4 := Tryz.underlying4
 a4 := Tryz.isAgg4
 z4 := Tryz.sizeOf4
 v4 := Tryz.zeroValue4
 t5 := Tryz.underlying5
 a5 := Tryz.isAgg5
 z5 := Tryz.sizeOf5
 v5 := Tryz.zeroValue5
 t9 := Tryz.underlying9
 a9 := Tryz.isAgg9
 z9 := Tryz.sizeOf9
 v9 := Tryz.zeroValue9
 t46 := Tryz.underlying136
 a46 := Tryz.isAgg136
 z46 := Tryz.sizeOf136
 v46 := Tryz.zeroValue136
 t51 := Tryz.underlying152
 a51 := Tryz.isAgg152
 z51 := Tryz.sizeOf152
 v51 := Tryz.zeroValue152
 t146 := Tryz.underlying153
 a146 := Tryz.isAgg153
 z146 := Tryz.sizeOf153
 v146 := Tryz.zeroValue153
 g1 := by kernel_rfl }
def Tryz.lays138_ren : Go.Shelf.Ren := ⟨fun | 138 => 104 | 195 => 118 | 218 => 120 | 143 => 105 | 219 => 121 | 217 => 128 | 225 => 129 | 224 => 130 | 267 => 131 | 266 => 134 | 314 => 135 | n => n, fun | 9 => 9 | 3 => 3 | 4 => 4 | 5 => 5 | 0 => 0 | 46 => 136 | 146 => 153 | 51 => 152 | n => n, fun | 1 => 0 | n => n⟩
theorem Tryz.lays138 : Go.Proofs.Lays.n138 Tryz.prog Tryz.lays138_ren := {
 mixed := by kernel_rfl
 f138 := Tryz.func104.trans (congrArg some (by kernel_rfl))
 f143 := Tryz.func105.trans (congrArg some (by kernel_rfl))
 f195 := Tryz.func118.trans (congrArg some (by kernel_rfl))
 f217 := Tryz.func128.trans (congrArg some (by kernel_rfl))
 f218 := Tryz.func120.trans (congrArg some (by kernel_rfl))
 f219 := Tryz.func121.trans (congrArg some (by kernel_rfl))
 f224 := Tryz.func130.trans (congrArg some (by kernel_rfl))
 f225 := Tryz.func129.trans (congrArg some (by kernel_rfl))
 f266 := Tryz.func134.trans (congrArg some (by kernel_rfl))
 f267 := Tryz.func131.trans (congrArg some (by kernel_rfl))
 f314 := Tryz.func135.trans (congrArg some (by kernel_rfl))
 t0 := Tryz.underlying0
 a0 := Tryz.isAgg0
 z0 := Tryz.sizeOf0
 v0 := Tryz.zeroValue0
 t3 := Tryz.underlying3
 a3 := Tryz.isAgg3
 z3 := Tryz.sizeOf3
 v3 := Tryz.zeroValue3
 t4 := Tryz.underlying4
 a4 := Tryz.isAgg4
 z4 := Tryz.sizeOf4
 v4 := Tryz.zeroValue4
 t5 := Tryz.underlying5
 a5 := Tryz.isAgg5
 z5 := Tryz.sizeOf5
 v5 := Tryz.zeroValue5
 t9 := Tryz.underlying9
 a9 := Tryz.isAgg9
 z9 := Tryz.sizeOf9
 v9 := Tryz.zeroValue9
 t46 := Tryz.underlying136
 a46 := Tryz.isAgg136
 z46 := Tryz.sizeOf136
 v46 := Tryz.zeroValue136
 t51 := Tryz.underlying152
 a51 := Tryz.isAgg152
 z51 := Tryz.sizeOf152
 v51 := Tryz.zeroValue152
 t146 := Tryz.underlying153
 a146 := Tryz.isAgg153
 z146 := Tryz.sizeOf153
 v146 := Tryz.zeroValue153
 g1 := by kernel_rfl }
def Tryz.lays148_ren : Go.Shelf.Ren := ⟨fun | 148 => 100 | 222 => 114 | 223 => 115 | 269 => 126 | n => n, fun | 9 => 9 | 3 => 3 | 4 => 4 | 5 => 5 | 146 => 153 | 51 => 152 | 46 => 136 | n => n, fun | n => n⟩
theorem Tryz.lays148 : Go.Proofs.Lays.n148 Tryz.prog Tryz.lays148_ren := {
 mixed := by kernel_rfl
 f148 := Tryz.func100.trans (congrArg some (by kernel_rfl))
 f222 := Tryz.func114.trans (congrArg some (by kernel_rfl))
 f223 := Tryz.func115.trans (congrArg some (by kernel_rfl))
 f269 := Tryz.func126.trans (congrArg some (by kernel_rfl))
 t3 := Tryz.underlying3
 a3 := Tryz.isAgg3
 z3 := Tryz.sizeOf3
 v3 := Tryz.zeroValue3
 t4 := Tryz.underlying4
 a4 := Tryz.isAgg4
 z4 := Tryz.sizeOf4
 v4 := Tryz.zeroValue4
 t5 := Tryz.underlying5
 a5 := Tryz.isAgg5
 z5 := Tryz.sizeOf5
 v5 := Tryz.zeroValue5
 t9 := Tryz.underlying9
 a9 := Tryz.isAgg9
 z9 := Tryz.sizeOf9
 v9 := Tryz.zeroValue9
 t46 := Tryz.underlying136
 a46 := Tryz.isAgg136
 z46 := Tryz.sizeOf136
 v46 := Tryz.zeroValue136
 t51 := Tryz.underlying152
 a51 := Tryz.isAgg152
 z51 := Tryz.sizeOf152
 v51 := Tryz.zeroValue152
 t146 := Tryz.underlying153
 a146 := Tryz.isAgg153
 z146 := Tryz.sizeOf153
 v146 := Tryz.zeroValue153 }
def Tryz.lays221_ren : Go.Shelf.Ren := ⟨fun | 221 => 95 | 268 => 103 | 138 => 104 | 143 => 105 | 195 => 118 | 197 => 119 | 218 => 120 | 219 => 121 | 260 => 127 | 217 => 128 | 225 => 129 | 224 => 130 | 267 => 131 | 266 => 134 | 314 => 135 | n => n, fun | 9 => 9 | 3 => 3 | 31 => 52 | 4 => 4 | 0 => 0 | 105 => 147 | 21 => 21 | 5 => 5 | 46 => 136 | 119 => 157 | 139 => 160 | 138 => 159 | 146 => 153 | 51 => 152 | n => n, fun | 1 => 0 | 3 => 1 | 4 => 2 | n => n⟩
theorem Tryz.lays221 : Go.Proofs.Lays.n221 Tryz.prog Tryz.lays221_ren := {
 mixed := by kernel_rfl
 f138 := Tryz.func104.trans (congrArg some (by kernel_rfl))
 f143 := Tryz.func105.trans (congrArg some (by kernel_rfl))
 f195 := Tryz.func118.trans (congrArg some (by kernel_rfl))
 f197 := Tryz.func119.trans (congrArg some (by kernel_rfl))
 f217 := Tryz.func128.trans (congrArg some (by kernel_rfl))
 f218 := Tryz.func120.trans (congrArg some (by kernel_rfl))
 f219 := Tryz.func121.trans (congrArg some (by kernel_rfl))
 f221 := Tryz.func95.trans (congrArg some (by kernel_rfl))
 f224 := Tryz.func130.trans (congrArg some (by kernel_rfl))
 f225 := Tryz.func129.trans (congrArg some (by kernel_rfl))
 f260 := Tryz.func127.trans (congrArg some (by kernel_rfl))
 f266 := Tryz.func134.trans (congrArg some (by kernel_rfl))
 f267 := Tryz.func131.trans (congrArg some (by kernel_rfl))
 f268 := Tryz.func103.trans (congrArg some (by kernel_rfl))
 f314 := Tryz.func135.trans (congrArg some (by kernel_rfl))
 t0 := Tryz.underlying0
 a0 := Tryz.isAgg0
 z0 := Tryz.sizeOf0
 v0 := Tryz.zeroValue0
 t3 := Tryz.underlying3
 a3 := Tryz.isAgg3
 z3 := Tryz.sizeOf3
 v3 := Tryz.zeroValue3
 t4 := Tryz.underlying4
 a4 := Tryz.isAgg4
 z4 := Tryz.sizeOf4
 v4 := Tryz.zeroValue4
 t5 := Tryz.underlying5
 a5 := Tryz.isAgg5
 z5 := Tryz.sizeOf5
 v5 := Tryz.zeroValue5
 t9 := Tryz.underlying9
 a9 := Tryz.isAgg9
 z9 := Tryz.sizeOf9
 v9 := Tryz.zeroValue9
 t21 := Tryz.underlying21
 a21 := Tryz.isAgg21
 z21 := Tryz.sizeOf21
 v21 := Tryz.zeroValue21
 t31 := Tryz.underlying52
 a31 := Tryz.isAgg52
 z31 := Tryz.sizeOf52
 v31 := Tryz.zeroValue52
 t46 := Tryz.underlying136
 a46 := Tryz.isAgg136
 z46 := Tryz.sizeOf136
 v46 := Tryz.zeroValue136
 t51 := Tryz.underlying152
 a51 := Tryz.isAgg152
 z51 := Tryz.sizeOf152
 v51 := Tryz.zeroValue152
 t105 := Tryz.underlying147
 a105 := Tryz.isAgg147
 z105 := Tryz.sizeOf147
 v105 := Tryz.zeroValue147
 t119 := Tryz.underlying157
 a119 := Tryz.isAgg157
 z119 := Tryz.sizeOf157
 t138 := Tryz.underlying159
 a138 := Tryz.isAgg159
 z138 := Tryz.sizeOf159
 v138 := Tryz.zeroValue159
 t139 := Tryz.underlying160
 a139 := Tryz.isAgg160
 z139 := Tryz.sizeOf160
 v139 := Tryz.zeroValue160
 t146 := Tryz.underlying153
 a146 := Tryz.isAgg153
 z146 := Tryz.sizeOf153
 v146 := Tryz.zeroValue153
 g1 := by kernel_rfl
 g3 := by kernel_rfl
 g4 := by kernel_rfl }
end Go.Proofs
end
section
namespace Go.Proofs.YtidlldfghkaeeaaGreatDoor.P
open Go.RowKit Go.Proofs.YtidlldfghkaeeaaGreatDoorW.PrintWords Go.Proofs.YtidlldfghkaeeaaGreatDoorW.PrintLast Go.Proofs.YtidlldfghkaeeaaGreatDoorW.PrintMore
theorem sep_eq {a : ByteArray} (h : a.data = #[47]) : a = ⟨#[47]⟩ := by
 cases a
 subst h
 rfl
def strings_Contains.f (a0 a1 : ByteArray) : Option Bool := if a1.data = #[47] then some (decide (0 ≤ Lib.indexByte a0.data.toList 47)) else none
def strings_Count.f (a0 a1 : ByteArray) : Option Int := if a1.data = #[47] then some ((Lib.countByte a0.data.toList 47 : Nat) : Int) else none
def strings_LastIndex.f (a0 a1 : ByteArray) : Option Int := if a1.data = #[47] then if a0.size < 4611686018427387904 then some (Lib.lastIndexByte a0 47) else none else none
theorem strings_LastIndex.calls (a0 a1 : ByteArray) (r : Int) (w : World) (h : strings_LastIndex.f a0 a1 = some r) :
  Calls Tryz.prog 100 #[.string a0, .string a1] w fun e w' => e = .returned (.int .i64 r) ∧ Drawn0 w w' := by
 unfold strings_LastIndex.f at h
 split at h
 ·rename_i hs
  obtain rfl := sep_eq hs
  split at h
  ·rename_i hz
   obtain rfl := Option.some.inj h
   have c : Calls Tryz.prog 100 #[.string a0, .string ⟨#[47]⟩] w _ := Any.strings_LastIndex_one Tryz.lays148 a0 ⟨#[47]⟩ rfl hz w
   refine c.mono ?_
   rintro e w' ⟨rfl, rfl⟩
   exact ⟨rfl, Drawn0.refl _⟩
  ·cases h
 ·cases h
def strings_Trim.f (a0 a1 : ByteArray) : Option ByteArray := if a1.size < 4294967281 then if a0.size ≤ 9223372036854775807 then if a1.data.toList.all (fun b => decide (b.toNat < 128)) then some ⟨(Lib.trimS a0.data.toList a1.data.toList).toArray⟩ else none else none else none
theorem strings_Trim.calls (a0 a1 : ByteArray) (r : ByteArray) (w : World) (h : strings_Trim.f a0 a1 = some r) :
  Calls Tryz.prog 97 #[.string a0, .string a1] w fun e w' => e = .returned (.string r) ∧ Below w.heap.size w w' := by
 unfold strings_Trim.f at h
 split at h
 ·rename_i h1
  split at h
  ·rename_i h2
   split at h
   ·rename_i h3
    obtain rfl := Option.some.inj h
    have c : Calls Tryz.prog 97 #[.string a0, .string a1] w _ := Any.strings_Trim_laid Tryz.lays160 (by kernel_rfl) a0 a1 w h2 h1 (fun j b hj => of_decide_eq_true (List.all_eq_true.1 h3 b (List.mem_of_getElem? hj)))
    refine c.mono ?_
    rintro e w' ⟨rfl, hb⟩
    exact ⟨rfl, hb⟩
   ·cases h
  ·cases h
 ·cases h
def strings_Split.f (a0 a1 : ByteArray) : Option (List ByteArray) := if a1.data = #[47] then if a0.size < 4294967281 then some (Lib.splitB ⟨#[47]⟩ 0 (Lib.countB a0 ⟨#[47]⟩) a0) else none else none
theorem info9s : (Tryz.prog.info? 9).map (fun i => (i.zero, i.size, i.bytes)) = some (some (.string ByteArray.empty), 1, 16) := by kernel_rfl
theorem R_block {W : World} {b B : Nat} {xs : List ByteArray} (h : W.heap[b]? = some (.cells (xs.map Value.string).toArray 9 (0, 0))) (hB : B ≤ b) (hm : xs.length ≤ 9223372036854775807) :
  Kd.R Kd.string 9 W B (fun _ => True) (.slice (some ⟨b, 0, none⟩) xs.length xs.length) xs := by
 refine Kd.R_of_own (enc := Value.string) (h1 := fun _ => rfl) ?_ (fun _ _ => trivial)
 refine ⟨by simp [encs], .inr ⟨b, xs.length, (xs.map Value.string).toArray, rfl, hB, h, Nat.le_refl _, hm, by simp, by simp only [encs, Nat.mul_one]; rw [List.take_of_length_le (by simp)]⟩⟩
theorem strings_Split.calls (a0 a1 : ByteArray) (r : List ByteArray) (w : World) (h : strings_Split.f a0 a1 = some r) :
  Calls Tryz.prog 79 #[.string a0, .string a1] w fun e w' => ∃ v0_ : Value, e = .returned (v0_) ∧ Kd.R Kd.string 9 w' w.heap.size (fun _ => True) v0_ r ∧ Below w.heap.size w w' := by
 unfold strings_Split.f at h
 split at h
 ·rename_i hs
  obtain rfl := sep_eq hs
  split at h
  ·rename_i hz
   obtain rfl := Option.some.inj h
   have hle := Lib.countB_le ⟨#[47]⟩ (Nat.le_refl _) a0.size a0 (Nat.le_refl _)
   have hlen := Lib.splitB_all ⟨#[47]⟩ (Nat.le_refl _) 0 _ a0 rfl
   have hI : ∀ (x : ByteArray) (c : Array Value), x.size ≤ a0.size → Calls Tryz.prog 105 #[.string x, .string ⟨#[47]⟩] (w.alloc (.cells c 9)) fun e w' => e = .returned (.int .i64 (Lib.indexB x ⟨#[47]⟩)) ∧ w' = w.alloc (.cells c 9) := fun x c _ => by
    have c1 : Calls Tryz.prog 105 #[.string x, .string ⟨#[47]⟩] (w.alloc (.cells c 9)) _ := Any.strings_Index_one Tryz.lays143 x 47 _
    refine c1.mono ?_
    rintro e w' ⟨rfl, rfl⟩
    exact ⟨by rw [show Lib.indexB x ⟨#[47]⟩ = Lib.index x.data.toList [47] from rfl, Lib.index_one], rfl⟩
   have hC : Calls Tryz.prog 104 #[.string a0, .string ⟨#[47]⟩] w fun e w' => e = .returned (.int .i64 (Lib.countB a0 ⟨#[47]⟩)) ∧ w' = w := by
    have c1 : Calls Tryz.prog 104 #[.string a0, .string ⟨#[47]⟩] w _ := Any.strings_Count_one Tryz.lays138 a0 47 w
    refine c1.mono ?_
    rintro e w' ⟨rfl, rfl⟩
    exact ⟨by rw [show Lib.countB a0 ⟨#[47]⟩ = Lib.count a0.data.toList [47] from rfl, Lib.count_one]; rfl, rfl⟩
   have c : Calls Tryz.prog 95 #[.string a0, .string ⟨#[47]⟩, .int .i64 (0 : Nat), .int .i64 (-1)] w _ := Any.strings_genSplit_core Tryz.lays221 info9s a0 ⟨#[47]⟩ 0 (-1) (Lib.countB a0 ⟨#[47]⟩ + 1) w hz (Nat.le_refl _) (Nat.zero_le _) hI hC (by decide) (by decide) (by rw [if_pos (by decide)]; omega)
   rw [Nat.add_sub_cancel, hlen] at c
   have e2 : Lib.cellsOf (Lib.splitB ⟨#[47]⟩ 0 (Lib.countB a0 ⟨#[47]⟩) a0) (Lib.countB a0 ⟨#[47]⟩ + 1) = ((Lib.splitB ⟨#[47]⟩ 0 (Lib.countB a0 ⟨#[47]⟩) a0).map Value.string).toArray := by rw [← hlen]; exact Lib.cellsOf_full _
   rw [e2] at c
   replace c : Calls Tryz.prog 95 #[.string a0, .string ⟨#[47]⟩, .int .i64 (0 : Nat), .int .i64 (-1)] w fun e w' => e = .returned (.slice (some ⟨w.heap.size, 0, none⟩) (Lib.countB a0 ⟨#[47]⟩ + 1) (Lib.countB a0 ⟨#[47]⟩ + 1)) ∧ w' = w.alloc (.cells ((Lib.splitB ⟨#[47]⟩ 0 (Lib.countB a0 ⟨#[47]⟩) a0).map Value.string).toArray 9) := c
   have hR := R_block (W := w.alloc (.cells ((Lib.splitB ⟨#[47]⟩ 0 (Lib.countB a0 ⟨#[47]⟩) a0).map Value.string).toArray 9)) (b := w.heap.size) (B := w.heap.size) (xs := Lib.splitB ⟨#[47]⟩ 0 (Lib.countB a0 ⟨#[47]⟩) a0) (blk_new _ _) (Nat.le_refl _) (by rw [hlen]; omega)
   rw [hlen] at hR
   have hb := below_alloc (Below.refl w.heap.size w) (.cells ((Lib.splitB ⟨#[47]⟩ 0 (Lib.countB a0 ⟨#[47]⟩) a0).map Value.string).toArray 9)
   generalize Lib.splitB ⟨#[47]⟩ 0 (Lib.countB a0 ⟨#[47]⟩) a0 = ps at *
   generalize w.alloc (.cells (ps.map Value.string).toArray 9) = w2 at *
   clear hI hC e2 hlen hle hs h hz
   go_enter Tryz.func79, Tryz.ntmps79
   go_wp2_with (go_at_call 95; refine c.mono ?_; rintro e w' ⟨rfl, rfl⟩)
   go_ret
   exact ⟨_, rfl, hR, hb⟩
  ·cases h
 ·cases h
theorem bl_irr : ∀ a : List UInt8, Op.bytesLess a a = false
 | [] => rfl
 | b :: l => by simp [Op.bytesLess, bl_irr l]
theorem bl_tot : ∀ a b : List UInt8, Op.bytesLess a b = false → Op.bytesLess b a = false → a = b
 | [], [], _, _ => rfl
 | [], b :: y, h, _ => by simp [Op.bytesLess] at h
 | a :: x, [], _, h => by simp [Op.bytesLess] at h
 | a :: x, b :: y, h1, h2 => by
  simp only [Op.bytesLess, Bool.or_eq_false_iff, decide_eq_false_iff_not, Bool.and_eq_false_iff, beq_eq_false_iff_ne] at h1 h2
  have e : a = b := UInt8.le_antisymm (UInt8.not_lt.1 h2.1) (UInt8.not_lt.1 h1.1)
  subst e
  rw [bl_tot x y (h1.2.resolve_left (fun h => h rfl)) (h2.2.resolve_left (fun h => h rfl))]
theorem bl_trans : ∀ a b c : List UInt8, Op.bytesLess a b = true → Op.bytesLess b c = true → Op.bytesLess a c = true
 | _, [], _, h, _ => by simp [Op.bytesLess] at h
 | _, _ :: _, [], _, h => by simp [Op.bytesLess] at h
 | [], _ :: _, _ :: _, _, _ => rfl
 | a :: x, b :: y, c :: z, h1, h2 => by
  simp only [Op.bytesLess, Bool.or_eq_true, decide_eq_true_eq, Bool.and_eq_true, beq_iff_eq] at h1 h2 ⊢
  rcases h1 with h1 | ⟨rfl, h1⟩
  ·rcases h2 with h2 | ⟨rfl, h2⟩
   ·exact .inl (UInt8.lt_trans h1 h2)
   ·exact .inl h1
  ·rcases h2 with h2 | ⟨rfl, h2⟩
   ·exact .inl h2
   ·exact .inr ⟨rfl, bl_trans x y z h1 h2⟩
theorem isNaN_calls (s : ByteArray) (w : World) : Calls Tryz.prog 116 #[.string s] w fun e w' => e = .returned (.bool false) ∧ w' = w := by
 go_enter Tryz.func116, Tryz.ntmps116
 go_wp2
 go_ret
 exact ⟨by simp, rfl⟩
theorem gtr_ (a0 a1 : ByteArray) (W : World) : Sem.run Tryz.prog (binOp .gtr 9 (.string a0) (.string a1)) W = Result.ok (.bool (Op.bytesLess a1.toList a0.toList)) W := by
 have e : Sem.run Tryz.prog (binOp .gtr 9 (.string a0) (.string a1)) W = Result.ok (.bool (!(Op.bytesLess a0.toList a1.toList || a0.toList == a1.toList))) W := rfl
 rw [e]
 congr 2
 cases h1 : Op.bytesLess a0.toList a1.toList with
 | true =>
  cases h2 : Op.bytesLess a1.toList a0.toList with
  | false => rfl
  | true =>
   have := bl_trans _ _ _ h1 h2
   rw [bl_irr] at this
   cases this
 | false =>
  cases h2 : Op.bytesLess a1.toList a0.toList with
  | false =>
   rw [bl_tot _ _ h1 h2]
   simp
  | true =>
   have hne : ¬ a0.toList = a1.toList := fun e => by
    rw [e, bl_irr] at h2
    cases h2
   simp [hne]
def cmp_Compare_string.f (a0 a1 : ByteArray) : Option Int := some (if Op.bytesLess a0.toList a1.toList = true then -1 else if Op.bytesLess a1.toList a0.toList = true then 1 else 0)
theorem cmp_Compare_string.calls (a0 a1 : ByteArray) (r : Int) (w : World) (h : cmp_Compare_string.f a0 a1 = some r) :
  Calls Tryz.prog 101 #[.string a0, .string a1] w fun e w' => e = .returned (.int .i64 r) ∧ Drawn0 w w' := by
 have h := Option.some.inj h
 have hgt := gtr_ a0 a1
 cases h1 : Op.bytesLess a0.toList a1.toList with
 | true =>
  rw [h1, if_pos rfl] at h
  subst h
  go_enter Tryz.func101, Tryz.ntmps101
  go_wp2_with (go_at_call 116; refine (isNaN_calls _ _).mono ?_; rintro e w' ⟨rfl, rfl⟩)
  go_ret
  exact ⟨rfl, Drawn0.refl _⟩
 | false =>
  rw [h1, if_neg (by decide)] at h
  cases h2 : Op.bytesLess a1.toList a0.toList with
  | true =>
   rw [h2, if_pos rfl] at h
   subst h
   go_enter Tryz.func101, Tryz.ntmps101
   go_wp2_with (go_at_call 116; refine (isNaN_calls _ _).mono ?_; rintro e w' ⟨rfl, rfl⟩)
   go_ret
   exact ⟨rfl, Drawn0.refl _⟩
  | false =>
   rw [h2, if_neg (by decide)] at h
   subst h
   go_enter Tryz.func101, Tryz.ntmps101
   go_wp2_with (go_at_call 116; refine (isNaN_calls _ _).mono ?_; rintro e w' ⟨rfl, rfl⟩)
   go_ret
   exact ⟨rfl, Drawn0.refl _⟩
def letters_ : ByteArray := ⟨#[97, 98, 99, 100, 101, 102, 103, 104, 105, 106, 107, 108, 109, 110, 111, 112, 113, 114, 115, 116, 117, 118, 119, 120, 121, 122, 48, 49, 50, 51, 52, 53, 54, 55, 56, 57, 46, 45, 95]⟩
def trimmed (s : ByteArray) : ByteArray := ⟨(Lib.trimS s.data.toList letters_.data.toList).toArray⟩
theorem Trim_letters (s : ByteArray) (w : World) (hs : s.size ≤ 9223372036854775807) : Calls Tryz.prog 97 #[.string s, .string letters_] w fun e w' => e = .returned (.string (trimmed s)) ∧ Below w.heap.size w w' :=
 strings_Trim.calls s letters_ (trimmed s) w (by unfold strings_Trim.f; rw [if_pos (by decide), if_pos hs, if_pos (by decide)]; rfl)
def GN (s : ByteArray) : Prop := s.toList ≠ [] ∧ (s.size : Int) ≤ 16 ∧ s.toList ≠ [46] ∧ s.toList ≠ [46, 46] ∧ (trimmed s).toList = []
instance (s : ByteArray) : Decidable (GN s) := by unfold GN; exact inferInstance
set_option maxHeartbeats 4000000 in
theorem goodName_calls (s : ByteArray) (w : World) (hs : s.size ≤ 9223372036854775807) : Calls Tryz.prog 82 #[.string s] w fun e w' => e = .returned (.bool (decide (GN s))) ∧ Below w.heap.size w w' := by
 have hT := fun w => Trim_letters s w hs
 unfold letters_ at hT
 generalize htr : trimmed s = tr at hT
 have HT := Aside0.mk htr
 clear htr
 go_enter Tryz.func82, Tryz.ntmps82
 go_wp2_with (go_at_call 97; refine (hT _).mono ?_; rintro e w' ⟨rfl, hb⟩)
 all_goals go_ret
 all_goals have htr := HT.out
 all_goals refine ⟨?_, by first | exact Below.refl _ _ | assumption⟩
 all_goals (simp [GN, htr, *] <;> first | omega | (rw [Bool.eq_iff_iff]; simp [*]))
theorem Good1_calls (s : ByteArray) (w : World) (hs : s.size ≤ 9223372036854775807) : Calls Tryz.prog 81 #[.string s] w fun e w' => e = .returned (.bool (!decide (GN s))) ∧ Below w.heap.size w w' := by
 go_enter Tryz.func81, Tryz.ntmps81
 go_wp2_with (go_at_call 82; refine (goodName_calls s _ hs).mono ?_; rintro e w' ⟨rfl, hb⟩)
 go_ret
 exact ⟨rfl, by assumption⟩
set_option maxHeartbeats 4000000 in
theorem IndexGood_calls (A : Option Addr) (c : Nat) (ps : List ByteArray) (w : World) (hC : Kd.string.C w A ps.length ps) (hl : ps.length ≤ 9223372036854775807) (hs : ∀ x ∈ ps, x.size ≤ 9223372036854775807) :
  Calls Tryz.prog 96 #[.slice A ps.length c, .func (.func 81) #[] #[]] w fun e w' => ∃ r : Int, e = .returned (.int .i64 r) ∧ (0 ≤ r ↔ ∃ x ∈ ps, ¬ GN x) ∧ Below w.heap.size w w' := by
 have HS := Aside0.mk hs
 clear hs
 have HL := Aside0.mk hl
 clear hl
 go_enter Tryz.func96, Tryz.ntmps96
 go_wp2_with (fail)
 go_loopg [5, 8] ps.length (fun gg s5 s8 wr => ∃ i : Nat, i ≤ ps.length ∧ gg = ps.length - i ∧ s8 = .int .i64 i ∧ (∀ x ∈ ps.take i, GN x) ∧ Below w.heap.size w wr)
 case atStart => exact ⟨0, Nat.zero_le _, rfl, rfl, by simp, Below.refl _ _⟩
 case round =>
  obtain ⟨i, hi, rfl, rfl, hg, hb⟩ := hrel
  by_cases a : i < ps.length
  ·have a1 : decide ((i : Int) < (ps.length : Int)) = true := decide_eq_true (by omega)
   obtain ⟨ad, cs, rfl, hcl, hK, hc0⟩ := Kd.C_get (Kd.C_below hC hb) (ByteArray.empty) (i : Int) (by omega) (by omega)
   have hx : ps.getD i ByteArray.empty = ps[i] := by rw [List.getD_eq_getElem?_getD, List.getElem?_eq_getElem a]; rfl
   rw [Int.toNat_natCast, hx] at hK
   rw [Int.toNat_natCast] at hc0
   have hmem : ps[i] ∈ ps := List.getElem_mem a
   have htake : ∀ x ∈ ps.take (i + 1), x ∈ ps.take i ∨ x = ps[i] := fun x hx => by
    rw [List.take_add_one, List.getElem?_eq_getElem a, List.mem_append] at hx
    simpa using hx
   generalize ps[i] = x at *
   obtain rfl : cs = [.string x] := hK
   have c0 := hc0 0 _ rfl
   rw [show Kd.string.sz = 1 from rfl, Nat.mul_one, Nat.add_zero] at c0
   have hsx := HS.out x hmem
   have HG := Aside0.mk hg
   clear hg hc0 hcl
   have hP := fun W => Good1_calls x W hsx
   have HT := Aside0.mk htake
   clear htake
   by_cases hx : GN x
   ·have hxb : decide (GN x) = true := decide_eq_true hx
    simp only [hxb] at hP
    go_wp2_with (go_at_call 81; refine (hP _).mono ?_; rintro e w2 ⟨rfl, hb2⟩)
    go_roundg (ps.length - (i + 1))
    case measure => omega
    case rel =>
     have hl := HL.out
     have hw : wrap64 ((i : Int) + 1) = ((i + 1 : Nat) : Int) := by unfold wrap64; omega
     exact ⟨i + 1, by omega, rfl, by first | (rw [hw]) | go_num, fun y hy => (HT.out y hy).elim (HG.out y) (fun e => e ▸ hx), hb.trans (hb2.mono hb.size)⟩
   ·have hxb : decide (GN x) = false := decide_eq_false hx
    simp only [hxb] at hP
    go_wp2_with (go_at_call 81; refine (hP _).mono ?_; rintro e w2 ⟨rfl, hb2⟩)
    go_ret
    exact ⟨_, rfl, ⟨fun _ => ⟨x, hmem, hx⟩, fun _ => by omega⟩, hb.trans (hb2.mono hb.size)⟩
  ·have a1 : decide ((i : Int) < (ps.length : Int)) = false := decide_eq_false (by omega)
   go_wp2_with (fail)
   go_ret
   refine ⟨_, rfl, ⟨fun h => absurd h (by decide), fun ⟨x, hx, hn⟩ => absurd (hg x ?_) hn⟩, hb⟩
   rw [List.take_of_length_le (by omega)]
   exact hx
instance (ps : List ByteArray) : Decidable (∃ x ∈ ps, ¬ GN x) := decidable_of_iff (ps.any (fun x => !decide (GN x)) = true) (by simp)
theorem ContainsGood_calls (A : Option Addr) (c : Nat) (ps : List ByteArray) (w : World) (hC : Kd.string.C w A ps.length ps) (hl : ps.length ≤ 9223372036854775807) (hs : ∀ x ∈ ps, x.size ≤ 9223372036854775807) :
  Calls Tryz.prog 80 #[.slice A ps.length c, .func (.func 81) #[] #[]] w fun e w' => e = .returned (.bool (decide (∃ x ∈ ps, ¬ GN x))) ∧ Below w.heap.size w w' := by
 have hI := IndexGood_calls A c ps w hC hl hs
 clear hC hl hs
 by_cases hx : ∃ x ∈ ps, ¬ GN x
 ·have hxb : decide (∃ x ∈ ps, ¬ GN x) = true := decide_eq_true hx
  rw [hxb]
  have HX := Aside0.mk hx
  clear hx hxb
  go_enter Tryz.func80, Tryz.ntmps80
  go_wp2_with (go_at_call 96; refine hI.mono ?_; rintro e w2 ⟨r, rfl, hr, hb2⟩; have hr2 : decide ((0 : Int) ≤ r) = true := decide_eq_true (hr.2 HX.out); clear hr)
  go_ret
  exact ⟨rfl, by assumption⟩
 ·have hxb : decide (∃ x ∈ ps, ¬ GN x) = false := decide_eq_false hx
  rw [hxb]
  have HX := Aside0.mk hx
  clear hx hxb
  go_enter Tryz.func80, Tryz.ntmps80
  go_wp2_with (go_at_call 96; refine hI.mono ?_; rintro e w2 ⟨r, rfl, hr, hb2⟩; have hr2 : decide ((0 : Int) ≤ r) = false := decide_eq_false (fun h => HX.out (hr.1 h)); clear hr)
  go_ret
  exact ⟨rfl, by assumption⟩
def GPieces (ps : List ByteArray) : Prop := ps.length ≤ 4 ∧ ∀ x ∈ ps, GN x
instance (ps : List ByteArray) : Decidable (GPieces ps) := by unfold GPieces; exact inferInstance
theorem splitB_size (sep : ByteArray) : ∀ (k : Nat) (s : ByteArray), ∀ x ∈ Lib.splitB sep 0 k s, x.size ≤ s.size
 | 0, s, x, h => by
  rw [Lib.splitB_zero, List.mem_singleton] at h
  rw [h]
  exact Nat.le_refl _
 | k + 1, s, x, h => by
  unfold Lib.splitB at h
  split at h
  ·rw [List.mem_singleton] at h
   rw [h]
   exact Nat.le_refl _
  ·rcases List.mem_cons.1 h with h | h
   ·rw [h, ByteArray.size_extract]
    omega
   ·have := splitB_size sep k _ x h
    rw [ByteArray.size_extract] at this
    omega
def pieces (s : ByteArray) : List ByteArray := Lib.splitB ⟨#[47]⟩ 0 (Lib.countB s ⟨#[47]⟩) s
def path_Good.f (a0 : ByteArray) : Option Bool := if a0.size < 4294967281 then some (decide (GPieces (pieces a0))) else none
set_option maxHeartbeats 4000000 in
theorem path_Good.calls (a0 : ByteArray) (r : Bool) (w : World) (h : path_Good.f a0 = some r) :
  Calls Tryz.prog 46 #[.string a0] w fun e w' => e = .returned (.bool r) ∧ Below w.heap.size w w' := by
 unfold path_Good.f at h
 split at h
 ·rename_i hz
  obtain rfl := Option.some.inj h
  clear h
  have hS := strings_Split.calls a0 ⟨#[47]⟩ (pieces a0) w (by unfold strings_Split.f; rw [if_pos rfl, if_pos hz]; rfl)
  have hsz : ∀ x ∈ pieces a0, x.size ≤ 9223372036854775807 := fun x hx => by
   have := splitB_size _ _ _ x hx
   omega
  have HS := Aside0.mk hsz
  clear hsz
  generalize pieces a0 = ps at *
  by_cases h4 : (4 : Int) < (ps.length : Int)
  ·have h4b : decide ((4 : Int) < (ps.length : Int)) = true := decide_eq_true h4
   have hg : decide (GPieces ps) = false := decide_eq_false (fun h => by have := h.1; omega)
   rw [hg]
   clear hg
   go_enter Tryz.func46, Tryz.ntmps46
   go_wp2_with (go_at_call 79; refine hS.mono ?_; rintro e w2 ⟨v, rfl, hR, hb⟩; obtain ⟨A, c, rfl, hc, hC⟩ := Kd.R_reads hR)
   go_ret
   exact ⟨rfl, by assumption⟩
  ·have h4b : decide ((4 : Int) < (ps.length : Int)) = false := decide_eq_false h4
   go_enter Tryz.func46, Tryz.ntmps46
   go_wp2_with (first
    | (go_at_call 79; refine hS.mono ?_; rintro e w2 ⟨v, rfl, hR, hb⟩; obtain ⟨A, c, rfl, hc, hC⟩ := Kd.R_reads hR)
    | (go_at_call 80; refine (ContainsGood_calls A c ps w2 hC (by omega) HS.out).mono ?_; rintro e w3 ⟨rfl, hb3⟩))
   go_ret
   refine ⟨?_, hb.trans (hb3.mono hb.size)⟩
   suffices e : decide (GPieces ps) = !decide (∃ x ∈ ps, ¬ GN x) by rw [e]; rfl
   rw [Bool.eq_iff_iff]
   simp only [decide_eq_true_eq, Bool.not_eq_true', decide_eq_false_iff_not, not_exists, not_and, Decidable.not_not]
   exact ⟨fun h x hx => h.2 x hx, fun h => ⟨by omega, h⟩⟩
 ·cases h
end Go.Proofs.YtidlldfghkaeeaaGreatDoor.P
end
section
namespace Go.Proofs.YtidlldfghkaeeaaGreatDoor.P
open Go.RowKit
def sp : List UInt8 → List (List UInt8)
 | [] => [[]]
 | b :: l => if b = 47 then [] :: sp l else match sp l with
  | [] => [[b]]
  | x :: xs => (b :: x) :: xs
theorem sp_ne : ∀ l, sp l ≠ []
 | [] => by simp [sp]
 | b :: l => by
  unfold sp
  split
  ·simp
  ·split <;> simp
theorem sp_slash (l : List UInt8) : sp (47 :: l) = [] :: sp l := by simp [sp]
theorem sp_cons {b : UInt8} {l x : List UInt8} {xs : List (List UInt8)} (h : b ≠ 47) (e : sp l = x :: xs) : sp (b :: l) = (b :: x) :: xs := by
 unfold sp
 rw [if_neg h, e]
theorem sp_app : ∀ (p x : List UInt8), sp (p ++ 47 :: x) = sp p ++ sp x
 | [], x => by rw [List.nil_append, sp_slash]; rfl
 | b :: p, x => by
  by_cases h : b = 47
  ·subst h
   rw [List.cons_append, sp_slash, sp_slash, sp_app p x]
   rfl
  ·obtain ⟨y, ys, e⟩ := List.exists_cons_of_ne_nil (sp_ne p)
   rw [List.cons_append, sp_cons h (x := y) (xs := ys ++ sp x) (by rw [sp_app p x, e]; rfl), sp_cons h e]
   rfl
theorem sp_none : ∀ (x : List UInt8), 47 ∉ x → sp x = [x]
 | [], _ => rfl
 | b :: x, h => by
  have hb : b ≠ 47 := fun e => h (by rw [e]; exact List.mem_cons_self)
  exact sp_cons hb (sp_none x (fun hm => h (List.mem_cons_of_mem _ hm)))
theorem sp_mem : ∀ (l x : List UInt8), x ∈ sp l → 47 ∉ x
 | [], x, h => by
  have : x = [] := by simpa [sp] using h
  rw [this]
  simp
 | b :: l, x, h => by
  by_cases hb : b = 47
  ·subst hb
   rw [sp_slash] at h
   rcases List.mem_cons.1 h with h | h
   ·rw [h]; simp
   ·exact sp_mem l x h
  ·obtain ⟨y, ys, e⟩ := List.exists_cons_of_ne_nil (sp_ne l)
   rw [sp_cons hb e] at h
   rcases List.mem_cons.1 h with h | h
   ·rw [h]
    have := sp_mem l y (by rw [e]; exact List.mem_cons_self)
    intro hm
    rcases List.mem_cons.1 hm with hm | hm
    ·exact hb hm.symm
    ·exact this hm
   ·exact sp_mem l x (by rw [e]; exact List.mem_cons_of_mem _ h)
theorem sp_len : ∀ l : List UInt8, (sp l).length = l.count 47 + 1
 | [] => rfl
 | b :: l => by
  by_cases hb : b = 47
  ·subst hb
   rw [sp_slash, List.length_cons, sp_len l, List.count_cons_self]
  ·obtain ⟨y, ys, e⟩ := List.exists_cons_of_ne_nil (sp_ne l)
   have := sp_len l
   rw [e] at this
   rw [sp_cons hb e, List.count_cons_of_ne (by simpa using hb), ← this]
   rfl
theorem indexByte_none {l : List UInt8} {c : UInt8} : Lib.indexByte l c = -1 ↔ c ∉ l := by
 induction l with
 | nil => simp [Lib.indexByte]
 | cons b l ih =>
  unfold Lib.indexByte
  have hge := Lib.indexByte_ge l c
  by_cases h : b = c
  ·subst h
   simp
  ·rw [if_neg (by simpa using h)]
   split
   ·rename_i h2
    rw [List.mem_cons]
    have := ih.1 (beq_iff_eq.1 h2)
    simp [this, Ne.symm h]
   ·rename_i h2
    have : Lib.indexByte l c ≠ -1 := fun e => h2 (beq_iff_eq.2 e)
    have h3 : ¬ c ∉ l := fun hn => this (ih.2 hn)
    rw [Decidable.not_not] at h3
    simp [h3]
    omega
theorem splitK_sp : ∀ l : List UInt8, Lib.splitK [47] 0 (l.count 47) l = sp l
 | [] => rfl
 | b :: l => by
  have ih := splitK_sp l
  by_cases hb : b = 47
  ·subst hb
   rw [List.count_cons_self, sp_slash, Lib.splitK, Lib.index_one, Lib.indexByte]
   simp [ih]
  ·rw [List.count_cons_of_ne (by simpa using hb)]
   have hge := Lib.indexByte_ge l 47
   by_cases h0 : 47 ∈ l
   ·obtain ⟨k, hk⟩ : ∃ k, l.count 47 = k + 1 := ⟨l.count 47 - 1, by have := List.count_pos_iff.2 h0; omega⟩
    have hi : Lib.indexByte l 47 ≠ -1 := fun e => (indexByte_none.1 e) h0
    obtain ⟨j, hj⟩ : ∃ j : Nat, Lib.indexByte l 47 = j := ⟨(Lib.indexByte l 47).toNat, by omega⟩
    rw [hk] at ih ⊢
    rw [Lib.splitK, Lib.index_one, hj, if_neg (fun h_ => by have := beq_iff_eq.1 h_; omega)] at ih
    have hx : Lib.indexByte (b :: l) 47 = ((j + 1 : Nat) : Int) := by
     rw [Lib.indexByte, if_neg (by simpa using hb), hj, if_neg (fun h_ => by have := beq_iff_eq.1 h_; omega)]
     rfl
    rw [Lib.splitK, Lib.index_one, hx, if_neg (fun h_ => by have := beq_iff_eq.1 h_; omega), sp_cons hb ih.symm]
    simp only [Int.toNat_natCast, Nat.add_zero, List.take_succ_cons, List.length_cons, List.length_nil, Nat.zero_add, List.drop_succ_cons]
   ·have hk : l.count 47 = 0 := List.count_eq_zero.2 h0
    rw [hk] at ih ⊢
    rw [Lib.splitK] at ih ⊢
    rw [sp_cons hb ih.symm]
theorem pieces_sp (s : ByteArray) : (pieces s).map (·.data.toList) = sp s.data.toList := by
 unfold pieces
 rw [Lib.splitB_data, show Lib.countB s ⟨#[47]⟩ = Lib.count s.data.toList [47] from rfl, Lib.count_one]
 exact splitK_sp _
def Nm (x : List UInt8) : Prop := x ≠ [] ∧ x.length ≤ 16 ∧ x ≠ [46] ∧ x ≠ [46, 46] ∧ ∀ b ∈ x, b ∈ letters_.data.toList
instance (x : List UInt8) : Decidable (Nm x) := by unfold Nm; exact inferInstance
def Gd (l : List UInt8) : Prop := (sp l).length ≤ 4 ∧ ∀ x ∈ sp l, Nm x
instance (l : List UInt8) : Decidable (Gd l) := by unfold Gd; exact inferInstance
theorem dropWhile_all {p : UInt8 → Bool} : ∀ {l : List UInt8}, l.dropWhile p = [] ↔ ∀ b ∈ l, p b = true
 | [] => by simp
 | b :: l => by
  rw [List.dropWhile_cons]
  split
  ·rename_i h
   rw [dropWhile_all]
   simp [h]
  ·rename_i h
   simp [h]
theorem trimS_nil {l cs : List UInt8} : Lib.trimS l cs = [] ↔ ∀ b ∈ l, b ∈ cs := by
 unfold Lib.trimS Lib.trimLeftS Lib.trimRightS
 rw [dropWhile_all]
 constructor
 ·intro h
  by_cases h0 : l.reverse.dropWhile (cs.contains ·) = []
  ·have := dropWhile_all.1 h0
   intro b hb
   simpa using this b (List.mem_reverse.2 hb)
  ·exfalso
   have h1 := List.head_dropWhile_not (p := (cs.contains ·)) (l := l.reverse) h0
   have h2 := h _ (List.mem_reverse.2 (List.head_mem h0))
   simp at h1 h2
   exact h1 h2
 ·intro h b hb
  have : b ∈ l := by
   rw [List.mem_reverse] at hb
   exact List.mem_reverse.1 ((List.dropWhile_sublist _).subset hb)
  simpa using h b this
theorem GN_iff (s : ByteArray) : GN s ↔ Nm s.data.toList := by
 unfold GN Nm trimmed
 rw [Lib.toList_data, Lib.toList_data, show (⟨(Lib.trimS s.data.toList letters_.data.toList).toArray⟩ : ByteArray).data.toList = Lib.trimS s.data.toList letters_.data.toList from rfl, trimS_nil]
 have : s.size = s.data.toList.length := by rw [Array.length_toList]; rfl
 rw [this]
 constructor
 ·rintro ⟨a, b, c, d, e⟩
  exact ⟨a, by omega, c, d, e⟩
 ·rintro ⟨a, b, c, d, e⟩
  exact ⟨a, by omega, c, d, e⟩
theorem GPieces_iff (s : ByteArray) : GPieces (pieces s) ↔ Gd s.data.toList := by
 unfold GPieces Gd
 rw [← pieces_sp, List.length_map]
 constructor
 ·rintro ⟨a, b⟩
  refine ⟨a, fun x hx => ?_⟩
  obtain ⟨y, hy, rfl⟩ := List.mem_map.1 hx
  exact (GN_iff y).1 (b y hy)
 ·rintro ⟨a, b⟩
  exact ⟨a, fun x hx => (GN_iff x).2 (b _ (List.mem_map.2 ⟨x, hx, rfl⟩))⟩
theorem Good_eq {s : ByteArray} (h : s.size < 4294967281) : path_Good.f s = some (decide (Gd s.data.toList)) := by
 unfold path_Good.f
 rw [if_pos h]
 congr 1
 rw [decide_eq_decide]
 exact GPieces_iff s
end Go.Proofs.YtidlldfghkaeeaaGreatDoor.P
end
section
namespace Go.Proofs.YtidlldfghkaeeaaGreatDoor.P
open Go.RowKit Go.Proofs.YtidlldfghkaeeaaGreatDoorW.PrintWords Go.Proofs.YtidlldfghkaeeaaGreatDoorW.PrintLast Go.Proofs.YtidlldfghkaeeaaGreatDoorW.PrintMore
attribute [local go_sem] max2_int min2_int max_two min_two max_three min_three max_four min_four
theorem info9o : (Tryz.prog.info? 9).map (fun i => (i.zero, i.size, i.bytes)) = some (some (.string ⟨#[]⟩), 1, 16) := by kernel_rfl
def slices_Compare_string_string.l0 : Nat → List ByteArray → List ByteArray → List ByteArray → Int → Int → Option (Int)
 | 0, _, _, _, _, _ => none
 | k + 1, x0, x1, x9, x10, x11 => if x11 < x10 then (if 0 ≤ x11 then (if x11 < (x9.length : Int) then (if x11 ≥ (x1.length : Int) then (some 1) else (if x11 < (x1.length : Int) then ((cmp_Compare_string.f (rdOf ByteArray.empty x9 x11) (rdOf ByteArray.empty x1 x11)).bind fun t137 => (if t137 = 0 then (slices_Compare_string_string.l0 k x0 x1 x9 x10 (wrap64 (x11 + 1))) else (some t137))) else (none))) else (none)) else (none)) else (if (x0.length : Int) < (x1.length : Int) then (some (-1)) else (some 0))
def slices_Compare_string_string.f (k : Nat) (l0 : List ByteArray) (l1 : List ByteArray) : Option (Int) := slices_Compare_string_string.l0 k l0 l1 l0 (l0.length : Int) 0
theorem slices_Compare_string_string.calls (k : Nat) (A0 : Option Addr) (c0 : Nat) (l0 : List ByteArray) (A1 : Option Addr) (c1 : Nat) (l1 : List ByteArray) (r : Int) (w : World) (hr0 : Kd.C Kd.string w A0 l0.length l0) (hc0 : l0.length ≤ c0) (hr1 : Kd.C Kd.string w A1 l1.length l1) (hc1 : l1.length ≤ c1) (h : slices_Compare_string_string.f k l0 l1 = some r) :
  Calls Tryz.prog 91 #[.slice A0 l0.length c0, .slice A1 l1.length c1] w fun e w' => e = .returned (.int .i64 r) ∧ Drawn0 w w' := by
 have HR0 := Aside0.mk hr0
 have HC0 := Aside0.mk hc0
 clear hr0 hc0
 have HR1 := Aside0.mk hr1
 have HC1 := Aside0.mk hc1
 clear hr1 hc1
 have H : (slices_Compare_string_string.l0 k l0 l1 l0 (l0.length : Int) 0) = some r := h
 clear h
 have H' := Aside0.mk H
 clear H
 go_enter Tryz.func91, Tryz.ntmps91
 go_wp2
 go_loopg [11] k (fun kq v11 w' => ∃ (x11_1 : Int), v11 = .int .i64 x11_1 ∧ Aside0 (slices_Compare_string_string.l0 kq l0 l1 l0 (l0.length : Int) x11_1 = some r) ∧ Aside0 (kq ≤ k) ∧ Drawn0 w w')
 case atStart => exact ⟨(0), (by first | rfl | (simp; done) | (simp [*]; done)), H', ⟨Nat.le_refl _⟩, by repeat (first | exact Drawn0.refl _ | apply Drawn0.step)⟩
 case round =>
  clear H'
  try clear c1
  try clear p2
  obtain ⟨x11_1, rfl, HA, HK1, ⟨m1, rfl⟩⟩ := hrel
  cases gk with
  | zero => exact absurd HA.out (by simp [slices_Compare_string_string.l0])
  | succ k1 =>
   have H := HA.out
   clear HA
   simp only [slices_Compare_string_string.l0] at H
   by_cases c3 : x11_1 < (l0.length : Int)
   ·rw [if_pos c3] at H
    have c3b0 : decide (x11_1 < (l0.length : Int)) = true := decide_eq_true c3
    clear c3
    by_cases c4 : 0 ≤ x11_1
    ·rw [if_pos c4] at H
     have c4b0 : decide (0 ≤ x11_1) = true := decide_eq_true c4
     clear c4
     by_cases c5 : x11_1 < (l0.length : Int)
     ·rw [if_pos c5] at H
      have c5b0 : decide (x11_1 < (l0.length : Int)) = true := decide_eq_true c5
      clear c5
      by_cases c6 : x11_1 ≥ (l1.length : Int)
      ·rw [if_pos c6] at H
       have c6b0 : decide ((l1.length : Int) ≤ x11_1) = true := decide_eq_true c6
       clear c6
       obtain rfl := Option.some.inj H
       have p135 : 0 ≤ (x11_1 : Int) := of_decide_eq_true (by first | (with_reducible assumption) | assumption)
       have q135 : x11_1 < (l0.length : Int) := of_decide_eq_true (by first | (with_reducible assumption) | assumption)
       obtain ⟨ad135, e135, hx135_0⟩ := Kd.at_string HR0.out x11_1 p135 q135
       cases e135
       replace p135 := eq_true p135
       replace q135 := eq_true q135
       go_wp2
       go_ret
       exact ⟨by first | rfl | (simp; done) | (simp [*]; done), by repeat (first | exact Drawn0.refl _ | apply Drawn0.step)⟩
      ·rw [if_neg c6] at H
       have c6b0 : decide ((l1.length : Int) ≤ x11_1) = false := decide_eq_false c6
       clear c6
       by_cases c7 : x11_1 < (l1.length : Int)
       ·rw [if_pos c7] at H
        have c7b0 : decide (x11_1 < (l1.length : Int)) = true := decide_eq_true c7
        clear c7
        replace H := Option.bind_eq_some_iff.mp H
        obtain ⟨t137, A80, H⟩ := H
        replace H : (if t137 = 0 then (slices_Compare_string_string.l0 k1 l0 l1 l0 (l0.length : Int) (wrap64 (x11_1 + 1))) else (some t137)) = some r := H
        have A8 := Aside0.mk A80
        clear A80
        by_cases c9 : t137 = 0
        ·rw [if_pos c9] at H
         have c9b0 : (t137 == 0) = true := beq_iff_eq.mpr c9
         have c9b1 : (t137 != 0) = false := bne_eq_false_iff_eq.mpr c9
         clear c9
         have H' := Aside0.mk H
         clear H
         have p135 : 0 ≤ (x11_1 : Int) := of_decide_eq_true (by first | (with_reducible assumption) | assumption)
         have q135 : x11_1 < (l0.length : Int) := of_decide_eq_true (by first | (with_reducible assumption) | assumption)
         obtain ⟨ad135, e135, hx135_0⟩ := Kd.at_string HR0.out x11_1 p135 q135
         cases e135
         replace p135 := eq_true p135
         replace q135 := eq_true q135
         have p136 : 0 ≤ (x11_1 : Int) := of_decide_eq_true (by first | (with_reducible assumption) | assumption)
         have q136 : x11_1 < (l1.length : Int) := of_decide_eq_true (by first | (with_reducible assumption) | assumption)
         obtain ⟨ad136, e136, hx136_0⟩ := Kd.at_string HR1.out x11_1 p136 q136
         cases e136
         replace p136 := eq_true p136
         replace q136 := eq_true q136
         go_wp2_with (first | ((with_reducible refine gate_callee (f := 101) rfl ?_); refine goesL_ (some 26) rfl rfl Tryz.func101 (by kernel_rfl) rfl #[.string (rdOf ByteArray.empty l0 x11_1), .string (rdOf ByteArray.empty l1 x11_1)] rfl (by (try simp only [ca_]); first | done | rfl) ?_; (with_reducible refine (cmp_Compare_string.calls (rdOf ByteArray.empty l0 x11_1) (rdOf ByteArray.empty l1 x11_1) t137 _ A8.out).mono ?_); rintro e w' ⟨rfl, ⟨nd, rfl⟩⟩; refine ⟨_, rfl, ?_⟩))
         go_roundg k1
         case measure => have := HK1.out; omega
         case rel => exact ⟨(wrap64 (x11_1 + 1)), (by first | rfl | (simp; done) | (simp [*]; done)), H', ⟨by have := HK1.out; omega⟩, by repeat (first | exact Drawn0.refl _ | apply Drawn0.step)⟩
        ·rw [if_neg c9] at H
         have c9b0 : (t137 == 0) = false := beq_eq_false_iff_ne.mpr c9
         have c9b1 : (t137 != 0) = true := bne_iff_ne.mpr c9
         obtain rfl := Option.some.inj H
         have p135 : 0 ≤ (x11_1 : Int) := of_decide_eq_true (by first | (with_reducible assumption) | assumption)
         have q135 : x11_1 < (l0.length : Int) := of_decide_eq_true (by first | (with_reducible assumption) | assumption)
         obtain ⟨ad135, e135, hx135_0⟩ := Kd.at_string HR0.out x11_1 p135 q135
         cases e135
         replace p135 := eq_true p135
         replace q135 := eq_true q135
         have p136 : 0 ≤ (x11_1 : Int) := of_decide_eq_true (by first | (with_reducible assumption) | assumption)
         have q136 : x11_1 < (l1.length : Int) := of_decide_eq_true (by first | (with_reducible assumption) | assumption)
         obtain ⟨ad136, e136, hx136_0⟩ := Kd.at_string HR1.out x11_1 p136 q136
         cases e136
         replace p136 := eq_true p136
         replace q136 := eq_true q136
         go_wp2_with (first | ((with_reducible refine gate_callee (f := 101) rfl ?_); refine goesL_ (some 26) rfl rfl Tryz.func101 (by kernel_rfl) rfl #[.string (rdOf ByteArray.empty l0 x11_1), .string (rdOf ByteArray.empty l1 x11_1)] rfl (by (try simp only [ca_]); first | done | rfl) ?_; (with_reducible refine (cmp_Compare_string.calls (rdOf ByteArray.empty l0 x11_1) (rdOf ByteArray.empty l1 x11_1) t137 _ A8.out).mono ?_); rintro e w' ⟨rfl, ⟨nd, rfl⟩⟩; refine ⟨_, rfl, ?_⟩))
         go_ret
         exact ⟨by first | rfl | (simp; done) | (simp [*]; done), by repeat (first | exact Drawn0.refl _ | apply Drawn0.step)⟩
       ·rw [if_neg c7] at H
        exact absurd H (by simp)
     ·rw [if_neg c5] at H
      exact absurd H (by simp)
    ·rw [if_neg c4] at H
     exact absurd H (by simp)
   ·rw [if_neg c3] at H
    have c3b0 : decide (x11_1 < (l0.length : Int)) = false := decide_eq_false c3
    clear c3
    by_cases c10 : (l0.length : Int) < (l1.length : Int)
    ·rw [if_pos c10] at H
     have c10b0 : decide ((l0.length : Int) < (l1.length : Int)) = true := decide_eq_true c10
     have c10b1 : decide (l0.length < l1.length) = true := decide_eq_true (Int.ofNat_lt.mp c10)
     clear c10
     obtain rfl := Option.some.inj H
     go_wp2
     go_ret
     exact ⟨by first | rfl | (simp; done) | (simp [*]; done), by repeat (first | exact Drawn0.refl _ | apply Drawn0.step)⟩
    ·rw [if_neg c10] at H
     have c10b0 : decide ((l0.length : Int) < (l1.length : Int)) = false := decide_eq_false c10
     have c10b1 : decide (l0.length < l1.length) = false := decide_eq_false (fun h => c10 (Int.ofNat_lt.mpr h))
     clear c10
     obtain rfl := Option.some.inj H
     go_wp2
     go_ret
     exact ⟨by first | rfl | (simp; done) | (simp [*]; done), by repeat (first | exact Drawn0.refl _ | apply Drawn0.step)⟩
def slices_Clone_string_string.f (l0 : List ByteArray) : Option (List ByteArray) := (some (([] : List ByteArray) : List ByteArray)).bind fun y326 => (if y326.length + l0.length < 8796093022208 then (some (y326 ++ l0)) else (none))
end Go.Proofs.YtidlldfghkaeeaaGreatDoor.P
end
section
namespace Go.Proofs.YtidlldfghkaeeaaGreatDoor.P
open Go.RowKit Go.Proofs.YtidlldfghkaeeaaGreatDoorW.PrintWords Go.Proofs.YtidlldfghkaeeaaGreatDoorW.PrintLast Go.Proofs.YtidlldfghkaeeaaGreatDoorW.PrintMore
theorem D_size (s : ByteArray) : s.size = s.data.toList.length := by rw [Array.length_toList]; rfl
theorem D_app (a b : ByteArray) : (a ++ b).data.toList = a.data.toList ++ b.data.toList := by
 simp [ByteArray.data_append]
theorem bext {a b : ByteArray} (h : a.data.toList = b.data.toList) : a = b := by
 cases a with | mk x => cases b with | mk y => cases x with | mk p => cases y with | mk q => simp at h; rw [h]
theorem D_ex (s : ByteArray) (i j : Nat) : (s.extract i j).data.toList = (s.data.toList.take j).drop i := by
 rw [ByteArray.data_extract, Array.toList_extract, List.extract_eq_take_drop, List.take_drop]
 by_cases h : i ≤ j
 ·rw [show i + (j - i) = j by omega]
 ·rw [List.drop_eq_nil_of_le (by simp; omega), List.drop_eq_nil_of_le (by simp; omega)]
theorem u47 {b : UInt8} (h : ((b.toNat : Nat) : Int) = 47) : b = 47 := by
 have : b.toNat = (47 : UInt8).toNat := by rw [show (47 : UInt8).toNat = 47 from rfl]; omega
 exact UInt8.toNat_inj.1 this
theorem bl_asym {a b : List UInt8} (h : Op.bytesLess a b = true) : Op.bytesLess b a = false := by
 cases h2 : Op.bytesLess b a with
 | false => rfl
 | true =>
  have := bl_trans a b a h h2
  rw [bl_irr] at this
  cases this
def c1 (a b : List UInt8) : Int := if Op.bytesLess a b = true then -1 else if Op.bytesLess b a = true then 1 else 0
theorem c1_eq {a b : List UInt8} : c1 a b = 0 ↔ a = b := by
 unfold c1
 constructor
 ·intro h
  split at h
  ·omega
  ·split at h
   ·omega
   ·exact bl_tot a b (by simp [*]) (by simp [*])
 ·rintro rfl
  rw [bl_irr]
  rfl
theorem c1_anti (a b : List UInt8) : c1 b a = - c1 a b := by
 unfold c1
 by_cases h : Op.bytesLess a b = true
 ·rw [if_pos h, if_neg (by rw [bl_asym h]; decide), if_pos h]
  rfl
 ·rw [if_neg h, if_neg h]
  split <;> rfl
theorem c1_vals (a b : List UInt8) : c1 a b = -1 ∨ c1 a b = 0 ∨ c1 a b = 1 := by
 unfold c1
 split
 ·exact .inl rfl
 ·split
  ·exact .inr (.inr rfl)
  ·exact .inr (.inl rfl)
theorem c1_lt {a b : List UInt8} : c1 a b = -1 ↔ Op.bytesLess a b = true := by
 unfold c1
 constructor
 ·intro h
  split at h
  ·assumption
  ·split at h <;> omega
 ·intro h
  rw [if_pos h]
def cL : List (List UInt8) → List (List UInt8) → Int
 | [], [] => 0
 | [], _ :: _ => -1
 | _ :: _, [] => 1
 | x :: xs, y :: ys => if c1 x y = 0 then cL xs ys else c1 x y
theorem cL_vals : ∀ xs ys, cL xs ys = -1 ∨ cL xs ys = 0 ∨ cL xs ys = 1
 | [], [] => .inr (.inl rfl)
 | [], _ :: _ => .inl rfl
 | _ :: _, [] => .inr (.inr rfl)
 | x :: xs, y :: ys => by
  unfold cL
  split
  ·exact cL_vals xs ys
  ·exact c1_vals x y
theorem cL_eq : ∀ {xs ys}, cL xs ys = 0 ↔ xs = ys
 | [], [] => by simp [cL]
 | [], _ :: _ => by simp [cL]
 | _ :: _, [] => by simp [cL]
 | x :: xs, y :: ys => by
  unfold cL
  split
  ·rename_i h
   rw [cL_eq, c1_eq.1 h]
   simp
  ·rename_i h
   simp only [h, false_iff]
   intro e
   injection e with e1 _
   exact h (c1_eq.2 e1)
theorem cL_anti : ∀ xs ys, cL ys xs = - cL xs ys
 | [], [] => rfl
 | [], _ :: _ => rfl
 | _ :: _, [] => rfl
 | x :: xs, y :: ys => by
  unfold cL
  rw [c1_anti x y]
  by_cases h : c1 x y = 0
  ·rw [if_pos (by omega), if_pos h, cL_anti xs ys]
  ·rw [if_neg (by omega), if_neg h]
theorem cL_trans : ∀ xs ys zs, cL xs ys ≤ 0 → cL ys zs ≤ 0 → cL xs zs ≤ 0
 | [], _, [], _, _ => by simp [cL]
 | [], _, _ :: _, _, _ => by simp [cL]
 | x :: xs, [], _, h, _ => by simp [cL] at h
 | x :: xs, y :: ys, [], _, h => by simp [cL] at h
 | x :: xs, y :: ys, z :: zs, h1, h2 => by
  unfold cL at h1 h2 ⊢
  by_cases hxy : c1 x y = 0
  ·rw [if_pos hxy] at h1
   obtain rfl := c1_eq.1 hxy
   by_cases hyz : c1 x z = 0
   ·rw [if_pos hyz] at h2 ⊢
    exact cL_trans xs ys zs h1 h2
   ·rw [if_neg hyz] at h2 ⊢
    exact h2
  ·rw [if_neg hxy] at h1
   have h1' : c1 x y = -1 := by rcases c1_vals x y with h | h | h <;> omega
   by_cases hyz : c1 y z = 0
   ·obtain rfl := c1_eq.1 hyz
    rw [if_neg hxy]
    exact h1
   ·rw [if_neg hyz] at h2
    have h2' : c1 y z = -1 := by rcases c1_vals y z with h | h | h <;> omega
    have h3 : c1 x z = -1 := c1_lt.2 (bl_trans x y z (c1_lt.1 h1') (c1_lt.1 h2'))
    rw [if_neg (by omega), h3]
    decide
theorem cL_longer : ∀ (xs : List (List UInt8)) (y : List UInt8), cL xs (xs ++ [y]) = -1
 | [], y => rfl
 | x :: xs, y => by
  rw [List.cons_append, cL, if_pos (c1_eq.2 rfl)]
  exact cL_longer xs y
def jn : List (List UInt8) → List UInt8
 | [] => []
 | [x] => x
 | x :: y :: xs => x ++ 47 :: jn (y :: xs)
theorem jn_sp : ∀ l : List UInt8, jn (sp l) = l
 | [] => rfl
 | b :: l => by
  have ih := jn_sp l
  obtain ⟨y, ys, e⟩ := List.exists_cons_of_ne_nil (sp_ne l)
  rw [e] at ih
  by_cases hb : b = 47
  ·subst hb
   rw [sp_slash, e, jn, ih]
   rfl
  ·rw [sp_cons hb e]
   cases ys with
   | nil =>
    rw [jn] at ih ⊢
    rw [ih]
   | cons z zs =>
    rw [jn] at ih ⊢
    rw [← ih]
    rfl
theorem sp_inj {a b : List UInt8} (h : sp a = sp b) : a = b := by rw [← jn_sp a, h, jn_sp]
theorem Compare1_eq (a b : ByteArray) : cmp_Compare_string.f a b = some (c1 a.data.toList b.data.toList) := by
 unfold cmp_Compare_string.f c1
 rw [Lib.toList_data, Lib.toList_data]
def Ds (ps : List ByteArray) : List (List UInt8) := ps.map fun p => p.data.toList
theorem Compare_l0 (xs ys : List ByteArray) (hx : xs.length < 9223372036854775807) : ∀ (d i k : Nat), i + d = xs.length → i ≤ ys.length → d ≤ k →
  slices_Compare_string_string.l0 (k + 1) xs ys xs (xs.length : Int) (i : Int) = some (cL (Ds (xs.drop i)) (Ds (ys.drop i)))
 | 0, i, k, hd, hi, hk => by
  rw [slices_Compare_string_string.l0, if_neg (by omega), List.drop_eq_nil_of_le (by omega)]
  by_cases h : i < ys.length
  ·rw [if_pos (by omega), List.drop_eq_getElem_cons h]
   rfl
  ·rw [if_neg (by omega), List.drop_eq_nil_of_le (by omega)]
   rfl
 | d + 1, i, k, hd, hi, hk => by
  obtain ⟨k, rfl⟩ : ∃ m, k = m + 1 := ⟨k - 1, by omega⟩
  have hi' : i < xs.length := by omega
  have hxr : rdOf ByteArray.empty xs (i : Int) = xs[i] := by
   unfold rdOf
   rw [Int.toNat_natCast, List.getD_eq_getElem?_getD, List.getElem?_eq_getElem hi']
   rfl
  rw [slices_Compare_string_string.l0, if_pos (by omega), if_pos (by omega), if_pos (by omega), List.drop_eq_getElem_cons hi']
  by_cases h : i < ys.length
  ·have hyr : rdOf ByteArray.empty ys (i : Int) = ys[i] := by
    unfold rdOf
    rw [Int.toNat_natCast, List.getD_eq_getElem?_getD, List.getElem?_eq_getElem h]
    rfl
   have hw : wrap64 ((i : Int) + 1) = ((i + 1 : Nat) : Int) := by unfold wrap64; omega
   rw [if_neg (by omega), if_pos (by omega), hxr, hyr, Compare1_eq, Option.bind_some, List.drop_eq_getElem_cons h]
   simp only [Ds, List.map_cons, cL]
   by_cases hc : c1 xs[i].data.toList ys[i].data.toList = 0
   ·rw [if_pos hc, if_pos hc, hw]
    exact Compare_l0 xs ys hx d (i + 1) k (by omega) (by omega) (by omega)
   ·rw [if_neg hc, if_neg hc]
  ·have e : ys.drop i = [] := List.drop_eq_nil_of_le (by omega)
   rw [if_pos (by omega), e]
   rfl
end Go.Proofs.YtidlldfghkaeeaaGreatDoor.P
end
