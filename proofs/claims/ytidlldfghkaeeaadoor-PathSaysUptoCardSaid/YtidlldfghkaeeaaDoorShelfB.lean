/-
  DERIVED: THE SHELF's CONTRACTS AT THIS DUMP, IN PLAIN WORDS (tools/lay-plain.mjs out of 'TrydShelfB.lean', which tools/lay-shelf.mjs wrote): THE SAME DECLARATIONS UNDER THE SAME NAMES: 'import', 'namespace', 'open', 'def', 'theorem' AND NOTHING ELSE: no command of the shelf's: FOR A HAND-IN. Each laying: the table of numbers ('.._ren') and one theorem, a field a fact of the dump's own or the kernel's comparison; each contract: ONE APPLICATION.
-/
import Derived.Shelf.Slices.Cells
import Derived.Shelf.SlSortCmp.NoneTotal
import Derived.Ground.SlsfProg
import Derived.Test.YtidlldfghkaeeaaDoorProg
namespace Go.Proofs
open Go.Shelf
def Tryd.lays194_ren : Go.Shelf.Ren := ⟨fun | 194 => 96 | n => n, fun | 31 => 52 | 9 => 9 | 3 => 3 | 4 => 4 | 0 => 0 | n => n, fun | n => n⟩
theorem Tryd.lays194 : Go.Proofs.Lays.n194 Tryd.prog Tryd.lays194_ren := {
  mixed := by kernel_rfl
  f194 := Tryd.func96.trans (congrArg some (by kernel_rfl))
  t0 := Tryd.underlying0
  a0 := Tryd.isAgg0
  z0 := Tryd.sizeOf0
  v0 := Tryd.zeroValue0
  t3 := Tryd.underlying3
  a3 := Tryd.isAgg3
  z3 := Tryd.sizeOf3
  v3 := Tryd.zeroValue3
  t4 := Tryd.underlying4
  a4 := Tryd.isAgg4
  z4 := Tryd.sizeOf4
  v4 := Tryd.zeroValue4
  t9 := Tryd.underlying9
  a9 := Tryd.isAgg9
  z9 := Tryd.sizeOf9
  v9 := Tryd.zeroValue9
  t31 := Tryd.underlying52
  a31 := Tryd.isAgg52
  z31 := Tryd.sizeOf52
  v31 := Tryd.zeroValue52 }
def Tryd.srtf_ren : Go.Shelf.Ren := ⟨fun | 6 => 95 | 15 => 115 | 14 => 114 | 28 => 139 | 29 => 140 | 20 => 131 | 21 => 132 | 22 => 133 | 23 => 134 | 24 => 135 | 25 => 136 | 26 => 137 | 27 => 138 | 46 => 151 | 47 => 152 | 48 => 153 | 49 => 154 | 50 => 155 | 57 => 162 | n => n, fun | 22 => 52 | 24 => 9 | 25 => 73 | 3 => 3 | 39 => 126 | 0 => 0 | 53 => 146 | 55 => 148 | 4 => 4 | 46 => 140 | 45 => 139 | 50 => 85 | 5 => 5 | 9 => 9 | 66 => 156 | 70 => 160 | 76 => 164 | 77 => 165 | n => n, fun | n => n⟩
theorem Tryd.srtf : Go.Proofs.SlLaysF.n6 Tryd.prog Tryd.srtf_ren := {
  mixed := by kernel_rfl
  f6 := ⟨Tryd.f95.name, by decide, Tryd.func95.trans (congrArg some (by kernel_rfl))⟩
  f14 := ⟨Tryd.f114.name, by decide, Tryd.func114.trans (congrArg some (by kernel_rfl))⟩
  f15 := Tryd.func115.trans (congrArg some (by kernel_rfl))
  f20 := ⟨Tryd.f131.name, by decide, Tryd.func131.trans (congrArg some (by kernel_rfl))⟩
  f21 := ⟨Tryd.f132.name, by decide, Tryd.func132.trans (congrArg some (by kernel_rfl))⟩
  f22 := ⟨Tryd.f133.name, by decide, Tryd.func133.trans (congrArg some (by kernel_rfl))⟩
  f23 := ⟨Tryd.f134.name, by decide, Tryd.func134.trans (congrArg some (by kernel_rfl))⟩
  f24 := ⟨Tryd.f135.name, by decide, Tryd.func135.trans (congrArg some (by kernel_rfl))⟩
  f25 := ⟨Tryd.f136.name, by decide, Tryd.func136.trans (congrArg some (by kernel_rfl))⟩
  f26 := ⟨Tryd.f137.name, by decide, Tryd.func137.trans (congrArg some (by kernel_rfl))⟩
  f27 := ⟨Tryd.f138.name, by decide, Tryd.func138.trans (congrArg some (by kernel_rfl))⟩
  f28 := Tryd.func139.trans (congrArg some (by kernel_rfl))
  f29 := Tryd.func140.trans (congrArg some (by kernel_rfl))
  f46 := ⟨Tryd.f151.name, by decide, Tryd.func151.trans (congrArg some (by kernel_rfl))⟩
  f47 := Tryd.func152.trans (congrArg some (by kernel_rfl))
  f48 := Tryd.func153.trans (congrArg some (by kernel_rfl))
  f49 := ⟨Tryd.f154.name, by decide, Tryd.func154.trans (congrArg some (by kernel_rfl))⟩
  f50 := ⟨Tryd.f155.name, by decide, Tryd.func155.trans (congrArg some (by kernel_rfl))⟩
  f57 := ⟨Tryd.f162.name, by decide, Tryd.func162.trans (congrArg some (by kernel_rfl))⟩
  t0 := Tryd.underlying0
  a0 := Tryd.isAgg0
  z0 := Tryd.sizeOf0
  v0 := Tryd.zeroValue0
  t3 := Tryd.underlying3
  a3 := Tryd.isAgg3
  z3 := Tryd.sizeOf3
  v3 := Tryd.zeroValue3
  t4 := Tryd.underlying4
  a4 := Tryd.isAgg4
  z4 := Tryd.sizeOf4
  v4 := Tryd.zeroValue4
  t5 := Tryd.underlying5
  a5 := Tryd.isAgg5
  z5 := Tryd.sizeOf5
  v5 := Tryd.zeroValue5
  t9 := Tryd.underlying9
  a9 := Tryd.isAgg9
  z9 := Tryd.sizeOf9
  v9 := Tryd.zeroValue9
  t22 := Tryd.underlying52
  a22 := Tryd.isAgg52
  z22 := Tryd.sizeOf52
  v22 := Tryd.zeroValue52
  a24 := Tryd.isAgg9
  z24 := Tryd.sizeOf9
  t25 := Tryd.underlying73
  a25 := Tryd.isAgg73
  z25 := Tryd.sizeOf73
  v25 := Tryd.zeroValue73
  t39 := Tryd.underlying126
  a39 := Tryd.isAgg126
  z39 := Tryd.sizeOf126
  v39 := Tryd.zeroValue126
  t45 := Tryd.underlying139
  a45 := Tryd.isAgg139
  z45 := Tryd.sizeOf139
  v45 := Tryd.zeroValue139
  t46 := Tryd.underlying140
  a46 := Tryd.isAgg140
  z46 := Tryd.sizeOf140
  v46 := Tryd.zeroValue140
  t50 := Tryd.underlying85
  a50 := Tryd.isAgg85
  z50 := Tryd.sizeOf85
  v50 := Tryd.zeroValue85
  t53 := Tryd.underlying146
  a53 := Tryd.isAgg146
  z53 := Tryd.sizeOf146
  v53 := Tryd.zeroValue146
  t55 := Tryd.underlying148
  a55 := Tryd.isAgg148
  z55 := Tryd.sizeOf148
  v55 := Tryd.zeroValue148
  t66 := Tryd.underlying156
  a66 := Tryd.isAgg156
  z66 := Tryd.sizeOf156
  v66 := Tryd.zeroValue156
  t70 := Tryd.underlying160
  a70 := Tryd.isAgg160
  z70 := Tryd.sizeOf160
  v70 := Tryd.zeroValue160
  t76 := Tryd.underlying164
  a76 := Tryd.isAgg164
  z76 := Tryd.sizeOf164
  v76 := Tryd.zeroValue164
  t77 := Tryd.underlying165
  a77 := Tryd.isAgg165
  z77 := Tryd.sizeOf165
  v77 := Tryd.zeroValue165 }
end Go.Proofs
