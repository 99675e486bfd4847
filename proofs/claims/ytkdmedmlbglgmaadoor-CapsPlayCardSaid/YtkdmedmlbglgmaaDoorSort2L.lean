/-
  DERIVED: THE SHELF's CONTRACTS AT THIS DUMP, IN PLAIN WORDS (tools/lay-plain.mjs out of 'YtkdmedmlbglgmaaDoorLay6L.lean', which tools/lay-shelf.mjs wrote): THE SAME DECLARATIONS UNDER THE SAME NAMES: 'import', 'namespace', 'open', 'def', 'theorem' AND NOTHING ELSE: no command of the shelf's: FOR A HAND-IN. Each laying: the table of numbers ('.._ren') and one theorem, a field a fact of the dump's own or the kernel's comparison; each contract: ONE APPLICATION.
-/
import Derived.Shelf.SlSortCmp.WholeK
import Derived.Ground.SlsfProg
import Derived.Test.YtkdmedmlbglgmaaDoorProg
namespace Go.Proofs
open Go.Shelf
def Tryd.sortL2_ren : Go.Shelf.Ren := ⟨fun | 6 => 72 | 15 => 92 | 14 => 91 | 28 => 115 | 29 => 116 | 20 => 107 | 21 => 108 | 22 => 109 | 23 => 110 | 24 => 111 | 25 => 112 | 26 => 113 | 27 => 114 | 46 => 134 | 47 => 135 | 48 => 136 | 49 => 137 | 50 => 138 | 57 => 150 | n => n, fun | 22 => 35 | 24 => 30 | 25 => 99 | 3 => 3 | 39 => 154 | 0 => 0 | 53 => 179 | 55 => 160 | 4 => 4 | 46 => 172 | 45 => 171 | 50 => 176 | 5 => 5 | 9 => 9 | 66 => 195 | 70 => 199 | 76 => 212 | 77 => 213 | n => n, fun | n => n⟩
theorem Tryd.sortL2 : Go.Proofs.SlLaysF0.n6 Tryd.prog Tryd.sortL2_ren := {
  mixed := by kernel_rfl
  f6 := ⟨Tryd.f72.name, by decide, Tryd.func72.trans (congrArg some (by kernel_rfl))⟩
  f14 := ⟨Tryd.f91.name, by decide, Tryd.func91.trans (congrArg some (by kernel_rfl))⟩
  f15 := Tryd.func92.trans (congrArg some (by kernel_rfl))
  f20 := ⟨Tryd.f107.name, by decide, Tryd.func107.trans (congrArg some (by kernel_rfl))⟩
  f21 := ⟨Tryd.f108.name, by decide, Tryd.func108.trans (congrArg some (by kernel_rfl))⟩
  f22 := ⟨Tryd.f109.name, by decide, Tryd.func109.trans (congrArg some (by kernel_rfl))⟩
  f23 := ⟨Tryd.f110.name, by decide, Tryd.func110.trans (congrArg some (by kernel_rfl))⟩
  f24 := ⟨Tryd.f111.name, by decide, Tryd.func111.trans (congrArg some (by kernel_rfl))⟩
  f25 := ⟨Tryd.f112.name, by decide, Tryd.func112.trans (congrArg some (by kernel_rfl))⟩
  f26 := ⟨Tryd.f113.name, by decide, Tryd.func113.trans (congrArg some (by kernel_rfl))⟩
  f27 := ⟨Tryd.f114.name, by decide, Tryd.func114.trans (congrArg some (by kernel_rfl))⟩
  f28 := Tryd.func115.trans (congrArg some (by kernel_rfl))
  f29 := Tryd.func116.trans (congrArg some (by kernel_rfl))
  f46 := ⟨Tryd.f134.name, by decide, Tryd.func134.trans (congrArg some (by kernel_rfl))⟩
  f47 := Tryd.func135.trans (congrArg some (by kernel_rfl))
  f48 := Tryd.func136.trans (congrArg some (by kernel_rfl))
  f49 := ⟨Tryd.f137.name, by decide, Tryd.func137.trans (congrArg some (by kernel_rfl))⟩
  f50 := ⟨Tryd.f138.name, by decide, Tryd.func138.trans (congrArg some (by kernel_rfl))⟩
  f57 := ⟨Tryd.f150.name, by decide, Tryd.func150.trans (congrArg some (by kernel_rfl))⟩
  t0 := Tryd.underlying0
  a0 := Tryd.isAgg0
  z0 := Tryd.sizeOf0
  v0 := Tryd.zeroValue0
  t3 := Tryd.underlying3
  a3 := Tryd.isAgg3
  z3 := Tryd.sizeOf3
  v3 := Tryd.zeroValue3
  t4 := Tryd.underlying4
  a4 := Tryd.isAgg4
  z4 := Tryd.sizeOf4
  v4 := Tryd.zeroValue4
  t5 := Tryd.underlying5
  a5 := Tryd.isAgg5
  z5 := Tryd.sizeOf5
  v5 := Tryd.zeroValue5
  t9 := Tryd.underlying9
  a9 := Tryd.isAgg9
  z9 := Tryd.sizeOf9
  v9 := Tryd.zeroValue9
  t22 := Tryd.underlying35
  a22 := Tryd.isAgg35
  z22 := Tryd.sizeOf35
  v22 := Tryd.zeroValue35
  t25 := Tryd.underlying99
  a25 := Tryd.isAgg99
  z25 := Tryd.sizeOf99
  v25 := Tryd.zeroValue99
  t39 := Tryd.underlying154
  a39 := Tryd.isAgg154
  z39 := Tryd.sizeOf154
  v39 := Tryd.zeroValue154
  t45 := Tryd.underlying171
  a45 := Tryd.isAgg171
  z45 := Tryd.sizeOf171
  v45 := Tryd.zeroValue171
  t46 := Tryd.underlying172
  a46 := Tryd.isAgg172
  z46 := Tryd.sizeOf172
  v46 := Tryd.zeroValue172
  t50 := Tryd.underlying176
  a50 := Tryd.isAgg176
  z50 := Tryd.sizeOf176
  v50 := Tryd.zeroValue176
  t53 := Tryd.underlying179
  a53 := Tryd.isAgg179
  z53 := Tryd.sizeOf179
  v53 := Tryd.zeroValue179
  t55 := Tryd.underlying160
  a55 := Tryd.isAgg160
  z55 := Tryd.sizeOf160
  v55 := Tryd.zeroValue160
  t66 := Tryd.underlying195
  a66 := Tryd.isAgg195
  z66 := Tryd.sizeOf195
  v66 := Tryd.zeroValue195
  t70 := Tryd.underlying199
  a70 := Tryd.isAgg199
  z70 := Tryd.sizeOf199
  v70 := Tryd.zeroValue199
  t76 := Tryd.underlying212
  a76 := Tryd.isAgg212
  z76 := Tryd.sizeOf212
  v76 := Tryd.zeroValue212
  t77 := Tryd.underlying213
  a77 := Tryd.isAgg213
  z77 := Tryd.sizeOf213
  v77 := Tryd.zeroValue213 }
end Go.Proofs
