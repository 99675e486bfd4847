/-
  DERIVED: THE SHELF's CONTRACTS AT THIS DUMP, IN PLAIN WORDS (tools/lay-plain.mjs out of 'YtehacchacgfjlaaDoorLay6S.lean', which tools/lay-shelf.mjs wrote): THE SAME DECLARATIONS UNDER THE SAME NAMES: 'import', 'namespace', 'open', 'def', 'theorem' AND NOTHING ELSE: no command of the shelf's: FOR A HAND-IN. Each laying: the table of numbers ('.._ren') and one theorem, a field a fact of the dump's own or the kernel's comparison; each contract: ONE APPLICATION.
-/
import Derived.Shelf.SlSortCmp.WholeK
import Derived.Ground.SlsfProg
import Derived.Test.YtehacchacgfjlaaDoorProg
namespace Go.Proofs
open Go.Shelf
def Tryd.sortS2_ren : Go.Shelf.Ren := ⟨fun | 6 => 118 | 15 => 126 | 14 => 131 | 28 => 143 | 29 => 144 | 20 => 153 | 21 => 154 | 22 => 155 | 23 => 156 | 24 => 157 | 25 => 158 | 26 => 159 | 27 => 160 | 46 => 169 | 47 => 162 | 48 => 163 | 49 => 170 | 50 => 171 | 57 => 174 | n => n, fun | 22 => 105 | 24 => 94 | 25 => 164 | 3 => 3 | 39 => 138 | 0 => 0 | 53 => 209 | 55 => 211 | 4 => 4 | 46 => 203 | 45 => 202 | 50 => 150 | 5 => 5 | 9 => 9 | 66 => 222 | 70 => 226 | 76 => 232 | 77 => 131 | n => n, fun | n => n⟩
theorem Tryd.sortS2 : Go.Proofs.SlLaysF0.n6 Tryd.prog Tryd.sortS2_ren := {
  mixed := by kernel_rfl
  f6 := ⟨Tryd.f118.name, by decide, Tryd.func118.trans (congrArg some (by kernel_rfl))⟩
  f14 := ⟨Tryd.f131.name, by decide, Tryd.func131.trans (congrArg some (by kernel_rfl))⟩
  f15 := Tryd.func126.trans (congrArg some (by kernel_rfl))
  f20 := ⟨Tryd.f153.name, by decide, Tryd.func153.trans (congrArg some (by kernel_rfl))⟩
  f21 := ⟨Tryd.f154.name, by decide, Tryd.func154.trans (congrArg some (by kernel_rfl))⟩
  f22 := ⟨Tryd.f155.name, by decide, Tryd.func155.trans (congrArg some (by kernel_rfl))⟩
  f23 := ⟨Tryd.f156.name, by decide, Tryd.func156.trans (congrArg some (by kernel_rfl))⟩
  f24 := ⟨Tryd.f157.name, by decide, Tryd.func157.trans (congrArg some (by kernel_rfl))⟩
  f25 := ⟨Tryd.f158.name, by decide, Tryd.func158.trans (congrArg some (by kernel_rfl))⟩
  f26 := ⟨Tryd.f159.name, by decide, Tryd.func159.trans (congrArg some (by kernel_rfl))⟩
  f27 := ⟨Tryd.f160.name, by decide, Tryd.func160.trans (congrArg some (by kernel_rfl))⟩
  f28 := Tryd.func143.trans (congrArg some (by kernel_rfl))
  f29 := Tryd.func144.trans (congrArg some (by kernel_rfl))
  f46 := ⟨Tryd.f169.name, by decide, Tryd.func169.trans (congrArg some (by kernel_rfl))⟩
  f47 := Tryd.func162.trans (congrArg some (by kernel_rfl))
  f48 := Tryd.func163.trans (congrArg some (by kernel_rfl))
  f49 := ⟨Tryd.f170.name, by decide, Tryd.func170.trans (congrArg some (by kernel_rfl))⟩
  f50 := ⟨Tryd.f171.name, by decide, Tryd.func171.trans (congrArg some (by kernel_rfl))⟩
  f57 := ⟨Tryd.f174.name, by decide, Tryd.func174.trans (congrArg some (by kernel_rfl))⟩
  t0 := Tryd.underlying0
  a0 := Tryd.isAgg0
  z0 := Tryd.sizeOf0
  v0 := Tryd.zeroValue0
  t3 := Tryd.underlying3
  a3 := Tryd.isAgg3
  z3 := Tryd.sizeOf3
  v3 := Tryd.zeroValue3
  t4 := Tryd.underlying4
  a4 := Tryd.isAgg4
  z4 := Tryd.sizeOf4
  v4 := Tryd.zeroValue4
  t5 := Tryd.underlying5
  a5 := Tryd.isAgg5
  z5 := Tryd.sizeOf5
  v5 := Tryd.zeroValue5
  t9 := Tryd.underlying9
  a9 := Tryd.isAgg9
  z9 := Tryd.sizeOf9
  v9 := Tryd.zeroValue9
  t22 := Tryd.underlying105
  a22 := Tryd.isAgg105
  z22 := Tryd.sizeOf105
  v22 := Tryd.zeroValue105
  t25 := Tryd.underlying164
  a25 := Tryd.isAgg164
  z25 := Tryd.sizeOf164
  v25 := Tryd.zeroValue164
  t39 := Tryd.underlying138
  a39 := Tryd.isAgg138
  z39 := Tryd.sizeOf138
  v39 := Tryd.zeroValue138
  t45 := Tryd.underlying202
  a45 := Tryd.isAgg202
  z45 := Tryd.sizeOf202
  v45 := Tryd.zeroValue202
  t46 := Tryd.underlying203
  a46 := Tryd.isAgg203
  z46 := Tryd.sizeOf203
  v46 := Tryd.zeroValue203
  t50 := Tryd.underlying150
  a50 := Tryd.isAgg150
  z50 := Tryd.sizeOf150
  v50 := Tryd.zeroValue150
  t53 := Tryd.underlying209
  a53 := Tryd.isAgg209
  z53 := Tryd.sizeOf209
  v53 := Tryd.zeroValue209
  t55 := Tryd.underlying211
  a55 := Tryd.isAgg211
  z55 := Tryd.sizeOf211
  v55 := Tryd.zeroValue211
  t66 := Tryd.underlying222
  a66 := Tryd.isAgg222
  z66 := Tryd.sizeOf222
  v66 := Tryd.zeroValue222
  t70 := Tryd.underlying226
  a70 := Tryd.isAgg226
  z70 := Tryd.sizeOf226
  v70 := Tryd.zeroValue226
  t76 := Tryd.underlying232
  a76 := Tryd.isAgg232
  z76 := Tryd.sizeOf232
  v76 := Tryd.zeroValue232
  t77 := Tryd.underlying131
  a77 := Tryd.isAgg131
  z77 := Tryd.sizeOf131
  v77 := Tryd.zeroValue131 }
end Go.Proofs
