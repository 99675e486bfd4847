/-
  DERIVED: THE SHELF's CONTRACTS AT THIS DUMP, IN PLAIN WORDS (tools/lay-plain.mjs out of 'YtehacchacgfjlaaDoorLay6C.lean', which tools/lay-shelf.mjs wrote): THE SAME DECLARATIONS UNDER THE SAME NAMES: 'import', 'namespace', 'open', 'def', 'theorem' AND NOTHING ELSE: no command of the shelf's: FOR A HAND-IN. Each laying: the table of numbers ('.._ren') and one theorem, a field a fact of the dump's own or the kernel's comparison; each contract: ONE APPLICATION.
-/
import Derived.Shelf.SlSortCmp.WholeK
import Derived.Ground.SlsfProg
import Derived.Test.YtehacchacgfjlaaDoorProg
namespace Go.Proofs
open Go.Shelf
def Tryd.sortC2_ren : Go.Shelf.Ren := ⟨fun | 6 => 112 | 15 => 126 | 14 => 129 | 28 => 143 | 29 => 144 | 20 => 145 | 21 => 146 | 22 => 147 | 23 => 148 | 24 => 149 | 25 => 150 | 26 => 151 | 27 => 152 | 46 => 166 | 47 => 162 | 48 => 163 | 49 => 167 | 50 => 168 | 57 => 173 | n => n, fun | 22 => 69 | 24 => 66 | 25 => 148 | 3 => 3 | 39 => 138 | 0 => 0 | 53 => 209 | 55 => 211 | 4 => 4 | 46 => 203 | 45 => 202 | 50 => 150 | 5 => 5 | 9 => 9 | 66 => 222 | 70 => 226 | 76 => 232 | 77 => 131 | n => n, fun | n => n⟩
theorem Tryd.sortC2 : Go.Proofs.SlLaysF0.n6 Tryd.prog Tryd.sortC2_ren := {
  mixed := by kernel_rfl
  f6 := ⟨Tryd.f112.name, by decide, Tryd.func112.trans (congrArg some (by kernel_rfl))⟩
  f14 := ⟨Tryd.f129.name, by decide, Tryd.func129.trans (congrArg some (by kernel_rfl))⟩
  f15 := Tryd.func126.trans (congrArg some (by kernel_rfl))
  f20 := ⟨Tryd.f145.name, by decide, Tryd.func145.trans (congrArg some (by kernel_rfl))⟩
  f21 := ⟨Tryd.f146.name, by decide, Tryd.func146.trans (congrArg some (by kernel_rfl))⟩
  f22 := ⟨Tryd.f147.name, by decide, Tryd.func147.trans (congrArg some (by kernel_rfl))⟩
  f23 := ⟨Tryd.f148.name, by decide, Tryd.func148.trans (congrArg some (by kernel_rfl))⟩
  f24 := ⟨Tryd.f149.name, by decide, Tryd.func149.trans (congrArg some (by kernel_rfl))⟩
  f25 := ⟨Tryd.f150.name, by decide, Tryd.func150.trans (congrArg some (by kernel_rfl))⟩
  f26 := ⟨Tryd.f151.name, by decide, Tryd.func151.trans (congrArg some (by kernel_rfl))⟩
  f27 := ⟨Tryd.f152.name, by decide, Tryd.func152.trans (congrArg some (by kernel_rfl))⟩
  f28 := Tryd.func143.trans (congrArg some (by kernel_rfl))
  f29 := Tryd.func144.trans (congrArg some (by kernel_rfl))
  f46 := ⟨Tryd.f166.name, by decide, Tryd.func166.trans (congrArg some (by kernel_rfl))⟩
  f47 := Tryd.func162.trans (congrArg some (by kernel_rfl))
  f48 := Tryd.func163.trans (congrArg some (by kernel_rfl))
  f49 := ⟨Tryd.f167.name, by decide, Tryd.func167.trans (congrArg some (by kernel_rfl))⟩
  f50 := ⟨Tryd.f168.name, by decide, Tryd.func168.trans (congrArg some (by kernel_rfl))⟩
  f57 := ⟨Tryd.f173.name, by decide, Tryd.func173.trans (congrArg some (by kernel_rfl))⟩
  t0 := Tryd.underlying0
  a0 := Tryd.isAgg0
  z0 := Tryd.sizeOf0
  v0 := Tryd.zeroValue0
  t3 := Tryd.underlying3
  a3 := Tryd.isAgg3
  z3 := Tryd.sizeOf3
  v3 := Tryd.zeroValue3
  t4 := Tryd.underlying4
  a4 := Tryd.isAgg4
  z4 := Tryd.sizeOf4
  v4 := Tryd.zeroValue4
  t5 := Tryd.underlying5
  a5 := Tryd.isAgg5
  z5 := Tryd.sizeOf5
  v5 := Tryd.zeroValue5
  t9 := Tryd.underlying9
  a9 := Tryd.isAgg9
  z9 := Tryd.sizeOf9
  v9 := Tryd.zeroValue9
  t22 := Tryd.underlying69
  a22 := Tryd.isAgg69
  z22 := Tryd.sizeOf69
  v22 := Tryd.zeroValue69
  t25 := Tryd.underlying148
  a25 := Tryd.isAgg148
  z25 := Tryd.sizeOf148
  v25 := Tryd.zeroValue148
  t39 := Tryd.underlying138
  a39 := Tryd.isAgg138
  z39 := Tryd.sizeOf138
  v39 := Tryd.zeroValue138
  t45 := Tryd.underlying202
  a45 := Tryd.isAgg202
  z45 := Tryd.sizeOf202
  v45 := Tryd.zeroValue202
  t46 := Tryd.underlying203
  a46 := Tryd.isAgg203
  z46 := Tryd.sizeOf203
  v46 := Tryd.zeroValue203
  t50 := Tryd.underlying150
  a50 := Tryd.isAgg150
  z50 := Tryd.sizeOf150
  v50 := Tryd.zeroValue150
  t53 := Tryd.underlying209
  a53 := Tryd.isAgg209
  z53 := Tryd.sizeOf209
  v53 := Tryd.zeroValue209
  t55 := Tryd.underlying211
  a55 := Tryd.isAgg211
  z55 := Tryd.sizeOf211
  v55 := Tryd.zeroValue211
  t66 := Tryd.underlying222
  a66 := Tryd.isAgg222
  z66 := Tryd.sizeOf222
  v66 := Tryd.zeroValue222
  t70 := Tryd.underlying226
  a70 := Tryd.isAgg226
  z70 := Tryd.sizeOf226
  v70 := Tryd.zeroValue226
  t76 := Tryd.underlying232
  a76 := Tryd.isAgg232
  z76 := Tryd.sizeOf232
  v76 := Tryd.zeroValue232
  t77 := Tryd.underlying131
  a77 := Tryd.isAgg131
  z77 := Tryd.sizeOf131
  v77 := Tryd.zeroValue131 }
end Go.Proofs
