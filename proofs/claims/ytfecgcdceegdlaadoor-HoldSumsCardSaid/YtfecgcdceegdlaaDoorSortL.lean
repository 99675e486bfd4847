/-
  DERIVED: THE SHELF's CONTRACTS AT THIS DUMP, IN PLAIN WORDS (tools/lay-plain.mjs out of 'YtfecgcdceegdlaaDoorLay2.lean', which tools/lay-shelf.mjs wrote): THE SAME DECLARATIONS UNDER THE SAME NAMES: 'import', 'namespace', 'open', 'def', 'theorem' AND NOTHING ELSE: no command of the shelf's: FOR A HAND-IN. Each laying: the table of numbers ('.._ren') and one theorem, a field a fact of the dump's own or the kernel's comparison; each contract: ONE APPLICATION.
-/
import Derived.Shelf.SlSortCmp.WholeK
import Derived.Ground.SlsfProg
import Derived.Test.YtfecgcdceegdlaaDoorProg
namespace Go.Proofs
open Go.Shelf
def Tryd.sortH_ren : Go.Shelf.Ren := ⟨fun | 6 => 79 | 15 => 110 | 14 => 109 | 28 => 134 | 29 => 135 | 20 => 126 | 21 => 127 | 22 => 128 | 23 => 129 | 24 => 130 | 25 => 131 | 26 => 132 | 27 => 133 | 46 => 150 | 47 => 151 | 48 => 152 | 49 => 153 | 50 => 154 | 57 => 166 | n => n, fun | 22 => 61 | 24 => 64 | 25 => 140 | 3 => 3 | 39 => 155 | 0 => 0 | 53 => 197 | 55 => 199 | 4 => 4 | 46 => 191 | 45 => 190 | 50 => 133 | 5 => 5 | 9 => 9 | 66 => 211 | 70 => 215 | 76 => 224 | 77 => 163 | n => n, fun | n => n⟩
theorem Tryd.sortH : Go.Proofs.SlLaysF0.n6 Tryd.prog Tryd.sortH_ren := {
  mixed := by kernel_rfl
  f6 := ⟨Tryd.f79.name, by decide, Tryd.func79.trans (congrArg some (by kernel_rfl))⟩
  f14 := ⟨Tryd.f109.name, by decide, Tryd.func109.trans (congrArg some (by kernel_rfl))⟩
  f15 := Tryd.func110.trans (congrArg some (by kernel_rfl))
  f20 := ⟨Tryd.f126.name, by decide, Tryd.func126.trans (congrArg some (by kernel_rfl))⟩
  f21 := ⟨Tryd.f127.name, by decide, Tryd.func127.trans (congrArg some (by kernel_rfl))⟩
  f22 := ⟨Tryd.f128.name, by decide, Tryd.func128.trans (congrArg some (by kernel_rfl))⟩
  f23 := ⟨Tryd.f129.name, by decide, Tryd.func129.trans (congrArg some (by kernel_rfl))⟩
  f24 := ⟨Tryd.f130.name, by decide, Tryd.func130.trans (congrArg some (by kernel_rfl))⟩
  f25 := ⟨Tryd.f131.name, by decide, Tryd.func131.trans (congrArg some (by kernel_rfl))⟩
  f26 := ⟨Tryd.f132.name, by decide, Tryd.func132.trans (congrArg some (by kernel_rfl))⟩
  f27 := ⟨Tryd.f133.name, by decide, Tryd.func133.trans (congrArg some (by kernel_rfl))⟩
  f28 := Tryd.func134.trans (congrArg some (by kernel_rfl))
  f29 := Tryd.func135.trans (congrArg some (by kernel_rfl))
  f46 := ⟨Tryd.f150.name, by decide, Tryd.func150.trans (congrArg some (by kernel_rfl))⟩
  f47 := Tryd.func151.trans (congrArg some (by kernel_rfl))
  f48 := Tryd.func152.trans (congrArg some (by kernel_rfl))
  f49 := ⟨Tryd.f153.name, by decide, Tryd.func153.trans (congrArg some (by kernel_rfl))⟩
  f50 := ⟨Tryd.f154.name, by decide, Tryd.func154.trans (congrArg some (by kernel_rfl))⟩
  f57 := ⟨Tryd.f166.name, by decide, Tryd.func166.trans (congrArg some (by kernel_rfl))⟩
  t0 := Tryd.underlying0
  a0 := Tryd.isAgg0
  z0 := Tryd.sizeOf0
  v0 := Tryd.zeroValue0
  t3 := Tryd.underlying3
  a3 := Tryd.isAgg3
  z3 := Tryd.sizeOf3
  v3 := Tryd.zeroValue3
  t4 := Tryd.underlying4
  a4 := Tryd.isAgg4
  z4 := Tryd.sizeOf4
  v4 := Tryd.zeroValue4
  t5 := Tryd.underlying5
  a5 := Tryd.isAgg5
  z5 := Tryd.sizeOf5
  v5 := Tryd.zeroValue5
  t9 := Tryd.underlying9
  a9 := Tryd.isAgg9
  z9 := Tryd.sizeOf9
  v9 := Tryd.zeroValue9
  t22 := Tryd.underlying61
  a22 := Tryd.isAgg61
  z22 := Tryd.sizeOf61
  v22 := Tryd.zeroValue61
  t25 := Tryd.underlying140
  a25 := Tryd.isAgg140
  z25 := Tryd.sizeOf140
  v25 := Tryd.zeroValue140
  t39 := Tryd.underlying155
  a39 := Tryd.isAgg155
  z39 := Tryd.sizeOf155
  v39 := Tryd.zeroValue155
  t45 := Tryd.underlying190
  a45 := Tryd.isAgg190
  z45 := Tryd.sizeOf190
  v45 := Tryd.zeroValue190
  t46 := Tryd.underlying191
  a46 := Tryd.isAgg191
  z46 := Tryd.sizeOf191
  v46 := Tryd.zeroValue191
  t50 := Tryd.underlying133
  a50 := Tryd.isAgg133
  z50 := Tryd.sizeOf133
  v50 := Tryd.zeroValue133
  t53 := Tryd.underlying197
  a53 := Tryd.isAgg197
  z53 := Tryd.sizeOf197
  v53 := Tryd.zeroValue197
  t55 := Tryd.underlying199
  a55 := Tryd.isAgg199
  z55 := Tryd.sizeOf199
  v55 := Tryd.zeroValue199
  t66 := Tryd.underlying211
  a66 := Tryd.isAgg211
  z66 := Tryd.sizeOf211
  v66 := Tryd.zeroValue211
  t70 := Tryd.underlying215
  a70 := Tryd.isAgg215
  z70 := Tryd.sizeOf215
  v70 := Tryd.zeroValue215
  t76 := Tryd.underlying224
  a76 := Tryd.isAgg224
  z76 := Tryd.sizeOf224
  v76 := Tryd.zeroValue224
  t77 := Tryd.underlying163
  a77 := Tryd.isAgg163
  z77 := Tryd.sizeOf163
  v77 := Tryd.zeroValue163 }
end Go.Proofs
