/-
  DERIVED: THE SHELF's CONTRACTS AT THIS DUMP, IN PLAIN WORDS (tools/lay-plain.mjs out of 'YtacjjfoelhckcaaDoorB0s.lean', which tools/lay-shelf.mjs wrote): THE SAME DECLARATIONS UNDER THE SAME NAMES: 'import', 'namespace', 'open', 'def', 'theorem' AND NOTHING ELSE: no command of the shelf's: FOR A HAND-IN. Each laying: the table of numbers ('.._ren') and one theorem, a field a fact of the dump's own or the kernel's comparison; each contract: ONE APPLICATION.
-/
import Derived.Test.YtacjjfoelhckcaaDoorProg
import Derived.Shelf.SlSortCmp.NoneTotal
import Derived.Shelf.SlicesE.Compact
import Derived.Shelf.SlGeneric
import Derived.Ground.SlsfProg
import Derived.Ground.SlgnProg
namespace Go.Proofs
open Go.Shelf
def Tryd.sortL_ren : Go.Shelf.Ren := ⟨fun | 6 => 116 | 15 => 146 | 14 => 145 | 28 => 164 | 29 => 165 | 20 => 156 | 21 => 157 | 22 => 158 | 23 => 159 | 24 => 160 | 25 => 161 | 26 => 162 | 27 => 163 | 46 => 174 | 47 => 175 | 48 => 176 | 49 => 177 | 50 => 178 | 57 => 180 | n => n, fun | 22 => 37 | 24 => 9 | 25 => 104 | 3 => 3 | 39 => 196 | 0 => 0 | 53 => 218 | 55 => 180 | 4 => 4 | 46 => 212 | 45 => 211 | 50 => 174 | 5 => 5 | 9 => 9 | 66 => 228 | 70 => 232 | 76 => 234 | 77 => 235 | n => n, fun | n => n⟩
theorem Tryd.sortL : Go.Proofs.SlLaysF.n6 Tryd.prog Tryd.sortL_ren := {
  mixed := by kernel_rfl
  f6 := ⟨Tryd.f116.name, by decide, Tryd.func116.trans (congrArg some (by kernel_rfl))⟩
  f14 := ⟨Tryd.f145.name, by decide, Tryd.func145.trans (congrArg some (by kernel_rfl))⟩
  f15 := Tryd.func146.trans (congrArg some (by kernel_rfl))
  f20 := ⟨Tryd.f156.name, by decide, Tryd.func156.trans (congrArg some (by kernel_rfl))⟩
  f21 := ⟨Tryd.f157.name, by decide, Tryd.func157.trans (congrArg some (by kernel_rfl))⟩
  f22 := ⟨Tryd.f158.name, by decide, Tryd.func158.trans (congrArg some (by kernel_rfl))⟩
  f23 := ⟨Tryd.f159.name, by decide, Tryd.func159.trans (congrArg some (by kernel_rfl))⟩
  f24 := ⟨Tryd.f160.name, by decide, Tryd.func160.trans (congrArg some (by kernel_rfl))⟩
  f25 := ⟨Tryd.f161.name, by decide, Tryd.func161.trans (congrArg some (by kernel_rfl))⟩
  f26 := ⟨Tryd.f162.name, by decide, Tryd.func162.trans (congrArg some (by kernel_rfl))⟩
  f27 := ⟨Tryd.f163.name, by decide, Tryd.func163.trans (congrArg some (by kernel_rfl))⟩
  f28 := Tryd.func164.trans (congrArg some (by kernel_rfl))
  f29 := Tryd.func165.trans (congrArg some (by kernel_rfl))
  f46 := ⟨Tryd.f174.name, by decide, Tryd.func174.trans (congrArg some (by kernel_rfl))⟩
  f47 := Tryd.func175.trans (congrArg some (by kernel_rfl))
  f48 := Tryd.func176.trans (congrArg some (by kernel_rfl))
  f49 := ⟨Tryd.f177.name, by decide, Tryd.func177.trans (congrArg some (by kernel_rfl))⟩
  f50 := ⟨Tryd.f178.name, by decide, Tryd.func178.trans (congrArg some (by kernel_rfl))⟩
  f57 := ⟨Tryd.f180.name, by decide, Tryd.func180.trans (congrArg some (by kernel_rfl))⟩
  t0 := Tryd.underlying0
  a0 := Tryd.isAgg0
  z0 := Tryd.sizeOf0
  v0 := Tryd.zeroValue0
  t3 := Tryd.underlying3
  a3 := Tryd.isAgg3
  z3 := Tryd.sizeOf3
  v3 := Tryd.zeroValue3
  t4 := Tryd.underlying4
  a4 := Tryd.isAgg4
  z4 := Tryd.sizeOf4
  v4 := Tryd.zeroValue4
  t5 := Tryd.underlying5
  a5 := Tryd.isAgg5
  z5 := Tryd.sizeOf5
  v5 := Tryd.zeroValue5
  t9 := Tryd.underlying9
  a9 := Tryd.isAgg9
  z9 := Tryd.sizeOf9
  v9 := Tryd.zeroValue9
  t22 := Tryd.underlying37
  a22 := Tryd.isAgg37
  z22 := Tryd.sizeOf37
  v22 := Tryd.zeroValue37
  a24 := Tryd.isAgg9
  z24 := Tryd.sizeOf9
  t25 := Tryd.underlying104
  a25 := Tryd.isAgg104
  z25 := Tryd.sizeOf104
  v25 := Tryd.zeroValue104
  t39 := Tryd.underlying196
  a39 := Tryd.isAgg196
  z39 := Tryd.sizeOf196
  v39 := Tryd.zeroValue196
  t45 := Tryd.underlying211
  a45 := Tryd.isAgg211
  z45 := Tryd.sizeOf211
  v45 := Tryd.zeroValue211
  t46 := Tryd.underlying212
  a46 := Tryd.isAgg212
  z46 := Tryd.sizeOf212
  v46 := Tryd.zeroValue212
  t50 := Tryd.underlying174
  a50 := Tryd.isAgg174
  z50 := Tryd.sizeOf174
  v50 := Tryd.zeroValue174
  t53 := Tryd.underlying218
  a53 := Tryd.isAgg218
  z53 := Tryd.sizeOf218
  v53 := Tryd.zeroValue218
  t55 := Tryd.underlying180
  a55 := Tryd.isAgg180
  z55 := Tryd.sizeOf180
  v55 := Tryd.zeroValue180
  t66 := Tryd.underlying228
  a66 := Tryd.isAgg228
  z66 := Tryd.sizeOf228
  v66 := Tryd.zeroValue228
  t70 := Tryd.underlying232
  a70 := Tryd.isAgg232
  z70 := Tryd.sizeOf232
  v70 := Tryd.zeroValue232
  t76 := Tryd.underlying234
  a76 := Tryd.isAgg234
  z76 := Tryd.sizeOf234
  v76 := Tryd.zeroValue234
  t77 := Tryd.underlying235
  a77 := Tryd.isAgg235
  z77 := Tryd.sizeOf235
  v77 := Tryd.zeroValue235 }
def Tryd.compL_ren : Go.Shelf.Ren := ⟨fun | 43 => 118 | n => n, fun | 22 => 37 | 23 => 9 | 3 => 3 | 4 => 4 | 0 => 0 | n => n, fun | n => n⟩
theorem Tryd.compL : Go.Proofs.SlLaysE.n43 Tryd.prog Tryd.compL_ren := {
  mixed := by kernel_rfl
  f43 := ⟨Tryd.f118.name, by decide, Tryd.func118.trans (congrArg some (by kernel_rfl))⟩
  t0 := Tryd.underlying0
  a0 := Tryd.isAgg0
  z0 := Tryd.sizeOf0
  v0 := Tryd.zeroValue0
  t3 := Tryd.underlying3
  a3 := Tryd.isAgg3
  z3 := Tryd.sizeOf3
  v3 := Tryd.zeroValue3
  t4 := Tryd.underlying4
  a4 := Tryd.isAgg4
  z4 := Tryd.sizeOf4
  v4 := Tryd.zeroValue4
  t22 := Tryd.underlying37
  a22 := Tryd.isAgg37
  z22 := Tryd.sizeOf37
  v22 := Tryd.zeroValue37
  a23 := Tryd.isAgg9
  z23 := Tryd.sizeOf9 }
end Go.Proofs
