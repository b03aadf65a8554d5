/-
  DERIVED: THE SHELF's CONTRACTS AT THIS DUMP, IN PLAIN WORDS (tools/lay-plain.mjs out of 'YtplhilglokbplaaLyS.lean', which tools/lay-shelf.mjs wrote): THE SAME DECLARATIONS UNDER THE SAME NAMES: 'import', 'namespace', 'open', 'def', 'theorem' AND NOTHING ELSE: no command of the shelf's: FOR A HAND-IN. Each laying: the table of numbers ('.._ren') and one theorem, a field a fact of the dump's own or the kernel's comparison; each contract: ONE APPLICATION.
-/
import Derived.Test.YtplhilglokbplaaProg
import Derived.Shelf.SlSortCmp.WholeK
namespace Go.Proofs
open Go.Shelf
def Ytplhilglokbplaa.sort157_ren : Go.Shelf.Ren := ⟨fun | 6 => 157 | 15 => 173 | 14 => 188 | 28 => 198 | 29 => 199 | 20 => 214 | 21 => 215 | 22 => 216 | 23 => 217 | 24 => 218 | 25 => 219 | 26 => 220 | 27 => 221 | 46 => 234 | 47 => 224 | 48 => 225 | 49 => 235 | 50 => 236 | 57 => 241 | n => n, fun | 22 => 85 | 24 => 84 | 25 => 165 | 3 => 3 | 39 => 235 | 0 => 0 | 53 => 283 | 55 => 285 | 4 => 4 | 46 => 277 | 45 => 276 | 50 => 80 | 5 => 5 | 9 => 9 | 66 => 305 | 70 => 309 | 76 => 316 | 77 => 317 | n => n, fun | n => n⟩
theorem Ytplhilglokbplaa.sort157 : Go.Proofs.SlLaysF0.n6 Try.prog Ytplhilglokbplaa.sort157_ren := {
  mixed := by kernel_rfl
  f6 := ⟨Try.f157.name, by decide, Try.func157.trans (congrArg some (by kernel_rfl))⟩
  f14 := ⟨Try.f188.name, by decide, Try.func188.trans (congrArg some (by kernel_rfl))⟩
  f15 := Try.func173.trans (congrArg some (by kernel_rfl))
  f20 := ⟨Try.f214.name, by decide, Try.func214.trans (congrArg some (by kernel_rfl))⟩
  f21 := ⟨Try.f215.name, by decide, Try.func215.trans (congrArg some (by kernel_rfl))⟩
  f22 := ⟨Try.f216.name, by decide, Try.func216.trans (congrArg some (by kernel_rfl))⟩
  f23 := ⟨Try.f217.name, by decide, Try.func217.trans (congrArg some (by kernel_rfl))⟩
  f24 := ⟨Try.f218.name, by decide, Try.func218.trans (congrArg some (by kernel_rfl))⟩
  f25 := ⟨Try.f219.name, by decide, Try.func219.trans (congrArg some (by kernel_rfl))⟩
  f26 := ⟨Try.f220.name, by decide, Try.func220.trans (congrArg some (by kernel_rfl))⟩
  f27 := ⟨Try.f221.name, by decide, Try.func221.trans (congrArg some (by kernel_rfl))⟩
  f28 := Try.func198.trans (congrArg some (by kernel_rfl))
  f29 := Try.func199.trans (congrArg some (by kernel_rfl))
  f46 := ⟨Try.f234.name, by decide, Try.func234.trans (congrArg some (by kernel_rfl))⟩
  f47 := Try.func224.trans (congrArg some (by kernel_rfl))
  f48 := Try.func225.trans (congrArg some (by kernel_rfl))
  f49 := ⟨Try.f235.name, by decide, Try.func235.trans (congrArg some (by kernel_rfl))⟩
  f50 := ⟨Try.f236.name, by decide, Try.func236.trans (congrArg some (by kernel_rfl))⟩
  f57 := ⟨Try.f241.name, by decide, Try.func241.trans (congrArg some (by kernel_rfl))⟩
  t0 := Try.underlying0
  a0 := Try.isAgg0
  z0 := Try.sizeOf0
  v0 := Try.zeroValue0
  t3 := Try.underlying3
  a3 := Try.isAgg3
  z3 := Try.sizeOf3
  v3 := Try.zeroValue3
  t4 := Try.underlying4
  a4 := Try.isAgg4
  z4 := Try.sizeOf4
  v4 := Try.zeroValue4
  t5 := Try.underlying5
  a5 := Try.isAgg5
  z5 := Try.sizeOf5
  v5 := Try.zeroValue5
  t9 := Try.underlying9
  a9 := Try.isAgg9
  z9 := Try.sizeOf9
  v9 := Try.zeroValue9
  t22 := Try.underlying85
  a22 := Try.isAgg85
  z22 := Try.sizeOf85
  v22 := Try.zeroValue85
  t25 := Try.underlying165
  a25 := Try.isAgg165
  z25 := Try.sizeOf165
  v25 := Try.zeroValue165
  t39 := Try.underlying235
  a39 := Try.isAgg235
  z39 := Try.sizeOf235
  v39 := Try.zeroValue235
  t45 := Try.underlying276
  a45 := Try.isAgg276
  z45 := Try.sizeOf276
  v45 := Try.zeroValue276
  t46 := Try.underlying277
  a46 := Try.isAgg277
  z46 := Try.sizeOf277
  v46 := Try.zeroValue277
  t50 := Try.underlying80
  a50 := Try.isAgg80
  z50 := Try.sizeOf80
  v50 := Try.zeroValue80
  t53 := Try.underlying283
  a53 := Try.isAgg283
  z53 := Try.sizeOf283
  v53 := Try.zeroValue283
  t55 := Try.underlying285
  a55 := Try.isAgg285
  z55 := Try.sizeOf285
  v55 := Try.zeroValue285
  t66 := Try.underlying305
  a66 := Try.isAgg305
  z66 := Try.sizeOf305
  v66 := Try.zeroValue305
  t70 := Try.underlying309
  a70 := Try.isAgg309
  z70 := Try.sizeOf309
  v70 := Try.zeroValue309
  t76 := Try.underlying316
  a76 := Try.isAgg316
  z76 := Try.sizeOf316
  v76 := Try.zeroValue316
  t77 := Try.underlying317
  a77 := Try.isAgg317
  z77 := Try.sizeOf317
  v77 := Try.zeroValue317 }
end Go.Proofs
