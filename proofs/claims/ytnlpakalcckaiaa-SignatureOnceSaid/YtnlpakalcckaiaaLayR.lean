/-
  DERIVED: THE SHELF's CONTRACTS AT THIS DUMP, IN PLAIN WORDS (tools/lay-plain.mjs out of 'YtnlpakalcckaiaaLayR.lean', which tools/lay-shelf.mjs wrote): THE SAME DECLARATIONS UNDER THE SAME NAMES: 'import', 'namespace', 'open', 'def', 'theorem' AND NOTHING ELSE: no command of the shelf's: FOR A HAND-IN. Each laying: the table of numbers ('.._ren') and one theorem, a field a fact of the dump's own or the kernel's comparison; each contract: ONE APPLICATION.
-/
import Derived.Shelf.Strings.Runes
import Derived.Test.YtnlpakalcckaiaaProg
namespace Go.Proofs
open Go.Shelf
def Try.laysIndexRune_ren : Go.Shelf.Ren := ⟨fun | 152 => 41 | 137 => 70 | 119 => 71 | 224 => 72 | 225 => 73 | 217 => 88 | 266 => 96 | n => n, fun | 9 => 9 | 21 => 21 | 3 => 3 | 4 => 4 | 5 => 5 | 0 => 0 | 46 => 80 | n => n, fun | n => n⟩
theorem Try.laysIndexRune : Go.Proofs.Lays.n152 Try.prog Try.laysIndexRune_ren := {
  mixed := by kernel_rfl
  f119 := Try.func71.trans (congrArg some (by kernel_rfl))
  f137 := Try.func70.trans (congrArg some (by kernel_rfl))
  f152 := Try.func41.trans (congrArg some (by kernel_rfl))
  f217 := Try.func88.trans (congrArg some (by kernel_rfl))
  f224 := Try.func72.trans (congrArg some (by kernel_rfl))
  f225 := Try.func73.trans (congrArg some (by kernel_rfl))
  f266 := Try.func96.trans (congrArg some (by kernel_rfl))
  t0 := Try.underlying0
  a0 := Try.isAgg0
  z0 := Try.sizeOf0
  v0 := Try.zeroValue0
  t3 := Try.underlying3
  a3 := Try.isAgg3
  z3 := Try.sizeOf3
  v3 := Try.zeroValue3
  t4 := Try.underlying4
  a4 := Try.isAgg4
  z4 := Try.sizeOf4
  v4 := Try.zeroValue4
  t5 := Try.underlying5
  a5 := Try.isAgg5
  z5 := Try.sizeOf5
  v5 := Try.zeroValue5
  t9 := Try.underlying9
  a9 := Try.isAgg9
  z9 := Try.sizeOf9
  v9 := Try.zeroValue9
  t21 := Try.underlying21
  a21 := Try.isAgg21
  z21 := Try.sizeOf21
  v21 := Try.zeroValue21
  t46 := Try.underlying80
  a46 := Try.isAgg80
  z46 := Try.sizeOf80
  v46 := Try.zeroValue80 }
end Go.Proofs
