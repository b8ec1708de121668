/-
  DERIVED: THE SHELF's CONTRACTS AT THIS DUMP, IN PLAIN WORDS (tools/lay-plain.mjs out of 'YtiklfjehhdbhfaaLayL.lean', which tools/lay-shelf.mjs wrote): THE SAME DECLARATIONS UNDER THE SAME NAMES: 'import', 'namespace', 'open', 'def', 'theorem' AND NOTHING ELSE: no command of the shelf's: FOR A HAND-IN. Each laying: the table of numbers ('.._ren') and one theorem, a field a fact of the dump's own or the kernel's comparison; each contract: ONE APPLICATION.
-/
import Derived.Shelf.Small.Bits
import Derived.Test.YtiklfjehhdbhfaaProg
namespace Go.Proofs
open Go.Shelf
def Try.laysLen_ren : Go.Shelf.Ren := ⟨fun | 125 => 67 | 128 => 80 | 129 => 81 | n => n, fun | 46 => 46 | 3 => 3 | 51 => 62 | 53 => 64 | 4 => 4 | 5 => 5 | 9 => 9 | n => n, fun | n => n⟩
theorem Try.laysLen : Go.Proofs.Lays.n125 Try.prog Try.laysLen_ren := {
  mixed := by kernel_rfl
  f125 := Try.func67.trans (congrArg some (by kernel_rfl))
  f128 := Try.func80.trans (congrArg some (by kernel_rfl))
  f129 := Try.func81.trans (congrArg some (by kernel_rfl))
  t3 := Try.underlying3
  a3 := Try.isAgg3
  z3 := Try.sizeOf3
  v3 := Try.zeroValue3
  t4 := Try.underlying4
  a4 := Try.isAgg4
  z4 := Try.sizeOf4
  v4 := Try.zeroValue4
  t5 := Try.underlying5
  a5 := Try.isAgg5
  z5 := Try.sizeOf5
  v5 := Try.zeroValue5
  t9 := Try.underlying9
  a9 := Try.isAgg9
  z9 := Try.sizeOf9
  v9 := Try.zeroValue9
  t46 := Try.underlying46
  a46 := Try.isAgg46
  z46 := Try.sizeOf46
  v46 := Try.zeroValue46
  t51 := Try.underlying62
  a51 := Try.isAgg62
  z51 := Try.sizeOf62
  v51 := Try.zeroValue62
  t53 := Try.underlying64
  a53 := Try.isAgg64
  z53 := Try.sizeOf64
  v53 := Try.zeroValue64 }
end Go.Proofs
