/-
  DERIVED: THE SHELF's CONTRACTS AT THIS DUMP, IN PLAIN WORDS (tools/lay-plain.mjs out of 'YtiklfjehhdbhfaaLayJ.lean', which tools/lay-shelf.mjs wrote): THE SAME DECLARATIONS UNDER THE SAME NAMES: 'import', 'namespace', 'open', 'def', 'theorem' AND NOTHING ELSE: no command of the shelf's: FOR A HAND-IN. Each laying: the table of numbers ('.._ren') and one theorem, a field a fact of the dump's own or the kernel's comparison; each contract: ONE APPLICATION.
-/
import Derived.Shelf.Strings.OnBuilder
import Derived.Test.YtiklfjehhdbhfaaProg
namespace Go.Proofs
open Go.Shelf
def Try.laysJoin_ren : Go.Shelf.Ren := ⟨fun | 156 => 59 | 165 => 68 | 166 => 69 | 169 => 70 | 240 => 82 | 241 => 83 | 276 => 91 | 277 => 92 | n => n, fun | 31 => 22 | 9 => 9 | 3 => 3 | 4 => 4 | 0 => 0 | 20 => 20 | 72 => 78 | 76 => 82 | 70 => 76 | 37 => 70 | 75 => 81 | 127 => 93 | 164 => 102 | 5 => 5 | 80 => 74 | n => n, fun | n => n⟩
theorem Try.laysJoin : Go.Proofs.Lays.n156 Try.prog Try.laysJoin_ren := {
  mixed := by kernel_rfl
  f156 := Try.func59.trans (congrArg some (by kernel_rfl))
  f165 := Try.func68.trans (congrArg some (by kernel_rfl))
  f166 := Try.func69.trans (congrArg some (by kernel_rfl))
  f169 := Try.func70.trans (congrArg some (by kernel_rfl))
  f240 := Try.func82.trans (congrArg some (by kernel_rfl))
  f241 := Try.func83.trans (congrArg some (by kernel_rfl))
  f276 := Try.func91.trans (congrArg some (by kernel_rfl))
  f277 := Try.func92.trans (congrArg some (by kernel_rfl))
  t0 := Try.underlying0
  a0 := Try.isAgg0
  z0 := Try.sizeOf0
  v0 := Try.zeroValue0
  t3 := Try.underlying3
  a3 := Try.isAgg3
  z3 := Try.sizeOf3
  v3 := Try.zeroValue3
  t4 := Try.underlying4
  a4 := Try.isAgg4
  z4 := Try.sizeOf4
  v4 := Try.zeroValue4
  t9 := Try.underlying9
  a9 := Try.isAgg9
  z9 := Try.sizeOf9
  v9 := Try.zeroValue9
  t20 := Try.underlying20
  a20 := Try.isAgg20
  z20 := Try.sizeOf20
  v20 := Try.zeroValue20
  t31 := Try.underlying22
  a31 := Try.isAgg22
  z31 := Try.sizeOf22
  v31 := Try.zeroValue22
  t37 := Try.underlying70
  a37 := Try.isAgg70
  z37 := Try.sizeOf70
  v37 := Try.zeroValue70
  t70 := Try.underlying76
  a70 := Try.isAgg76
  z70 := Try.sizeOf76
  v70 := Try.zeroValue76
  t72 := Try.underlying78
  a72 := Try.isAgg78
  z72 := Try.sizeOf78
  v72 := Try.zeroValue78
  t75 := Try.underlying81
  a75 := Try.isAgg81
  z75 := Try.sizeOf81
  v75 := Try.zeroValue81
  t76 := Try.underlying82
  a76 := Try.isAgg82
  z76 := Try.sizeOf82
  v76 := Try.zeroValue82
  t127 := Try.underlying93
  a127 := Try.isAgg93
  z127 := Try.sizeOf93
  v127 := Try.zeroValue93
  t164 := Try.underlying102
  a164 := Try.isAgg102
  z164 := Try.sizeOf102
  v164 := Try.zeroValue102 }
end Go.Proofs
