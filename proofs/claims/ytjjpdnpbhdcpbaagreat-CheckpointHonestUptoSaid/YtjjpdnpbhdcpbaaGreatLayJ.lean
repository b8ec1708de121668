/-
  DERIVED: THE SHELF's CONTRACTS AT THIS DUMP, IN PLAIN WORDS (tools/lay-plain.mjs out of 'YtjjpdnpbhdcpbaaGreatLayJ.lean', which tools/lay-shelf.mjs wrote): THE SAME DECLARATIONS UNDER THE SAME NAMES: 'import', 'namespace', 'open', 'def', 'theorem' AND NOTHING ELSE: no command of the shelf's: FOR A HAND-IN. Each laying: the table of numbers ('.._ren') and one theorem, a field a fact of the dump's own or the kernel's comparison; each contract: ONE APPLICATION.
-/
import Derived.Shelf.Strings.OnBuilder
import Derived.Test.YtjjpdnpbhdcpbaaGreatProg
namespace Go.Proofs
open Go.Shelf
def Tryz.laysJoin_ren : Go.Shelf.Ren := ⟨fun | 156 => 185 | 165 => 171 | 166 => 111 | 169 => 114 | 240 => 157 | 241 => 190 | 276 => 184 | 277 => 198 | n => n, fun | 31 => 27 | 9 => 9 | 3 => 3 | 4 => 4 | 0 => 0 | 20 => 20 | 72 => 134 | 76 => 137 | 70 => 132 | 37 => 76 | 75 => 136 | 127 => 179 | 164 => 198 | 5 => 5 | 80 => 105 | n => n, fun | n => n⟩
theorem Tryz.laysJoin : Go.Proofs.Lays.n156 Tryz.prog Tryz.laysJoin_ren := {
  mixed := by kernel_rfl
  f156 := Tryz.func185.trans (congrArg some (by kernel_rfl))
  f165 := Tryz.func171.trans (congrArg some (by kernel_rfl))
  f166 := Tryz.func111.trans (congrArg some (by kernel_rfl))
  f169 := Tryz.func114.trans (congrArg some (by kernel_rfl))
  f240 := Tryz.func157.trans (congrArg some (by kernel_rfl))
  f241 := Tryz.func190.trans (congrArg some (by kernel_rfl))
  f276 := Tryz.func184.trans (congrArg some (by kernel_rfl))
  f277 := Tryz.func198.trans (congrArg some (by kernel_rfl))
  t0 := Tryz.underlying0
  a0 := Tryz.isAgg0
  z0 := Tryz.sizeOf0
  v0 := Tryz.zeroValue0
  t3 := Tryz.underlying3
  a3 := Tryz.isAgg3
  z3 := Tryz.sizeOf3
  v3 := Tryz.zeroValue3
  t4 := Tryz.underlying4
  a4 := Tryz.isAgg4
  z4 := Tryz.sizeOf4
  v4 := Tryz.zeroValue4
  t9 := Tryz.underlying9
  a9 := Tryz.isAgg9
  z9 := Tryz.sizeOf9
  v9 := Tryz.zeroValue9
  t20 := Tryz.underlying20
  a20 := Tryz.isAgg20
  z20 := Tryz.sizeOf20
  v20 := Tryz.zeroValue20
  t31 := Tryz.underlying27
  a31 := Tryz.isAgg27
  z31 := Tryz.sizeOf27
  v31 := Tryz.zeroValue27
  t37 := Tryz.underlying76
  a37 := Tryz.isAgg76
  z37 := Tryz.sizeOf76
  v37 := Tryz.zeroValue76
  t70 := Tryz.underlying132
  a70 := Tryz.isAgg132
  z70 := Tryz.sizeOf132
  v70 := Tryz.zeroValue132
  t72 := Tryz.underlying134
  a72 := Tryz.isAgg134
  z72 := Tryz.sizeOf134
  v72 := Tryz.zeroValue134
  t75 := Tryz.underlying136
  a75 := Tryz.isAgg136
  z75 := Tryz.sizeOf136
  v75 := Tryz.zeroValue136
  t76 := Tryz.underlying137
  a76 := Tryz.isAgg137
  z76 := Tryz.sizeOf137
  v76 := Tryz.zeroValue137
  t127 := Tryz.underlying179
  a127 := Tryz.isAgg179
  z127 := Tryz.sizeOf179
  v127 := Tryz.zeroValue179
  t164 := Tryz.underlying198
  a164 := Tryz.isAgg198
  z164 := Tryz.sizeOf198
  v164 := Tryz.zeroValue198 }
end Go.Proofs
