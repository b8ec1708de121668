/-
  DERIVED: THE SHELF's CONTRACTS AT THIS DUMP, IN PLAIN WORDS (tools/lay-plain.mjs out of 'YtjjpdnpbhdcpbaaGreatLayC.lean', which tools/lay-shelf.mjs wrote): THE SAME DECLARATIONS UNDER THE SAME NAMES: 'import', 'namespace', 'open', 'def', 'theorem' AND NOTHING ELSE: no command of the shelf's: FOR A HAND-IN. Each laying: the table of numbers ('.._ren') and one theorem, a field a fact of the dump's own or the kernel's comparison; each contract: ONE APPLICATION.
-/
import Derived.Shelf.Pu.Clone
import Derived.Test.YtjjpdnpbhdcpbaaGreatProg
namespace Go.Proofs
open Go.Shelf
def Tryz.laysClone_ren : Go.Shelf.Ren := ⟨fun | 25 => 183 | n => n, fun | 9 => 9 | 3 => 3 | 4 => 4 | 37 => 76 | 0 => 0 | 47 => 179 | 5 => 5 | n => n, fun | n => n⟩
theorem Tryz.laysClone : Go.Proofs.LaysPu.n25 Tryz.prog Tryz.laysClone_ren := {
  mixed := by kernel_rfl
  f25 := Tryz.func183.trans (congrArg some (by kernel_rfl))
  t0 := Tryz.underlying0
  a0 := Tryz.isAgg0
  z0 := Tryz.sizeOf0
  v0 := Tryz.zeroValue0
  i0 := by kernel_rfl
  t3 := Tryz.underlying3
  a3 := Tryz.isAgg3
  z3 := Tryz.sizeOf3
  v3 := Tryz.zeroValue3
  i3 := by kernel_rfl
  t4 := Tryz.underlying4
  a4 := Tryz.isAgg4
  z4 := Tryz.sizeOf4
  v4 := Tryz.zeroValue4
  i4 := by kernel_rfl
  t5 := Tryz.underlying5
  a5 := Tryz.isAgg5
  z5 := Tryz.sizeOf5
  v5 := Tryz.zeroValue5
  i5 := by kernel_rfl
  t9 := Tryz.underlying9
  a9 := Tryz.isAgg9
  z9 := Tryz.sizeOf9
  v9 := Tryz.zeroValue9
  i9 := by kernel_rfl
  t37 := Tryz.underlying76
  a37 := Tryz.isAgg76
  z37 := Tryz.sizeOf76
  v37 := Tryz.zeroValue76
  i37 := by kernel_rfl
  t47 := Tryz.underlying179
  a47 := Tryz.isAgg179
  z47 := Tryz.sizeOf179
  v47 := Tryz.zeroValue179
  i47 := by kernel_rfl }
end Go.Proofs
