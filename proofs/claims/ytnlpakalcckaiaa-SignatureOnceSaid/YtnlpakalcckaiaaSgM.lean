/-
  The reference's public keys and the keys that it skips. Conditions: seeds of at most 2^30 bytes.
-/
import Derived.Test.YtnlpakalcckaiaaSgL
namespace Go.Proofs.Ytnlpakalcckaiaa
set_option linter.unusedVariables false
open Go.RowKit Go.Shelf
attribute [local go_sem] Oper.semAt_some

theorem validB_zero (seed : Sg.Str) (h : Int) : validB seed h 0 = treeB seed h := by
  unfold validB
  rw [decide_eq_true (Int.le_refl 0), decide_eq_true (Int.natCast_nonneg _), Bool.and_self, Bool.and_true]
end Go.Proofs.Ytnlpakalcckaiaa
