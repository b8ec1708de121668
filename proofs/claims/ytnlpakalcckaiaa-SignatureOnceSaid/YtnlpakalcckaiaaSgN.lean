/-
  The reference's digits. Conditions: messages of at most 2^30 bytes.
-/
import Derived.Test.YtnlpakalcckaiaaSgM
import Derived.Test.YtnlpakalcckaiaaBase
namespace Go.Proofs.Ytnlpakalcckaiaa
set_option linter.unusedVariables false
open Go.RowKit Go.Shelf
attribute [local go_sem] Oper.semAt_some

theorem dl_take (s : Sg.Str) (k : Nat) (h : k < s.length) : Sg.dl (s.take (k + 1)) = Sg.dl (s.take k) ++ [s[k].toNat / 16, s[k].toNat % 16] := by
  unfold Sg.dl
  rw [List.take_succ_eq_append_getElem h, List.flatMap_append]
  simp
end Go.Proofs.Ytnlpakalcckaiaa
