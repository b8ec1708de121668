/-
  The closed facts of the given row,each by the kernel. Conditions: none.
-/
import Derived.Test.YtiefajiebebgoaaGreatDoorRows
import Derived.JoinedOf
import Derived.RowKit
import Derived.Stop.Joined
set_option maxRecDepth 100000
set_option maxHeartbeats 40000000
open Go.Proofs.Tryz
namespace Go.Proofs.YtiefajiebebgoaaGreatDoor
set_option linter.unusedVariables false
open Go
theorem and_mk {a b:Bool} (h:a=true) (g:b=true):(a&&b)=true:=by rw[h,g];rfl
theorem closedT:joinedFacts prog 3 Tryz.f3 Rows.topMinimalSpec Rows.topMinimalRow=true:=by
 unfold joinedFacts
 repeat' (with_reducible refine and_mk ?_ ?_)
 all_goals as_aux_lemma=>kernel_rfl
end Go.Proofs.YtiefajiebebgoaaGreatDoor
