/-
  (*strings.Builder).WriteByte. Conditions: what is held stays below 2^47 bytes.
-/
import Derived.Test.YtnlpakalcckaiaaCdA
import Derived.Lib.FrozenHead2
namespace Go.Proofs.Ytnlpakalcckaiaa
set_option linter.unusedVariables false
open Go.RowKit

end Go.Proofs.Ytnlpakalcckaiaa
