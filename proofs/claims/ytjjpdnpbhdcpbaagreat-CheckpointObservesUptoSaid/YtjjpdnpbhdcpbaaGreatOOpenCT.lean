/-
  The types of checkpoints in this program. Conditions: none.
-/
import Derived.Test.YtjjpdnpbhdcpbaaGreatOOpenC
namespace Go.Proofs.YtjjpdnpbhdcpbaaGreat
set_option linter.unusedVariables false
open Go.RowKit
theorem baseT : BaseT Tryz.prog 3 9 27 := ⟨Tryz.underlying3, Tryz.underlying9, Tryz.underlying27, by kernel_rfl, by kernel_rfl, by kernel_rfl⟩
theorem ckT : CkT Tryz.prog 3 9 27 29 64 30 25 32 :=
 ⟨baseT, ⟨_, _, _, Tryz.underlying29, rfl, rfl, rfl, rfl, rfl, rfl⟩, by kernel_rfl, ⟨_, _, Tryz.underlying64, rfl, rfl, rfl, rfl⟩, by kernel_rfl, Tryz.underlying30, by kernel_rfl, ⟨_, _, _, Tryz.underlying25, rfl, rfl, rfl, rfl, rfl, rfl⟩, by kernel_rfl, ⟨_, _, _, Tryz.underlying32, rfl, rfl, rfl, rfl, rfl, rfl⟩, by kernel_rfl⟩
end Go.Proofs.YtjjpdnpbhdcpbaaGreat
