/-
  The reference's chains, leaves and valid key trees. Conditions: strings of at most 2^30 bytes, heights of at most 6.
-/
import Derived.Test.YtnlpakalcckaiaaSgK
import Derived.Test.YtnlpakalcckaiaaMkA
import Derived.Test.YtnlpakalcckaiaaShaB
import Derived.Test.YtnlpakalcckaiaaCdA
namespace Go.Proofs.Ytnlpakalcckaiaa
set_option linter.unusedVariables false
open Go.RowKit Go.Shelf
attribute [local go_sem] Oper.semAt_some

theorem nums2 (a b : Nat) : Sg.nums [a, b] = Cd.uns a ++ Cd.uns b := by simp [Sg.nums]
theorem nums3 (a b c : Nat) : Sg.nums [a, b, c] = Cd.uns a ++ (Cd.uns b ++ Cd.uns c) := by simp [Sg.nums]
theorem belowN {B : Nat} {a w : World} (h : Below B a w) (n : Nat) : Below B a (w.drewN n) := h.trans ⟨rfl, rfl, rfl, Nat.le_refl _, fun _ _ => rfl⟩
end Go.Proofs.Ytnlpakalcckaiaa
