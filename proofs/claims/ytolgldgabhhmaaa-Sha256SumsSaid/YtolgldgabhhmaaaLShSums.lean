/-
  Sha256Sums: the walk. Conditions: none.
-/
import Derived.Test.YtolgldgabhhmaaaShL
namespace Go.Proofs.Ytolgldgabhhmaaa
set_option linter.unusedVariables false
open Go.RowKit

theorem shaSums_walk (s : Sh.Str) (hs : s.length ≤ 9223372036854775807) (w : World) : Calls Try.prog 3 #[.string ⟨s.toArray⟩] w fun e w' => e = .returned (.bool true) ∧ Below w.heap.size w w' := by
  go_enter Try.func3, Try.ntmps3
  go_wp2_with fail
  refine (awake_sha w).mono ?_
  rintro e w1 ⟨rfl, b1⟩
  by_cases hl : 2000 < s.length
  · have h1 : decide ((s.length : Int) > 2000) = true := by simp; omega
    go_wp2
    go_ret
    exact ⟨rfl, b1⟩
  · have h1 : decide ((s.length : Int) > 2000) = false := by simp; omega
    go_wp2_with fail
    refine (sum_below s (by omega) w1).mono ?_
    rintro e w2 ⟨rfl, b2⟩
    go_wp2_with fail
    refine (rsum_spec s (by omega) w2).mono ?_
    rintro e w3 ⟨rfl, b3⟩
    go_wp2
    go_ret
    exact ⟨rfl, (((St.nil w).under b1).under b2 |>.under b3).below⟩
end Go.Proofs.Ytolgldgabhhmaaa
