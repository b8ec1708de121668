/-
  Sha256Hexes: the walk. Conditions: none.
-/
import Derived.Test.YtolgldgabhhmaaaShL
namespace Go.Proofs.Ytolgldgabhhmaaa
set_option linter.unusedVariables false
open Go.RowKit

theorem shaHexes_walk (s d : Sh.Str) (hs : s.length ≤ 9223372036854775807) (hd : d.length ≤ 9223372036854775807) (w : World) : Calls Try.prog 5 #[.string ⟨s.toArray⟩, .string ⟨d.toArray⟩] w fun e w' => e = .returned (.bool true) ∧ Below w.heap.size w w' := by
  go_enter Try.func5, Try.ntmps5
  go_wp2_with fail
  refine (awake_sha w).mono ?_
  rintro e w1 ⟨rfl, b1⟩
  by_cases hl : 2000 < s.length
  · have h1 : decide ((s.length : Int) > 2000) = true := by simp; omega
    go_wp2
    go_ret
    exact ⟨rfl, b1⟩
  have h1 : decide ((s.length : Int) > 2000) = false := by simp; omega
  by_cases hm : 2000 < d.length
  · have h2 : decide ((d.length : Int) > 2000) = true := by simp; omega
    go_wp2
    go_ret
    exact ⟨rfl, b1⟩
  have h2 : decide ((d.length : Int) > 2000) = false := by simp; omega
  obtain ⟨P, e0, hP⟩ : ∃ P e0, parseR d = .tuple #[.string P, .int .i64 e0] := by
    unfold parseR
    split
    · exact ⟨_, _, rfl⟩
    · exact ⟨_, _, rfl⟩
  have k1 := parse_spec d (by omega)
  have k2 := rparse_spec d (by omega)
  rw [hP] at k1 k2
  clear hP
  go_wp2_with fail
  refine (k1 w1).mono ?_
  rintro e w2 ⟨rfl, b2⟩
  go_wp2_with fail
  refine (k2 w2).mono ?_
  rintro e w3 ⟨rfl, b3⟩
  go_wp2_with fail
  refine (hex_spec s (by omega) w3).mono ?_
  rintro e w4 ⟨rfl, b4⟩
  go_wp2_with fail
  refine (rhex_spec s (by omega) w4).mono ?_
  rintro e w5 ⟨rfl, b5⟩
  go_wp2
  go_ret
  exact ⟨rfl, (((((St.nil w).under b1).under b2).under b3).under b4 |>.under b5).below⟩
end Go.Proofs.Ytolgldgabhhmaaa
