/-
  The constants and the schedule of the program's SHA-256. Conditions: blocks of 64 bytes.
-/
import Derived.Test.YtiklfjehhdbhfaaShA
import Derived.Test.YtiklfjehhdbhfaaRowAll
import Derived.BigRegion
namespace Go.Proofs.Ytiklfjehhdbhfaa
set_option linter.unusedVariables false
open Go.RowKit

/-- words as cells -/
def u32s (l : List Nat) : List Value := l.map fun x : Nat => Value.int .u32 (x : Int)
def arr (l : List Nat) : Array Value := (u32s l).toArray
theorem u32s_length (l : List Nat) : (u32s l).length = l.length := by simp [u32s]
theorem arr_set (l : List Nat) (i x : Nat) : (arr l).setIfInBounds i (.int .u32 x) = arr (l.set i x) := by
  simp [arr, u32s, List.map_set]
theorem arr_size (l : List Nat) : (arr l).size = l.length := by simp [arr, u32s]
theorem arr_one (l : List Nat) : (arr l).all (·.oneCell') = true := all_oneCell_toArray (by intro v hv; simp only [u32s, List.mem_map] at hv; obtain ⟨x, _, rfl⟩ := hv; rfl)
theorem size72 : (Try.prog.info? 95).map (·.size) = some 64 := by kernel_rfl
set_option maxRecDepth 20000 in
set_option maxHeartbeats 2000000 in
theorem constants_spec (w : World) : Calls Try.prog 87 #[] w fun e w' => e = .returned (.agg (arr Sh.ks)) ∧ Below w.heap.size w w' := by
  go_enter Try.func87, Try.ntmps87
  go_wp2_with (with_reducible refine store_all ((St.nil w).alloc _ _) rfl 95 _ _ rfl (arr Sh.ks) rfl ?_ ?_ ?_ ?_ ?_
               · exact rfl
               · exact rfl
               · exact size72
               · exact arr_one _
               intro w1 h1)
  refine bodyPost_ret (v := .agg (arr Sh.ks)) (results_cell_row Try.results87 _ _ _ _ _ _ _ rfl h1.blk Try.underlying95 rfl size72) rfl ?_
  exact ⟨rfl, h1.below⟩
end Go.Proofs.Ytiklfjehhdbhfaa
