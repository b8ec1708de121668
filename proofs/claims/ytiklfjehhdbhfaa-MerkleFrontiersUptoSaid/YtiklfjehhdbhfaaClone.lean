/-
  slices.Clone at strings: a slice of the call's own with the same strings. Conditions: lengths below 2^40.
-/
import Derived.Test.YtiklfjehhdbhfaaProg
import Derived.Test.YtiklfjehhdbhfaaAppend
namespace Go.Proofs.Ytiklfjehhdbhfaa
set_option linter.unusedVariables false
open Go.RowKit
theorem info_strc : (Try.prog.info? 9).map (fun i => (i.zero, i.size, i.bytes)) = some (some (.string ⟨#[]⟩), 1, 16) := by kernel_rfl

set_option maxHeartbeats 400000 in
theorem clone_spec (A : Option Addr) (L : List (List UInt8)) (c : Nat) (w : World) (hR : Rd w A (strs L)) (hnil : A = none → L.length = 0 ∧ c = 0) (hL : L.length ≤ 1099511627776) :
    Calls Try.prog 29 #[.slice A L.length c] w fun e w' => ∃ v, e = .returned v ∧ w'.ownsRow w.heap.size 9 1 v L.length (strs L) ∧ Below w.heap.size w w' := by
  cases A with
  | none =>
    obtain ⟨h1, rfl⟩ := hnil rfl
    have hL0 : L = [] := List.eq_nil_of_length_eq_zero h1
    subst hL0
    have kn := fun w => Lib.run_eql_slice_nil (P := Try.prog) w 22 9 none 0 0 0 0 Try.underlying22
    clear hR hnil h1 hL
    go_enter Try.func29, Try.ntmps29
    go_wp2
    go_ret
    exact ⟨_, rfl, World.ownsRow_nil _ _ _ _, Below.refl _ _⟩
  | some a =>
    have kn := fun w => Lib.run_eql_slice_nil (P := Try.prog) w 22 9 (some a) L.length c 0 0 Try.underlying22
    go_enter Try.func29, Try.ntmps29
    go_wp2_with (at_builtin; go_must (refine appendN _ 22 9 (.string ⟨#[]⟩) 16 w.heap.size Try.underlying22 info_strc rfl rfl _ _ rfl _ 0 [] (some a) L.length c (strs L) (World.ownsRow_lit w #[] 0 (Nat.le_refl _) (by decide) rfl) rfl rfl hnil (hR.alloc _) (strs_length L) (strs_one L) (by omega) (by unfold maxLen; omega) (by simp) ?_))
    intro v1 w1 o1 g1
    go_wp2
    go_ret
    refine ⟨_, rfl, ?_, ((Below.refl _ w).alloc (Nat.le_refl _) _).grown g1 (by simp) (fun k hk => by cases hk; exact Nat.le_refl _)⟩
    simpa using o1
end Go.Proofs.Ytiklfjehhdbhfaa
