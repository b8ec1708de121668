/-
  The rotations of the program's SHA-256 and its mixing closures. Conditions: words below 2^32.
-/
import Derived.Test.YtiklfjehhdbhfaaSep
import Derived.Test.YtiklfjehhdbhfaaShMath
import Derived.Test.YtiklfjehhdbhfaaProg
import Derived.Laws.BitsAllLaws
import Derived.BigQuiet
namespace Go.Proofs.Ytiklfjehhdbhfaa
set_option linter.unusedVariables false
open Go.RowKit

theorem run_shl (P : Program) (k yk : IntKind) (x : Int) (m : Nat) (w : World) (hm : m ≤ k.bits) : (Op.shift .shl k x yk (m : Int)).run P w = .ok (.int k (k.wrap (x * 2 ^ m))) w := by
  unfold Op.shift
  rw [if_neg (by omega)]
  simp [Nat.min_eq_left hm]
theorem run_shr (P : Program) (k yk : IntKind) (x : Nat) (m : Nat) (w : World) (hm : m ≤ k.bits) : (Op.shift .shr k (x : Int) yk (m : Int)).run P w = .ok (.int k ((x / 2 ^ m : Nat) : Int)) w := by
  unfold Op.shift
  rw [if_neg (by omega)]
  simp [Nat.min_eq_left hm]
  exact Int.fdiv_eq_ediv_of_nonneg _ (by exact_mod_cast Nat.zero_le (2 ^ m))
theorem neg_and (n : Nat) (h1 : 1 ≤ n) (h2 : n ≤ 31) : bits .and .u64 (IntKind.u64.wrap (-(n : Int))) 31 = ((32 - n : Nat) : Int) := by
  have e : IntKind.u64.wrap (-(n : Int)) = ((18446744073709551616 - n : Nat) : Int) := by rw [IntKind.wrap_u64]; omega
  rw [e, show (31 : Int) = ((31 : Nat) : Int) from rfl, u64_and_nat _ _ (by omega) (by decide)]
  rw [show (31 : Nat) = 2 ^ 5 - 1 from rfl, Nat.and_two_pow_sub_one_eq_mod]
  congr 1
  omega
theorem rotl_spec (x n : Nat) (hx : x < 4294967296) (h1 : 1 ≤ n) (h2 : n ≤ 31) (w : World) :
    Calls Try.prog 85 #[.int .u32 x, .int .i64 (-(n : Int))] w fun e w' => e = .returned (.int .u32 (Sh.rot x n)) ∧ w = w' := by
  have hA := neg_and n h1 h2
  obtain ⟨m, hm⟩ : ∃ m, 32 - n = m := ⟨_, rfl⟩
  rw [hm] at hA
  have hm1 : m ≤ 31 := by omega
  have hB : (IntKind.u64.wrap (32 - (m : Int))) = (n : Int) := by rw [IntKind.wrap_u64]; omega
  have hB2 : (32 : Int) - (m : Int) = (n : Int) := by omega
  have s1 := run_shl Try.prog .u32 .u64 x m w (by show m ≤ 32; omega)
  have s2 := run_shr Try.prog .u32 .u64 x n w (by show n ≤ 32; omega)
  have e1 : IntKind.u32.wrap ((x : Int) * 2 ^ m) = ((x * 2 ^ m % 4294967296 : Nat) : Int) := by rw [IntKind.wrap_u32']; simp
  rw [e1] at s1
  have hO : bits .or .u32 ((x * 2 ^ m % 4294967296 : Nat) : Int) ((x / 2 ^ n : Nat) : Int) = ((Sh.rot x n : Nat) : Int) := by
    rw [u32_or_nat _ _ (Nat.mod_lt _ (by decide)) (Nat.lt_of_le_of_lt (Nat.div_le_self _ _) hx)]
    unfold Sh.rot
    rw [hm, Nat.or_comm]
  rw [show ((x * 2 ^ m % 4294967296 : Nat) : Int) = (x : Int) * 2 ^ m % 4294967296 from by simp, show ((x / 2 ^ n : Nat) : Int) = (x : Int) / 2 ^ n from by simp] at hO
  generalize Sh.rot x n = r at hO ⊢
  clear hm e1 hx
  go_enter Try.func85, Try.ntmps85
  go_wp2
  go_ret
  exact ⟨rfl, rfl⟩
theorem rot3 (x a b c : Nat) (hx : x < 4294967296) : bits .xor .u32 (bits .xor .u32 (Sh.rot x a : Int) (Sh.rot x b : Int)) (Sh.rot x c : Int) = ((Sh.rot x a ^^^ Sh.rot x b ^^^ Sh.rot x c : Nat) : Int) := by
  rw [u32_xor_nat _ _ (Sh.rot_lt x a hx) (Sh.rot_lt x b hx), u32_xor_nat _ _ (Sh.xor_lt (Sh.rot_lt x a hx) (Sh.rot_lt x b hx)) (Sh.rot_lt x c hx)]
theorem rot2s (x a b c : Nat) (hx : x < 4294967296) : bits .xor .u32 (bits .xor .u32 (Sh.rot x a : Int) (Sh.rot x b : Int)) ((x / 2 ^ c : Nat) : Int) = ((Sh.rot x a ^^^ Sh.rot x b ^^^ (x / 2 ^ c) : Nat) : Int) := by
  rw [u32_xor_nat _ _ (Sh.rot_lt x a hx) (Sh.rot_lt x b hx), u32_xor_nat _ _ (Sh.xor_lt (Sh.rot_lt x a hx) (Sh.rot_lt x b hx)) (Nat.lt_of_le_of_lt (Nat.div_le_self _ _) hx)]
theorem mixadd_spec (x a b c : Nat) (hx : x < 4294967296) (a1 : 1 ≤ a) (a2 : a ≤ 31) (b1 : 1 ≤ b) (b2 : b ≤ 31) (c1 : 1 ≤ c) (c2 : c ≤ 31) (w : World) :
    Calls Try.prog 84 #[.int .u32 x, .int .i64 a, .int .i64 b, .int .i64 c] w fun e w' => e = .returned (.int .u32 (Sh.rot x a ^^^ Sh.rot x b ^^^ Sh.rot x c : Nat)) ∧ w = w' := by
  have k1 := rotl_spec x a hx a1 a2 w
  have k2 := rotl_spec x b hx b1 b2 w
  have k3 := rotl_spec x c hx c1 c2 w
  have hO := rot3 x a b c hx
  generalize (Sh.rot x a ^^^ Sh.rot x b ^^^ Sh.rot x c : Nat) = r at hO ⊢
  generalize Sh.rot x a = ra at k1 hO
  generalize Sh.rot x b = rb at k2 hO
  generalize Sh.rot x c = rc at k3 hO
  go_enter Try.func84, Try.ntmps84
  go_wp2_with fail
  refine k1.mono ?_
  rintro e w' ⟨rfl, rfl⟩
  go_wp2_with fail
  refine k2.mono ?_
  rintro e w' ⟨rfl, rfl⟩
  go_wp2_with fail
  refine k3.mono ?_
  rintro e w' ⟨rfl, rfl⟩
  go_wp2
  go_ret
  exact ⟨rfl, rfl⟩
theorem mixsch_spec (x a b c : Nat) (hx : x < 4294967296) (a1 : 1 ≤ a) (a2 : a ≤ 31) (b1 : 1 ≤ b) (b2 : b ≤ 31) (c1 : 1 ≤ c) (c2 : c ≤ 31) (w : World) :
    Calls Try.prog 93 #[.int .u32 x, .int .i64 a, .int .i64 b, .int .i64 c] w fun e w' => e = .returned (.int .u32 (Sh.rot x a ^^^ Sh.rot x b ^^^ (x / 2 ^ c) : Nat)) ∧ ∃ n, w' = w.drewN n := by
  have k1 := fun w => (rotl_spec x a hx a1 a2 w).mono (fun e w' h => And.intro h.1 h.2.symm)
  have k2 := fun w => (rotl_spec x b hx b1 b2 w).mono (fun e w' h => And.intro h.1 h.2.symm)
  have hO := rot2s x a b c hx
  rw [show ((x / 2 ^ c : Nat) : Int) = (x : Int) / 2 ^ c from by simp] at hO
  generalize (Sh.rot x a ^^^ Sh.rot x b ^^^ (x / 2 ^ c) : Nat) = r at hO ⊢
  generalize Sh.rot x a = ra at k1 hO
  generalize Sh.rot x b = rb at k2 hO
  go_enter Try.func93, Try.ntmps93
  go_wp2_with fail
  go_quiet (first
    | (go_at_call 85; first | with_reducible exact Calls.quiet_of_same (k1 _) | with_reducible exact Calls.quiet_of_same (k2 _)))
  go_wp2
  go_ret
  exact ⟨rfl, _, rfl⟩
end Go.Proofs.Ytiklfjehhdbhfaa
