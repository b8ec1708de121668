/-
  The reference's SHA-256: rotations. Conditions: words below 2^32.
-/
import Derived.Test.YtiklfjehhdbhfaaShI
namespace Go.Proofs.Ytiklfjehhdbhfaa
set_option linter.unusedVariables false
open Go.RowKit

theorem rotr_spec (x n : Nat) (hx : x < 4294967296) (h1 : 1 ≤ n) (h2 : n ≤ 31) (w : World) :
    Calls Try.prog 74 #[.int .u32 x, .int .i64 (n : Int)] w fun e w' => e = .returned (.int .u32 (Sh.rot x n)) ∧ ∃ k, w' = w.drewN k := by
  obtain ⟨m, hm⟩ : ∃ m, 32 - n = m := ⟨_, rfl⟩
  have hm1 : m ≤ 31 := by omega
  have hm0 : (32 : Int) - (n : Int) = (m : Int) := by omega
  have hO : bits .or .u32 ((x / 2 ^ n : Nat) : Int) ((x * 2 ^ m % 4294967296 : Nat) : Int) = ((Sh.rot x n : Nat) : Int) := by
    rw [u32_or_nat _ _ (Nat.lt_of_le_of_lt (Nat.div_le_self _ _) hx) (Nat.mod_lt _ (by decide))]
    unfold Sh.rot
    rw [hm]
  rw [show ((x * 2 ^ m % 4294967296 : Nat) : Int) = (x : Int) * 2 ^ m % 4294967296 from by simp, show ((x / 2 ^ n : Nat) : Int) = (x : Int) / 2 ^ n from by simp] at hO
  generalize Sh.rot x n = r at hO ⊢
  clear hm hx
  go_enter Try.func74, Try.ntmps74
  go_wp2_with fail
  go_quiet (fail)
  go_wp2
  go_ret
  exact ⟨rfl, _, rfl⟩
theorem be8_next (n k : Nat) (h : k < 8) : (Sh.be8 n).take (k + 1) = (Sh.be8 n).take k ++ [UInt8.ofNat (n / 2 ^ (8 * (7 - k)))] := by
  rcases lt8 h with rfl | rfl | rfl | rfl | rfl | rfl | rfl | rfl <;> simp [Sh.be8]
set_option maxRecDepth 20000 in
set_option maxHeartbeats 2000000 in
theorem rlength_spec (n : Nat) (hn : n ≤ 9223372036854775807) (w : World) : Calls Try.prog 71 #[.int .i64 (n : Int)] w fun e w' => e = .returned (.string ⟨(Sh.be8 n).toArray⟩) ∧ Below w.heap.size w w' := by
  have h0 := St.nil w
  go_enter Try.func71, Try.ntmps71
  go_wp2
  have h1 : St w.heap.size w (w.alloc (.cells #[] 5)) (ownR 5 1 (.slice (some ⟨w.heap.size, 0, none⟩) 0 0) 0 (vals []) :: []) := h0.new_own ((Below.refl _ w).alloc (Nat.le_refl _) _) (World.ownsRow_lit w #[] 0 (Nat.le_refl _) (by decide) rfl)
  clear h0
  generalize w.alloc (.cells #[] 5) = W at h1 ⊢
  go_loopw [3, 4] (fun v i wr => ∃ (k : Nat) (v' : Value), k ≤ 8 ∧ i = .int .i64 (7 - (k : Int)) ∧ v' = v ∧ St w.heap.size w wr (ownR 5 1 v' k (vals ((Sh.be8 n).take k)) :: [])) (fun _ i _ => (intOf i + 1).toNat)
  case atStart => exact ⟨0, _, by omega, by simp, rfl, h1⟩
  case round =>
    clear h1
    obtain ⟨k, v, hk, rfl, rfl, h⟩ := hrel
    by_cases hlt : k < 8
    · have hge : decide ((7 : Int) - (k : Int) ≥ 0) = true := by simp; omega
      have hk0 : (0 : Int) ≤ 7 - (k : Int) := by omega
      obtain ⟨j, hj⟩ : ∃ j, 8 * (7 - k) = j := ⟨_, rfl⟩
      have hj8 : 8 * (7 - (k : Int)) = (j : Int) := by omega
      have hj56 : j ≤ 56 := by omega
      have hnx := be8_next n k hlt
      rw [hj] at hnx
      have hy : (n : Int) / 2 ^ j % 256 = ((UInt8.ofNat (n / 2 ^ j)).toNat : Int) := by rw [UInt8.toNat_ofNat']; simp
      generalize UInt8.ofNat (n / 2 ^ j) = y at hnx hy
      have HN := Lib.hid hnx
      clear hnx hj
      have hb1 : (k + 1) * 1 ≤ 140737488355328 := by omega
      have hb2 : k + 1 ≤ maxLen := by unfold maxLen; omega
      go_wp2_with (at_builtin; go_must (refine appendO 70 (u := .int .u8 (y.toNat : Int)) h Try.underlying70 info_u8 rfl rfl _ _ rfl rfl rfl rfl hb2 hb1 (fun v2 w5 h8 => ?_)))
      go_roundw
      case rel =>
        refine ⟨k + 1, v2, by omega, by congr 1; omega, rfl, ?_⟩
        rw [HN.out, vals_append]
        exact h8
      case measure => simp [intOf]; omega
    · have hk8 : k = 8 := by omega
      have hge : decide ((7 : Int) - (k : Int) ≥ 0) = false := by simp; omega
      have hfull : (Sh.be8 n).take k = Sh.be8 n := by rw [hk8]; rfl
      rw [hfull] at h
      have hcv := conv_own (P := Try.prog) 70 9 5 Try.underlying70 Try.underlying5 Try.underlying9 wr 0 v k (Sh.be8 n) h.own
      have HH := Lib.hid h.below
      clear h hfull hk8
      obtain ⟨Z, hZ⟩ : ∃ Z, Sh.be8 n = Z := ⟨_, rfl⟩
      rw [hZ] at hcv
      have HZ := Lib.hid hZ
      clear hZ
      go_wp2
      go_ret
      exact ⟨by rw [HZ.out]; rfl, HH.out⟩
end Go.Proofs.Ytiklfjehhdbhfaa
