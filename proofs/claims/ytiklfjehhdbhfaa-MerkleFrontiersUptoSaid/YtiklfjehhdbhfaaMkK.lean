/-
  The number of ones, in the program and in the reference. Conditions: numbers up to 4096.
-/
import Derived.Test.YtiklfjehhdbhfaaMkJ
import Derived.Laws.Bits128
namespace Go.Proofs.Ytiklfjehhdbhfaa
set_option linter.unusedVariables false
open Go.RowKit

def popF : Nat → Nat → Nat
  | 0, _ => 0
  | k + 1, n => n % 2 + popF k (n / 2)
theorem popF_ones : ∀ (k n : Nat), n < 2 ^ k → popF k n = Mk.ones n
  | 0, n, h => by
    obtain rfl : n = 0 := by omega
    rw [Mk.ones_zero]
    rfl
  | k + 1, n, h => by
    rw [Nat.pow_succ] at h
    rw [Mk.ones_half, popF, popF_ones k (n / 2) (by omega)]
def fold1 (x : Nat) : Nat := (x / 2 &&& 6148914691236517205) + (x &&& 6148914691236517205)
def fold2 (x : Nat) : Nat := (x / 4 &&& 3689348814741910323) + (x &&& 3689348814741910323)
def fold3 (x : Nat) : Nat := (x / 16 + x) &&& 1085102592571150095
def fold4 (x : Nat) : Nat := x + x / 256
def fold5 (x : Nat) : Nat := x + x / 65536
def fold6 (x : Nat) : Nat := x + x / 4294967296
theorem fold_all : ∀ (a : Fin 65) (b : Fin 64), fold6 (fold5 (fold4 (fold3 (fold2 (fold1 (64 * a.val + b.val)))))) % 128 = popF 13 (64 * a.val + b.val) := by decide +kernel
theorem fold_ones (x : Nat) (h : x ≤ 4096) : fold6 (fold5 (fold4 (fold3 (fold2 (fold1 x))))) % 128 = Mk.ones x := by
  have := fold_all ⟨x / 64, by omega⟩ ⟨x % 64, by omega⟩
  rw [show 64 * (x / 64) + x % 64 = x by omega] at this
  exact this.trans (popF_ones 13 x (by omega))
set_option maxRecDepth 20000 in
theorem ones64_spec (x : Nat) (hx : x ≤ 4096) (w : World) : Calls Try.prog 52 #[.int .u64 (x : Int)] w fun e w' => e = .returned (.int .i64 (Mk.ones x : Nat)) ∧ w = w' := by
  have hf := fold_ones x hx
  have a1 : bits .and .u64 ((x : Int) / 2) 6148914691236517205 = ((x / 2 &&& 6148914691236517205 : Nat) : Int) := by
    rw [show (x : Int) / 2 = ((x / 2 : Nat) : Int) from by omega]; exact u64_and_nat _ _ (by omega) (by decide)
  have a2 : bits .and .u64 (x : Int) 6148914691236517205 = ((x &&& 6148914691236517205 : Nat) : Int) := u64_and_nat _ _ (by omega) (by decide)
  have l1 : x / 2 &&& 6148914691236517205 ≤ 4096 := Nat.le_trans Nat.and_le_left (by omega)
  have l2 : x &&& 6148914691236517205 ≤ 4096 := Nat.le_trans Nat.and_le_left (by omega)
  have e1 : fold1 x = (x / 2 &&& 6148914691236517205) + (x &&& 6148914691236517205) := rfl
  generalize (x / 2 &&& 6148914691236517205) = y1 at a1 l1 e1
  generalize (x &&& 6148914691236517205) = y2 at a2 l2 e1
  obtain ⟨z1, hz1⟩ : ∃ z, fold1 x = z := ⟨_, rfl⟩
  rw [hz1] at e1 hf
  have f1 : (y1 : Int) + (y2 : Int) = (z1 : Int) := by omega
  have b1 : bits .and .u64 ((z1 : Int) / 4) 3689348814741910323 = ((z1 / 4 &&& 3689348814741910323 : Nat) : Int) := by
    rw [show (z1 : Int) / 4 = ((z1 / 4 : Nat) : Int) from by omega]; exact u64_and_nat _ _ (by omega) (by decide)
  have b2 : bits .and .u64 (z1 : Int) 3689348814741910323 = ((z1 &&& 3689348814741910323 : Nat) : Int) := u64_and_nat _ _ (by omega) (by decide)
  have m1 : z1 / 4 &&& 3689348814741910323 ≤ 8192 := Nat.le_trans Nat.and_le_left (by omega)
  have m2 : z1 &&& 3689348814741910323 ≤ 8192 := Nat.le_trans Nat.and_le_left (by omega)
  have e2 : fold2 z1 = (z1 / 4 &&& 3689348814741910323) + (z1 &&& 3689348814741910323) := rfl
  generalize (z1 / 4 &&& 3689348814741910323) = y3 at b1 m1 e2
  generalize (z1 &&& 3689348814741910323) = y4 at b2 m2 e2
  obtain ⟨z2, hz2⟩ : ∃ z, fold2 z1 = z := ⟨_, rfl⟩
  rw [hz2] at e2 hf
  have f2 : (y3 : Int) + (y4 : Int) = (z2 : Int) := by omega
  have c1 : bits .and .u64 ((z2 : Int) / 16 + (z2 : Int)) 1085102592571150095 = ((z2 / 16 + z2 &&& 1085102592571150095 : Nat) : Int) := by
    rw [show (z2 : Int) / 16 + (z2 : Int) = ((z2 / 16 + z2 : Nat) : Int) from by omega]; exact u64_and_nat _ _ (by omega) (by decide)
  have n1 : z2 / 16 + z2 &&& 1085102592571150095 ≤ 32768 := Nat.le_trans Nat.and_le_left (by omega)
  have e3 : fold3 z2 = (z2 / 16 + z2 &&& 1085102592571150095) := rfl
  rw [← e3] at c1 n1
  obtain ⟨z3, hz3⟩ : ∃ z, fold3 z2 = z := ⟨_, rfl⟩
  rw [hz3] at c1 n1 hf
  have e4 : fold4 z3 = z3 + z3 / 256 := rfl
  obtain ⟨z4, hz4⟩ : ∃ z, fold4 z3 = z := ⟨_, rfl⟩
  rw [hz4] at e4 hf
  have f4 : (z3 : Int) + (z3 : Int) / 256 = (z4 : Int) := by omega
  have e5 : fold5 z4 = z4 + z4 / 65536 := rfl
  obtain ⟨z5, hz5⟩ : ∃ z, fold5 z4 = z := ⟨_, rfl⟩
  rw [hz5] at e5 hf
  have f5 : (z4 : Int) + (z4 : Int) / 65536 = (z5 : Int) := by omega
  have e6 : fold6 z5 = z5 + z5 / 4294967296 := rfl
  obtain ⟨z6, hz6⟩ : ∃ z, fold6 z5 = z := ⟨_, rfl⟩
  rw [hz6] at e6 hf
  have f6 : (z5 : Int) + (z5 : Int) / 4294967296 = (z6 : Int) := by omega
  have g6 : bits .and .i64 (z6 : Int) 127 = ((z6 % 128 : Nat) : Int) := by rw [i64_and127]; omega
  rw [hf] at g6
  have w6 : IntKind.i64.wrap (z6 : Int) = (z6 : Int) := by rw [IntWalk.i64_left, IntWalk.wrap64_in _ (by omega)]
  have r6 : z6 ≤ 100000 := by omega
  have r5 : z5 ≤ 100000 := by omega
  have r4 : z4 ≤ 100000 := by omega
  have r3 : z3 ≤ 100000 := by omega
  have r2 : z2 ≤ 100000 := by omega
  have r1 : z1 ≤ 100000 := by omega
  generalize Mk.ones x = q at g6 ⊢
  clear hf e1 e2 e3 e4 e5 e6 hz1 hz2 hz3 hz4 hz5 hz6 l1 l2 m1 m2 n1
  go_enter Try.func52, Try.ntmps52
  go_wp2
  go_ret
  exact ⟨rfl, rfl⟩
theorem ones_spec (x : Nat) (hx : x ≤ 4096) (w : World) : Calls Try.prog 31 #[.int .u64 (x : Int)] w fun e w' => e = .returned (.int .i64 (Mk.ones x : Nat)) ∧ w = w' := by
  have k := ones64_spec x hx
  go_enter Try.func31, Try.ntmps31
  go_wp2_with fail
  refine (k _).mono ?_
  rintro e w' ⟨rfl, rfl⟩
  go_wp2
  go_ret
  exact ⟨rfl, rfl⟩
set_option maxRecDepth 20000 in
theorem rones_spec (x : Nat) (hx : x ≤ 4096) (w : World) : Calls Try.prog 62 #[.int .i64 (x : Int)] w fun e w' => e = .returned (.int .i64 (Mk.ones x : Nat)) ∧ w = w' := by
  obtain ⟨q, hq⟩ : ∃ q, Mk.ones x = q := ⟨_, rfl⟩
  have hx2 : Mk.ones x ≤ 4096 := by
    suffices H : ∀ n, Mk.ones n ≤ n from Nat.le_trans (H x) hx
    intro n
    induction n using Nat.strongRecOn with
    | _ n ih =>
      rw [Mk.ones_half]
      by_cases h : n = 0
      · subst h; rw [Mk.ones_zero]; omega
      · have := ih (n / 2) (by omega); omega
  rw [hq] at hx2 ⊢
  have HQ := Lib.hid hq
  clear hq
  go_enter Try.func62, Try.ntmps62
  go_wp2
  go_loop [0, 3] (fun n k => ∃ a b : Nat, a ≤ 4096 ∧ n = .int .i64 a ∧ k = .int .i64 b ∧ b + Mk.ones a = q) (fun n _ => (intOf n).toNat)
  case atStart => exact ⟨x, 0, hx, rfl, rfl, by rw [Nat.zero_add]; exact HQ.out⟩
  case round =>
    obtain ⟨a, b, ha, rfl, rfl, hab⟩ := hrel
    have HA := Lib.hid hab
    have hb : b ≤ 4096 := by omega
    clear hab
    by_cases h0 : a = 0
    · subst h0
      have h2 : b = q := by have := HA.out; rw [Mk.ones_zero] at this; omega
      have H2 := Lib.hid h2
      clear h2
      go_wp2
      go_ret
      exact ⟨by rw [← H2.out]; rfl, rfl⟩
    · have g1 : decide ((a : Int) > 0) = true := by simp; omega
      have e1 : (a : Int).tmod 2 = ((a % 2 : Nat) : Int) := by rw [Int.tmod_eq_emod_of_nonneg (by omega)]; omega
      have e2 : (a : Int) % 2 = ((a % 2 : Nat) : Int) := by omega
      have e3 : (a : Int).tdiv 2 = ((a / 2 : Nat) : Int) := by rw [Int.tdiv_eq_ediv_of_nonneg (by omega)]; omega
      have e4 : (a : Int) / 2 = ((a / 2 : Nat) : Int) := by omega
      have hs := Mk.ones_half a
      have hlt : a / 2 < a := by omega
      have hm2 : a % 2 < 2 := by omega
      have HS := Lib.hid hs
      clear hs
      generalize hA2 : a % 2 = r at *
      generalize hA3 : a / 2 = d at *
      have HAA := Lib.hid (And.intro hA2 hA3)
      clear hA2 hA3
      go_wp2
      go_round
      case rel => exact ⟨d, b + r, by omega, rfl, by go_num, by have := HS.out; have := HA.out; omega⟩
      case measure => simp [intOf]; omega
end Go.Proofs.Ytiklfjehhdbhfaa
