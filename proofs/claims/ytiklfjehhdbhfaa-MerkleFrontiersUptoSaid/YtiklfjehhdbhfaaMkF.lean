/-
  Root, Inclusion and Consistency, in the program and in the reference. Conditions: at most 2^40 leaves.
-/
import Derived.Test.YtiklfjehhdbhfaaMkE
namespace Go.Proofs.Ytiklfjehhdbhfaa
set_option linter.unusedVariables false
open Go.RowKit

def mRoot (L : List Mk.Str) : Mk.Str := if (decide (L.length ≤ 4096) && vld L) = true then Mk.root L else []
def mInc (L : List Mk.Str) (i : Int) : List Mk.Str × Int := if (decide (L.length ≤ 4096) && vld L) = true then (if i < 0 ∨ (L.length : Int) ≤ i then ([], 2) else (Mk.incl L i.toNat, 0)) else ([], 1)
def mCon (L : List Mk.Str) (i : Int) : List Mk.Str × Int := if (decide (L.length ≤ 4096) && vld L) = true then (if i < 0 ∨ (L.length : Int) < i then ([], 2) else if i = 0 then ([], 0) else (Mk.cons L i.toNat true, 0)) else ([], 1)
/-- a list and an error are returned -/
def PrP (x : List Mk.Str × Int) (w : World) (e : Ending) (w' : World) : Prop := ∃ v, e = .returned (.tuple #[v, .int .i64 x.2]) ∧ St w.heap.size w w' [ownR 9 1 v x.1.length (strs x.1)]
set_option maxRecDepth 20000 in
set_option maxHeartbeats 2000000 in
theorem root_mk (A : Option Addr) (L : List Mk.Str) (c : Nat) (w : World) (hR : Rd w A (strs L)) (hl : L.length ≤ 1099511627776) (hc : L.length ≤ c) (hm : c ≤ maxLen) :
    Calls Try.prog 19 #[.slice A L.length c] w fun e w' => e = .returned (.string ⟨(mRoot L).toArray⟩) ∧ Below w.heap.size w w' := by
  have k1 := valid_spec A L c w hR (by omega)
  have k2 := mroot_spec L.length A L c w (Nat.le_refl _) (by omega) hR hc hm
  unfold mRoot
  cases hq : (decide (L.length ≤ 4096) && vld L) with
  | true =>
    rw [hq] at k1
    clear hq hR
    rw [if_pos rfl]
    generalize Mk.root L = R at k2 ⊢
    go_enter Try.func19, Try.ntmps19
    go_wp2_with fail
    refine k1.mono ?_
    rintro e w' ⟨rfl, rfl⟩
    go_wp2_with fail
    refine k2.mono ?_
    rintro e w' ⟨rfl, b⟩
    go_wp2
    go_ret
    exact ⟨rfl, b⟩
  | false =>
    rw [hq] at k1
    clear hq hR k2
    rw [if_neg (by simp)]
    go_enter Try.func19, Try.ntmps19
    go_wp2_with fail
    refine k1.mono ?_
    rintro e w' ⟨rfl, rfl⟩
    go_wp2
    go_ret
    exact ⟨rfl, Below.refl _ _⟩
set_option maxRecDepth 20000 in
set_option maxHeartbeats 2000000 in
theorem inc_mk (A : Option Addr) (L : List Mk.Str) (c : Nat) (i : Int) (w : World) (hR : Rd w A (strs L)) (hl : L.length ≤ 1099511627776) (hc : L.length ≤ c) (hm : c ≤ maxLen) :
    Calls Try.prog 11 #[.slice A L.length c, .int .i64 i] w (PrP (mInc L i) w) := by
  have k1 := valid_spec A L c w hR (by omega)
  have z0 : St w.heap.size w w [ownR 9 1 (.slice none 0 0) 0 (strs [])] := (St.nil w).new_own (Below.refl _ w) (World.ownsRow_nil _ _ _ _)
  unfold mInc
  cases hq : (decide (L.length ≤ 4096) && vld L) with
  | true =>
    rw [hq] at k1
    clear hq
    rw [if_pos rfl]
    by_cases h0 : i < 0
    · rw [if_pos (.inl h0)]
      have g0 : decide (i < 0) = true := by simp; exact h0
      clear hR
      go_enter Try.func11, Try.ntmps11
      go_wp2_with fail
      refine k1.mono ?_
      rintro e w' ⟨rfl, rfl⟩
      go_wp2
      go_ret2
      exact ⟨_, rfl, z0⟩
    have g0 : decide (i < 0) = false := by simp; omega
    by_cases h1 : (L.length : Int) ≤ i
    · rw [if_pos (.inr h1)]
      have g1 : decide (i ≥ (L.length : Int)) = true := by simp; omega
      clear hR
      go_enter Try.func11, Try.ntmps11
      go_wp2_with fail
      refine k1.mono ?_
      rintro e w' ⟨rfl, rfl⟩
      go_wp2
      go_ret2
      exact ⟨_, rfl, z0⟩
    · rw [if_neg (by omega)]
      have g1 : decide (i ≥ (L.length : Int)) = false := by simp; omega
      obtain ⟨m, rfl⟩ : ∃ m : Nat, i = m := ⟨i.toNat, by omega⟩
      have k2 := mincl_spec L.length A L m c w (Nat.le_refl _) (by omega) hR hc hm (by omega)
      rw [Int.toNat_natCast]
      clear hR
      generalize Mk.incl L m = M at k2 ⊢
      go_enter Try.func11, Try.ntmps11
      go_wp2_with fail
      refine k1.mono ?_
      rintro e w' ⟨rfl, rfl⟩
      go_wp2_with fail
      refine k2.mono ?_
      rintro e w' ⟨v, rfl, h⟩
      go_wp2
      go_ret2
      exact ⟨_, rfl, h⟩
  | false =>
    rw [hq] at k1
    clear hq hR
    rw [if_neg (by simp)]
    go_enter Try.func11, Try.ntmps11
    go_wp2_with fail
    refine k1.mono ?_
    rintro e w' ⟨rfl, rfl⟩
    go_wp2
    go_ret2
    exact ⟨_, rfl, z0⟩
set_option maxRecDepth 20000 in
set_option maxHeartbeats 2000000 in
theorem con_mk (A : Option Addr) (L : List Mk.Str) (c : Nat) (i : Int) (w : World) (hR : Rd w A (strs L)) (hl : L.length ≤ 1099511627776) (hc : L.length ≤ c) (hm : c ≤ maxLen) :
    Calls Try.prog 13 #[.slice A L.length c, .int .i64 i] w (PrP (mCon L i) w) := by
  have k1 := valid_spec A L c w hR (by omega)
  have z0 : St w.heap.size w w [ownR 9 1 (.slice none 0 0) 0 (strs [])] := (St.nil w).new_own (Below.refl _ w) (World.ownsRow_nil _ _ _ _)
  unfold mCon
  cases hq : (decide (L.length ≤ 4096) && vld L) with
  | true =>
    rw [hq] at k1
    clear hq
    rw [if_pos rfl]
    by_cases h0 : i < 0
    · rw [if_pos (.inl h0)]
      have g0 : decide (i < 0) = true := by simp; exact h0
      clear hR
      go_enter Try.func13, Try.ntmps13
      go_wp2_with fail
      refine k1.mono ?_
      rintro e w' ⟨rfl, rfl⟩
      go_wp2
      go_ret2
      exact ⟨_, rfl, z0⟩
    have g0 : decide (i < 0) = false := by simp; omega
    by_cases h1 : (L.length : Int) < i
    · rw [if_pos (.inr h1)]
      have g1 : decide (i > (L.length : Int)) = true := by simp; omega
      clear hR
      go_enter Try.func13, Try.ntmps13
      go_wp2_with fail
      refine k1.mono ?_
      rintro e w' ⟨rfl, rfl⟩
      go_wp2
      go_ret2
      exact ⟨_, rfl, z0⟩
    rw [if_neg (by omega)]
    have g1 : decide (i > (L.length : Int)) = false := by simp; omega
    by_cases h2 : i = 0
    · rw [if_pos h2]
      have g2 : (i == 0) = true := by simp [h2]
      subst h2
      clear hR
      go_enter Try.func13, Try.ntmps13
      go_wp2_with fail
      refine k1.mono ?_
      rintro e w' ⟨rfl, rfl⟩
      go_wp2
      go_ret2
      exact ⟨_, rfl, z0⟩
    · rw [if_neg h2]
      have g2 : (i == 0) = false := by rw [beq_eq_false_iff_ne]; exact h2
      obtain ⟨m, rfl⟩ : ∃ m : Nat, i = m := ⟨i.toNat, by omega⟩
      have k2 := mcons_spec L.length A L m c true w (Nat.le_refl _) (by omega) hR hc hm (by omega) (by omega)
      rw [Int.toNat_natCast]
      clear hR
      generalize Mk.cons L m true = M at k2 ⊢
      go_enter Try.func13, Try.ntmps13
      go_wp2_with fail
      refine k1.mono ?_
      rintro e w' ⟨rfl, rfl⟩
      go_wp2_with fail
      refine k2.mono ?_
      rintro e w' ⟨v, rfl, h⟩
      go_wp2
      go_ret2
      exact ⟨_, rfl, h⟩
  | false =>
    rw [hq] at k1
    clear hq hR
    rw [if_neg (by simp)]
    go_enter Try.func13, Try.ntmps13
    go_wp2_with fail
    refine k1.mono ?_
    rintro e w' ⟨rfl, rfl⟩
    go_wp2
    go_ret2
    exact ⟨_, rfl, z0⟩
set_option maxRecDepth 20000 in
set_option maxHeartbeats 2000000 in
theorem root_rk (A : Option Addr) (L : List Mk.Str) (c : Nat) (w : World) (hR : Rd w A (strs L)) (hl : L.length ≤ 1099511627776) (hc : L.length ≤ c) (hm : c ≤ maxLen) :
    Calls Try.prog 20 #[.slice A L.length c] w fun e w' => e = .returned (.string ⟨(mRoot L).toArray⟩) ∧ Below w.heap.size w w' := by
  have k1 := rvalid_spec A L c w hR (by omega)
  have k2 := rroot_spec L.length A L c w (Nat.le_refl _) (by omega) hR hc hm
  unfold mRoot
  cases hq : (decide (L.length ≤ 4096) && vld L) with
  | true =>
    rw [hq] at k1
    clear hq hR
    rw [if_pos rfl]
    generalize Mk.root L = R at k2 ⊢
    go_enter Try.func20, Try.ntmps20
    go_wp2_with fail
    refine k1.mono ?_
    rintro e w' ⟨rfl, rfl⟩
    go_wp2_with fail
    refine k2.mono ?_
    rintro e w' ⟨rfl, b⟩
    go_wp2
    go_ret
    exact ⟨rfl, b⟩
  | false =>
    rw [hq] at k1
    clear hq hR k2
    rw [if_neg (by simp)]
    go_enter Try.func20, Try.ntmps20
    go_wp2_with fail
    refine k1.mono ?_
    rintro e w' ⟨rfl, rfl⟩
    go_wp2
    go_ret
    exact ⟨rfl, Below.refl _ _⟩
set_option maxRecDepth 20000 in
set_option maxHeartbeats 2000000 in
theorem inc_rk (A : Option Addr) (L : List Mk.Str) (c : Nat) (i : Int) (w : World) (hR : Rd w A (strs L)) (hl : L.length ≤ 1099511627776) (hc : L.length ≤ c) (hm : c ≤ maxLen) :
    Calls Try.prog 12 #[.slice A L.length c, .int .i64 i] w (PrP (mInc L i) w) := by
  have k1 := rvalid_spec A L c w hR (by omega)
  have z0 : St w.heap.size w w [ownR 9 1 (.slice none 0 0) 0 (strs [])] := (St.nil w).new_own (Below.refl _ w) (World.ownsRow_nil _ _ _ _)
  unfold mInc
  cases hq : (decide (L.length ≤ 4096) && vld L) with
  | true =>
    rw [hq] at k1
    clear hq
    rw [if_pos rfl]
    by_cases h0 : i < 0
    · rw [if_pos (.inl h0)]
      have g0 : decide (i < 0) = true := by simp; exact h0
      clear hR
      go_enter Try.func12, Try.ntmps12
      go_wp2_with fail
      refine k1.mono ?_
      rintro e w' ⟨rfl, rfl⟩
      go_wp2
      go_ret2
      exact ⟨_, rfl, z0⟩
    have g0 : decide (i < 0) = false := by simp; omega
    by_cases h1 : (L.length : Int) ≤ i
    · rw [if_pos (.inr h1)]
      have g1 : decide (i ≥ (L.length : Int)) = true := by simp; omega
      clear hR
      go_enter Try.func12, Try.ntmps12
      go_wp2_with fail
      refine k1.mono ?_
      rintro e w' ⟨rfl, rfl⟩
      go_wp2
      go_ret2
      exact ⟨_, rfl, z0⟩
    · rw [if_neg (by omega)]
      have g1 : decide (i ≥ (L.length : Int)) = false := by simp; omega
      obtain ⟨m, rfl⟩ : ∃ m : Nat, i = m := ⟨i.toNat, by omega⟩
      have k2 := rincl_spec L.length A L m c w (Nat.le_refl _) (by omega) hR hc hm (by omega)
      rw [Int.toNat_natCast]
      clear hR
      generalize Mk.incl L m = M at k2 ⊢
      go_enter Try.func12, Try.ntmps12
      go_wp2_with fail
      refine k1.mono ?_
      rintro e w' ⟨rfl, rfl⟩
      go_wp2_with fail
      refine k2.mono ?_
      rintro e w' ⟨v, rfl, h⟩
      go_wp2
      go_ret2
      exact ⟨_, rfl, h⟩
  | false =>
    rw [hq] at k1
    clear hq hR
    rw [if_neg (by simp)]
    go_enter Try.func12, Try.ntmps12
    go_wp2_with fail
    refine k1.mono ?_
    rintro e w' ⟨rfl, rfl⟩
    go_wp2
    go_ret2
    exact ⟨_, rfl, z0⟩
set_option maxRecDepth 20000 in
set_option maxHeartbeats 2000000 in
theorem con_rk (A : Option Addr) (L : List Mk.Str) (c : Nat) (i : Int) (w : World) (hR : Rd w A (strs L)) (hl : L.length ≤ 1099511627776) (hc : L.length ≤ c) (hm : c ≤ maxLen) :
    Calls Try.prog 14 #[.slice A L.length c, .int .i64 i] w (PrP (mCon L i) w) := by
  have k1 := rvalid_spec A L c w hR (by omega)
  have z0 : St w.heap.size w w [ownR 9 1 (.slice none 0 0) 0 (strs [])] := (St.nil w).new_own (Below.refl _ w) (World.ownsRow_nil _ _ _ _)
  unfold mCon
  cases hq : (decide (L.length ≤ 4096) && vld L) with
  | true =>
    rw [hq] at k1
    clear hq
    rw [if_pos rfl]
    by_cases h0 : i < 0
    · rw [if_pos (.inl h0)]
      have g0 : decide (i < 0) = true := by simp; exact h0
      clear hR
      go_enter Try.func14, Try.ntmps14
      go_wp2_with fail
      refine k1.mono ?_
      rintro e w' ⟨rfl, rfl⟩
      go_wp2
      go_ret2
      exact ⟨_, rfl, z0⟩
    have g0 : decide (i < 0) = false := by simp; omega
    by_cases h1 : (L.length : Int) < i
    · rw [if_pos (.inr h1)]
      have g1 : decide (i > (L.length : Int)) = true := by simp; omega
      clear hR
      go_enter Try.func14, Try.ntmps14
      go_wp2_with fail
      refine k1.mono ?_
      rintro e w' ⟨rfl, rfl⟩
      go_wp2
      go_ret2
      exact ⟨_, rfl, z0⟩
    rw [if_neg (by omega)]
    have g1 : decide (i > (L.length : Int)) = false := by simp; omega
    by_cases h2 : i = 0
    · rw [if_pos h2]
      have g2 : (i == 0) = true := by simp [h2]
      subst h2
      clear hR
      go_enter Try.func14, Try.ntmps14
      go_wp2_with fail
      refine k1.mono ?_
      rintro e w' ⟨rfl, rfl⟩
      go_wp2
      go_ret2
      exact ⟨_, rfl, z0⟩
    · rw [if_neg h2]
      have g2 : (i == 0) = false := by rw [beq_eq_false_iff_ne]; exact h2
      obtain ⟨m, rfl⟩ : ∃ m : Nat, i = m := ⟨i.toNat, by omega⟩
      have k2 := rcons_spec L.length A L m c true w (Nat.le_refl _) (by omega) hR hc hm (by omega) (by omega)
      rw [Int.toNat_natCast]
      clear hR
      generalize Mk.cons L m true = M at k2 ⊢
      go_enter Try.func14, Try.ntmps14
      go_wp2_with fail
      refine k1.mono ?_
      rintro e w' ⟨rfl, rfl⟩
      go_wp2_with fail
      refine k2.mono ?_
      rintro e w' ⟨v, rfl, h⟩
      go_wp2
      go_ret2
      exact ⟨_, rfl, h⟩
  | false =>
    rw [hq] at k1
    clear hq hR
    rw [if_neg (by simp)]
    go_enter Try.func14, Try.ntmps14
    go_wp2_with fail
    refine k1.mono ?_
    rintro e w' ⟨rfl, rfl⟩
    go_wp2
    go_ret2
    exact ⟨_, rfl, z0⟩
end Go.Proofs.Ytiklfjehhdbhfaa
