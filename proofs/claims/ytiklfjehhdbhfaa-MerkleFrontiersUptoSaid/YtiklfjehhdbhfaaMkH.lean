/-
  Included. Conditions: proofs of at most 2^40 elements.
-/
import Derived.Test.YtiklfjehhdbhfaaMkG
namespace Go.Proofs.Ytiklfjehhdbhfaa
set_option linter.unusedVariables false
open Go.RowKit

def incBad (x : Mk.Str) (i n : Int) (P : List Mk.Str) (r : Mk.Str) : Bool := !decide (x.length = 32) || !decide (r.length = 32) || !(decide (P.length ≤ 4096) && vld P) || decide (n < 1) || decide (n > 4096) || decide (i < 0) || decide (i ≥ n)
/-- what Included reports -/
def incB (x : Mk.Str) (i n : Int) (P : List Mk.Str) (r : Mk.Str) : Bool := !incBad x i n P r && ((Mk.given x i.toNat n.toNat P).2 && (Mk.given x i.toNat n.toNat P).1 == r)
theorem incB_bad {x : Mk.Str} {i n : Int} {P : List Mk.Str} {r : Mk.Str} (h : incBad x i n P r = true) : incB x i n P r = false := by unfold incB; rw [h]; rfl
set_option maxRecDepth 20000 in
set_option maxHeartbeats 4000000 in
theorem included_spec (x : Mk.Str) (i n : Int) (A : Option Addr) (P : List Mk.Str) (c : Nat) (r : Mk.Str) (w : World) (hR : Rd w A (strs P)) (hc : P.length ≤ c) (hm : c ≤ maxLen) :
    Calls Try.prog 28 #[.string ⟨x.toArray⟩, .int .i64 i, .int .i64 n, .slice A P.length c, .string ⟨r.toArray⟩] w fun e w' => e = .returned (.bool (incB x i n P r)) ∧ Below w.heap.size w w' := by
  have k1 := digest_spec x
  have k2 := digest_spec r
  have k3 := fun W hb => valid_spec A P c W (hR.below hb) (by unfold maxLen at hm; omega)
  cases d1 : (decide (x.length = 32)) with
  | false =>
    have HB := Lib.hid (incB_bad (i := i) (n := n) (P := P) (x := x) (r := r) (by unfold incBad; simp [d1]))
    simp only [d1] at k1
    clear d1 hR
    go_enter Try.func28, Try.ntmps28
    go_wp2_with (first
      | ((with_reducible refine (k1 _).mono ?_); rintro e w1 ⟨rfl, rfl⟩)
      | ((with_reducible refine (k2 _).mono ?_); rintro e w1 ⟨rfl, rfl⟩)
      | ((with_reducible refine (k3 _ (Below.refl _ _)).mono ?_); rintro e w1 ⟨rfl, rfl⟩)
      | fail)
    go_ret
    exact ⟨by rw [HB.out]; rfl, Below.refl _ _⟩
  | true =>
    cases d2 : (decide (r.length = 32)) with
    | false =>
      have HB := Lib.hid (incB_bad (i := i) (n := n) (P := P) (x := x) (r := r) (by unfold incBad; simp [d2, d1]))
      simp only [d2, d1] at k1 k2
      clear d2 d1 hR
      go_enter Try.func28, Try.ntmps28
      go_wp2_with (first
        | ((with_reducible refine (k1 _).mono ?_); rintro e w1 ⟨rfl, rfl⟩)
        | ((with_reducible refine (k2 _).mono ?_); rintro e w1 ⟨rfl, rfl⟩)
        | ((with_reducible refine (k3 _ (Below.refl _ _)).mono ?_); rintro e w1 ⟨rfl, rfl⟩)
        | fail)
      go_ret
      exact ⟨by rw [HB.out]; rfl, Below.refl _ _⟩
    | true =>
      cases d3 : (decide (P.length ≤ 4096) && vld P) with
      | false =>
        have HB := Lib.hid (incB_bad (i := i) (n := n) (P := P) (x := x) (r := r) (by unfold incBad; simp [d3, d1, d2]))
        simp only [d3, d1, d2] at k1 k2 k3
        clear d3 d1 d2 hR
        go_enter Try.func28, Try.ntmps28
        go_wp2_with (first
          | ((with_reducible refine (k1 _).mono ?_); rintro e w1 ⟨rfl, rfl⟩)
          | ((with_reducible refine (k2 _).mono ?_); rintro e w1 ⟨rfl, rfl⟩)
          | ((with_reducible refine (k3 _ (Below.refl _ _)).mono ?_); rintro e w1 ⟨rfl, rfl⟩)
          | fail)
        go_ret
        exact ⟨by rw [HB.out]; rfl, Below.refl _ _⟩
      | true =>
        by_cases c0 : n < 1
        · have g0 : decide (n < 1) = true := decide_eq_true c0
          have HB := Lib.hid (incB_bad (i := i) (n := n) (P := P) (x := x) (r := r) (by unfold incBad; simp [c0]))
          simp only [d1, d2, d3] at k1 k2 k3
          clear d1 d2 d3 hR c0
          go_enter Try.func28, Try.ntmps28
          go_wp2_with (first
            | ((with_reducible refine (k1 _).mono ?_); rintro e w1 ⟨rfl, rfl⟩)
            | ((with_reducible refine (k2 _).mono ?_); rintro e w1 ⟨rfl, rfl⟩)
            | ((with_reducible refine (k3 _ (Below.refl _ _)).mono ?_); rintro e w1 ⟨rfl, rfl⟩)
            | fail)
          go_ret
          exact ⟨by rw [HB.out]; rfl, Below.refl _ _⟩
        have g0 : decide (n < 1) = false := decide_eq_false c0
        by_cases c1 : n > 4096
        · have g1 : decide (n > 4096) = true := decide_eq_true c1
          have HB := Lib.hid (incB_bad (i := i) (n := n) (P := P) (x := x) (r := r) (by unfold incBad; simp [c1]))
          simp only [d1, d2, d3] at k1 k2 k3
          clear d1 d2 d3 hR c1 c0
          go_enter Try.func28, Try.ntmps28
          go_wp2_with (first
            | ((with_reducible refine (k1 _).mono ?_); rintro e w1 ⟨rfl, rfl⟩)
            | ((with_reducible refine (k2 _).mono ?_); rintro e w1 ⟨rfl, rfl⟩)
            | ((with_reducible refine (k3 _ (Below.refl _ _)).mono ?_); rintro e w1 ⟨rfl, rfl⟩)
            | fail)
          go_ret
          exact ⟨by rw [HB.out]; rfl, Below.refl _ _⟩
        have g1 : decide (n > 4096) = false := decide_eq_false c1
        by_cases c2 : i < 0
        · have g2 : decide (i < 0) = true := decide_eq_true c2
          have HB := Lib.hid (incB_bad (i := i) (n := n) (P := P) (x := x) (r := r) (by unfold incBad; simp [c2]))
          simp only [d1, d2, d3] at k1 k2 k3
          clear d1 d2 d3 hR c2 c0 c1
          go_enter Try.func28, Try.ntmps28
          go_wp2_with (first
            | ((with_reducible refine (k1 _).mono ?_); rintro e w1 ⟨rfl, rfl⟩)
            | ((with_reducible refine (k2 _).mono ?_); rintro e w1 ⟨rfl, rfl⟩)
            | ((with_reducible refine (k3 _ (Below.refl _ _)).mono ?_); rintro e w1 ⟨rfl, rfl⟩)
            | fail)
          go_ret
          exact ⟨by rw [HB.out]; rfl, Below.refl _ _⟩
        have g2 : decide (i < 0) = false := decide_eq_false c2
        by_cases c3 : i ≥ n
        · have g3 : decide (i ≥ n) = true := decide_eq_true c3
          have HB := Lib.hid (incB_bad (i := i) (n := n) (P := P) (x := x) (r := r) (by unfold incBad; simp [c3]))
          simp only [d1, d2, d3] at k1 k2 k3
          clear d1 d2 d3 hR c3 c0 c1 c2
          go_enter Try.func28, Try.ntmps28
          go_wp2_with (first
            | ((with_reducible refine (k1 _).mono ?_); rintro e w1 ⟨rfl, rfl⟩)
            | ((with_reducible refine (k2 _).mono ?_); rintro e w1 ⟨rfl, rfl⟩)
            | ((with_reducible refine (k3 _ (Below.refl _ _)).mono ?_); rintro e w1 ⟨rfl, rfl⟩)
            | fail)
          go_ret
          exact ⟨by rw [HB.out]; rfl, Below.refl _ _⟩
        have g3 : decide (i ≥ n) = false := decide_eq_false c3
        obtain ⟨a, rfl⟩ : ∃ a : Nat, i = a := ⟨i.toNat, by omega⟩
        obtain ⟨b, rfl⟩ : ∃ b : Nat, n = b := ⟨n.toNat, by omega⟩
        have hib : incB x a b P r = ((Mk.given x a b P).2 && (Mk.given x a b P).1 == r) := by
          have hz : incBad x a b P r = false := by unfold incBad; simp [d1, d2, d3]; omega
          unfold incB
          rw [hz]
          rfl
        have k4 := fun W hb => given_spec b A P x a c W (by omega) (by omega) (by omega) (hR.below hb) hc hm
        rw [hib]
        generalize Mk.given x a b P = G at k4 ⊢
        obtain ⟨R, ok⟩ := G
        simp only [d1, d2, d3] at k1 k2 k3
        have q0 : (1 : Int) ≤ (b : Int) := by omega
        have q1 : (b : Int) ≤ 4096 := by omega
        have q2 : (a : Int) < (b : Int) := by omega
        have q3 : decide ((a : Int) < 0) = false := by rw [decide_eq_false_iff_not]; omega
        have q4 : decide ((b : Int) ≤ (a : Int)) = false := by rw [decide_eq_false_iff_not]; omega
        have q5 : decide ((b : Int) < 1) = false := by rw [decide_eq_false_iff_not]; omega
        have q6 : decide ((4096 : Int) < (b : Int)) = false := by rw [decide_eq_false_iff_not]; omega
        clear d1 d2 d3 hR c0 c1 c2 c3 hib
        go_enter Try.func28, Try.ntmps28
        go_wp2_with (first
          | ((with_reducible refine (k1 _).mono ?_); rintro e w1 ⟨rfl, rfl⟩)
          | ((with_reducible refine (k2 _).mono ?_); rintro e w1 ⟨rfl, rfl⟩)
          | ((with_reducible refine (k3 _ (Below.refl _ _)).mono ?_); rintro e w1 ⟨rfl, rfl⟩)
          | fail)
        refine (k4 _ (Below.refl _ _)).mono ?_
        rintro e w4 ⟨rfl, b4⟩
        cases ok
        · go_wp2
          go_ret
          exact ⟨rfl, b4⟩
        · go_wp2
          go_ret
          exact ⟨rfl, b4⟩
end Go.Proofs.Ytiklfjehhdbhfaa
