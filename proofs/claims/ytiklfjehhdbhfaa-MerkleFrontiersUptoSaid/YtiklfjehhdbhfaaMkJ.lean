/-
  Extends. Conditions: proofs of at most 2^40 elements.
-/
import Derived.Test.YtiklfjehhdbhfaaMkI
namespace Go.Proofs.Ytiklfjehhdbhfaa
set_option linter.unusedVariables false
open Go.RowKit

def extBad (m n : Int) (o r : Mk.Str) (P : List Mk.Str) : Bool := !decide (o.length = 32) || !decide (r.length = 32) || !(decide (P.length ≤ 4096) && vld P) || decide (m < 0) || decide (m > n) || decide (n > 4096)
/-- what Extends reports -/
def extB (m n : Int) (o r : Mk.Str) (P : List Mk.Str) : Bool := !extBad m n o r P && (if m = 0 then P.isEmpty && (o == Sh.sha []) && (decide (n > 0) || (r == Sh.sha [])) else (Mk.rd m.toNat n.toNat o P).2 && ((Mk.rd m.toNat n.toNat o P).1.1 == o && (Mk.rd m.toNat n.toNat o P).1.2 == r))
theorem extB_bad {m n : Int} {o r : Mk.Str} {P : List Mk.Str} (h : extBad m n o r P = true) : extB m n o r P = false := by unfold extB; rw [h]; rfl
set_option maxRecDepth 20000 in
set_option maxHeartbeats 4000000 in
theorem extends_spec (m n : Int) (x r : Mk.Str) (A : Option Addr) (P : List Mk.Str) (c : Nat) (w : World) (hR : Rd w A (strs P)) (hc : P.length ≤ c) (hm : c ≤ maxLen) :
    Calls Try.prog 30 #[.int .i64 m, .int .i64 n, .string ⟨x.toArray⟩, .string ⟨r.toArray⟩, .slice A P.length c] w fun e w' => e = .returned (.bool (extB m n x r P)) ∧ Below w.heap.size w w' := by
  have k1 := digest_spec x
  have k2 := digest_spec r
  have k3 := fun W hb => valid_spec A P c W (hR.below hb) (by unfold maxLen at hm; omega)
  have k5 := fun W => sum_below [] (by decide) W
  cases d1 : (decide (x.length = 32)) with
  | false =>
    have HB := Lib.hid (extB_bad (m := m) (n := n) (P := P) (o := x) (r := r) (by unfold extBad; simp [d1]))
    simp only [d1] at k1
    clear d1 hR k5
    go_enter Try.func30, Try.ntmps30
    go_wp2_with (first
      | ((with_reducible refine (k1 _).mono ?_); rintro e w1 ⟨rfl, rfl⟩)
      | ((with_reducible refine (k2 _).mono ?_); rintro e w1 ⟨rfl, rfl⟩)
      | ((with_reducible refine (k3 _ (Below.refl _ _)).mono ?_); rintro e w1 ⟨rfl, rfl⟩)
      | fail)
    go_ret
    exact ⟨by rw [HB.out]; rfl, Below.refl _ _⟩
  | true =>
    cases d2 : (decide (r.length = 32)) with
    | false =>
      have HB := Lib.hid (extB_bad (m := m) (n := n) (P := P) (o := x) (r := r) (by unfold extBad; simp [d2, d1]))
      simp only [d2, d1] at k1 k2
      clear d2 d1 hR k5
      go_enter Try.func30, Try.ntmps30
      go_wp2_with (first
        | ((with_reducible refine (k1 _).mono ?_); rintro e w1 ⟨rfl, rfl⟩)
        | ((with_reducible refine (k2 _).mono ?_); rintro e w1 ⟨rfl, rfl⟩)
        | ((with_reducible refine (k3 _ (Below.refl _ _)).mono ?_); rintro e w1 ⟨rfl, rfl⟩)
        | fail)
      go_ret
      exact ⟨by rw [HB.out]; rfl, Below.refl _ _⟩
    | true =>
      cases d3 : (decide (P.length ≤ 4096) && vld P) with
      | false =>
        have HB := Lib.hid (extB_bad (m := m) (n := n) (P := P) (o := x) (r := r) (by unfold extBad; simp [d3, d1, d2]))
        simp only [d3, d1, d2] at k1 k2 k3
        clear d3 d1 d2 hR k5
        go_enter Try.func30, Try.ntmps30
        go_wp2_with (first
          | ((with_reducible refine (k1 _).mono ?_); rintro e w1 ⟨rfl, rfl⟩)
          | ((with_reducible refine (k2 _).mono ?_); rintro e w1 ⟨rfl, rfl⟩)
          | ((with_reducible refine (k3 _ (Below.refl _ _)).mono ?_); rintro e w1 ⟨rfl, rfl⟩)
          | fail)
        go_ret
        exact ⟨by rw [HB.out]; rfl, Below.refl _ _⟩
      | true =>
        by_cases c0 : m < 0
        · have g0 : decide (m < 0) = true := decide_eq_true c0
          have HB := Lib.hid (extB_bad (m := m) (n := n) (P := P) (o := x) (r := r) (by unfold extBad; simp [c0]))
          simp only [d1, d2, d3] at k1 k2 k3
          clear d1 d2 d3 hR k5 c0
          go_enter Try.func30, Try.ntmps30
          go_wp2_with (first
            | ((with_reducible refine (k1 _).mono ?_); rintro e w1 ⟨rfl, rfl⟩)
            | ((with_reducible refine (k2 _).mono ?_); rintro e w1 ⟨rfl, rfl⟩)
            | ((with_reducible refine (k3 _ (Below.refl _ _)).mono ?_); rintro e w1 ⟨rfl, rfl⟩)
            | fail)
          go_ret
          exact ⟨by rw [HB.out]; rfl, Below.refl _ _⟩
        have g0 : decide (m < 0) = false := decide_eq_false c0
        by_cases c1 : m > n
        · have g1 : decide (m > n) = true := decide_eq_true c1
          have HB := Lib.hid (extB_bad (m := m) (n := n) (P := P) (o := x) (r := r) (by unfold extBad; simp [c1]))
          simp only [d1, d2, d3] at k1 k2 k3
          clear d1 d2 d3 hR k5 c1 c0
          go_enter Try.func30, Try.ntmps30
          go_wp2_with (first
            | ((with_reducible refine (k1 _).mono ?_); rintro e w1 ⟨rfl, rfl⟩)
            | ((with_reducible refine (k2 _).mono ?_); rintro e w1 ⟨rfl, rfl⟩)
            | ((with_reducible refine (k3 _ (Below.refl _ _)).mono ?_); rintro e w1 ⟨rfl, rfl⟩)
            | fail)
          go_ret
          exact ⟨by rw [HB.out]; rfl, Below.refl _ _⟩
        have g1 : decide (m > n) = false := decide_eq_false c1
        by_cases c2 : n > 4096
        · have g2 : decide (n > 4096) = true := decide_eq_true c2
          have HB := Lib.hid (extB_bad (m := m) (n := n) (P := P) (o := x) (r := r) (by unfold extBad; simp [c2]))
          simp only [d1, d2, d3] at k1 k2 k3
          clear d1 d2 d3 hR k5 c2 c0 c1
          go_enter Try.func30, Try.ntmps30
          go_wp2_with (first
            | ((with_reducible refine (k1 _).mono ?_); rintro e w1 ⟨rfl, rfl⟩)
            | ((with_reducible refine (k2 _).mono ?_); rintro e w1 ⟨rfl, rfl⟩)
            | ((with_reducible refine (k3 _ (Below.refl _ _)).mono ?_); rintro e w1 ⟨rfl, rfl⟩)
            | fail)
          go_ret
          exact ⟨by rw [HB.out]; rfl, Below.refl _ _⟩
        have g2 : decide (n > 4096) = false := decide_eq_false c2
        obtain ⟨a, rfl⟩ : ∃ a : Nat, m = a := ⟨m.toNat, by omega⟩
        obtain ⟨b, rfl⟩ : ∃ b : Nat, n = b := ⟨n.toNat, by omega⟩
        have hz : extBad a b x r P = false := by unfold extBad; simp [d1, d2, d3]; omega
        have q1 : (b : Int) ≤ 4096 := by omega
        have q2 : (a : Int) ≤ (b : Int) := by omega
        have q3 : decide ((a : Int) < 0) = false := by rw [decide_eq_false_iff_not]; omega
        have q4 : decide ((b : Int) < (a : Int)) = false := by rw [decide_eq_false_iff_not]; omega
        have q6 : decide ((4096 : Int) < (b : Int)) = false := by rw [decide_eq_false_iff_not]; omega
        by_cases h0 : a = 0
        · subst h0
          have hib : extB ((0 : Nat) : Int) b x r P = (((P.length : Int) == 0) && (x == Sh.sha []) && (decide ((b : Int) > 0) || (r == Sh.sha []))) := by
            unfold extB
            rw [hz, ← isEmpty_len]
            rfl
          rw [hib]
          generalize Sh.sha [] = Z at k5 ⊢
          have k5' : ∀ W, Calls Try.prog 47 #[.string ⟨#[]⟩] W fun e w' => e = .returned (.string ⟨Z.toArray⟩) ∧ Below W.heap.size W w' := k5
          simp only [d1, d2, d3] at k1 k2 k3
          clear d1 d2 d3 hR c0 c1 c2 hib hz k5
          have t1 : (((0 : Nat) : Int) == 0) = true := rfl
          go_enter Try.func30, Try.ntmps30
          go_wp2_with (first
            | ((with_reducible refine (k1 _).mono ?_); rintro e w1 ⟨rfl, rfl⟩)
            | ((with_reducible refine (k2 _).mono ?_); rintro e w1 ⟨rfl, rfl⟩)
            | ((with_reducible refine (k3 _ (Below.refl _ _)).mono ?_); rintro e w1 ⟨rfl, rfl⟩)
            | fail)
          refine (k5' _).mono ?_
          rintro e w4 ⟨rfl, b4⟩
          cases e1 : ((P.length : Int) == 0) with
          | false =>
            go_wp2
            go_ret
            exact ⟨by rw [e1]; rfl, b4⟩
          | true =>
            cases e2 : (x == Z) with
            | false =>
              go_wp2
              go_ret
              exact ⟨by rw [e1, e2]; rfl, b4⟩
            | true =>
              by_cases e3 : b = 0
              · subst e3
                go_wp2
                go_ret
                exact ⟨by rw [e1, e2]; simp, b4⟩
              · have e4 : decide ((b : Int) > 0) = true := by simp; omega
                go_wp2
                go_ret
                exact ⟨by rw [e1, e2, e4]; rfl, b4⟩
        · have t1 : ((a : Int) == 0) = false := by rw [beq_eq_false_iff_ne]; omega
          have hib : extB a b x r P = ((Mk.rd a b x P).2 && ((Mk.rd a b x P).1.1 == x && (Mk.rd a b x P).1.2 == r)) := by
            unfold extB
            rw [hz, if_neg (by omega)]
            rfl
          have k4 := fun W hb => read_spec b A P x a c W (by omega) (by omega) (by omega) (hR.below hb) hc hm
          rw [hib]
          generalize Mk.rd a b x P = G at k4 ⊢
          obtain ⟨⟨O, W9⟩, ok⟩ := G
          generalize Sh.sha [] = Z at k5
          have k5' : ∀ W, Calls Try.prog 47 #[.string ⟨#[]⟩] W fun e w' => e = .returned (.string ⟨Z.toArray⟩) ∧ Below W.heap.size W w' := k5
          simp only [d1, d2, d3] at k1 k2 k3
          clear d1 d2 d3 hR c0 c1 c2 hib hz k5
          go_enter Try.func30, Try.ntmps30
          go_wp2_with (first
            | ((with_reducible refine (k1 _).mono ?_); rintro e w1 ⟨rfl, rfl⟩)
            | ((with_reducible refine (k2 _).mono ?_); rintro e w1 ⟨rfl, rfl⟩)
            | ((with_reducible refine (k3 _ (Below.refl _ _)).mono ?_); rintro e w1 ⟨rfl, rfl⟩)
            | fail)
          refine (k5' _).mono ?_
          rintro e w4 ⟨rfl, b4⟩
          go_wp2_with fail
          refine (k4 _ b4).mono ?_
          rintro e w5 ⟨rfl, b5⟩
          have b6 := b4.trans (b5.mono b4.size)
          have b7 := b6.alloc b6.size (.cells #[.string ⟨O.toArray⟩, .string ⟨W9.toArray⟩] 58)
          cases ok
          · go_wp2
            go_ret
            exact ⟨rfl, b7⟩
          · by_cases hO : O = x
            · subst hO
              by_cases hW : W9 = r
              · subst hW
                go_wp2
                go_ret
                exact ⟨by simp, b7⟩
              · have f2 : (W9 == r) = false := beq_eq_false_iff_ne.2 hW
                go_wp2
                go_ret
                exact ⟨by rw [f2]; simp, b7⟩
            · have f1 : (O == x) = false := beq_eq_false_iff_ne.2 hO
              go_wp2
              go_ret
              exact ⟨by rw [f1]; rfl, b7⟩
end Go.Proofs.Ytiklfjehhdbhfaa
