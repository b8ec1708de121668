/-
  The reference's check of an inclusion proof. Conditions: none.
-/
import Derived.Test.YtnlpakalcckaiaaSgN
import Derived.Test.YtnlpakalcckaiaaMkB
namespace Go.Proofs.Ytnlpakalcckaiaa
set_option linter.unusedVariables false
open Go.RowKit Go.Shelf
attribute [local go_sem] Oper.semAt_some

def gvs (g : Mk.Str × Bool) : Mk.Str := if g.2 = true then g.1 else []
theorem gvs_left (g : Mk.Str × Bool) (q : Mk.Str) : Mk.node (gvs g) q = gvs (Mk.node g.1 q, g.2) := by
  obtain ⟨r, ok⟩ := g
  cases ok
  · exact Mk.node_nil_left q
  · rfl
theorem gvs_right (g : Mk.Str × Bool) (q : Mk.Str) : Mk.node q (gvs g) = gvs (Mk.node q g.1, g.2) := by
  obtain ⟨r, ok⟩ := g
  cases ok
  · exact Mk.node_nil_right q
  · rfl
def rincBad (x : Mk.Str) (i n : Int) (P : List Mk.Str) (r : Mk.Str) : Bool := !decide (x.length = 32) || !decide (r.length = 32) || !(vld P) || decide (n < 1) || decide (n > 4096) || decide (i < 0) || decide (i ≥ n)
/-- what Included reports -/
def rincB (x : Mk.Str) (i n : Int) (P : List Mk.Str) (r : Mk.Str) : Bool := !rincBad x i n P r && (gvs (Mk.given x i.toNat n.toNat P) == r)
theorem rincB_bad {x : Mk.Str} {i n : Int} {P : List Mk.Str} {r : Mk.Str} (h : rincBad x i n P r = true) : rincB x i n P r = false := by unfold rincB; rw [h]; rfl
theorem depth_lt : ∀ (n i : Nat), 1 ≤ n → Mk.depth i n < n := by
  intro n
  induction n using Nat.strongRecOn with
  | _ n ih =>
    intro i h1
    by_cases h2 : n < 2
    · rw [Mk.depth_one i n h2]; omega
    · have hk0 := Mk.split_pos n
      have hk1 := Mk.split_lt (n := n) (by omega)
      by_cases hi : i < Mk.split n
      · rw [Mk.depth_left i n (by omega) hi]
        have := ih (Mk.split n) hk1 i hk0
        omega
      · rw [Mk.depth_right i n (by omega) hi]
        have := ih (n - Mk.split n) (by omega) (i - Mk.split n) (by omega)
        omega
/-- both checks agree -/
theorem rincB_eq (x : Mk.Str) (i n : Int) (P : List Mk.Str) (r : Mk.Str) : rincB x i n P r = incB x i n P r := by
  unfold rincB incB
  cases hb : rincBad x i n P r with
  | true =>
    have : incBad x i n P r = true := by
      unfold rincBad at hb
      unfold incBad
      simp only [Bool.or_eq_true] at hb ⊢
      rcases hb with (((((h | h) | h) | h) | h) | h) | h
      · exact .inl (.inl (.inl (.inl (.inl (.inl h)))))
      · exact .inl (.inl (.inl (.inl (.inl (.inr h)))))
      · refine .inl (.inl (.inl (.inl (.inr ?_))))
        cases hv : vld P with
        | true => rw [hv] at h; cases h
        | false => simp
      · exact .inl (.inl (.inl (.inr h)))
      · exact .inl (.inl (.inr h))
      · exact .inl (.inr h)
      · exact .inr h
    rw [this]
    rfl
  | false =>
    unfold rincBad at hb
    simp only [Bool.or_eq_false_iff, decide_eq_false_iff_not, Bool.not_eq_false'] at hb
    obtain ⟨⟨⟨⟨⟨⟨h1, h2⟩, h3⟩, h4⟩, h5⟩, h6⟩, h7⟩ := hb
    simp only [decide_eq_true_eq] at h1 h2
    have hgo := Mk.given_ok n.toNat x i.toNat P
    by_cases hp : P.length ≤ 4096
    · have : incBad x i n P r = false := by
        unfold incBad
        simp only [Bool.or_eq_false_iff, decide_eq_false_iff_not, Bool.not_eq_false', Bool.and_eq_true, decide_eq_true_eq]
        exact ⟨⟨⟨⟨⟨⟨h1, h2⟩, hp, h3⟩, h4⟩, h5⟩, h6⟩, h7⟩
      rw [this]
      unfold gvs
      cases hg : (Mk.given x i.toNat n.toNat P).2 with
      | true => rfl
      | false =>
        have hr : (([] : Mk.Str) == r) = false := by
          cases r with
          | nil => cases h2
          | cons a l => rfl
        simp [hr]
    · have : incBad x i n P r = true := by
        unfold incBad
        have : (decide (P.length ≤ 4096) && vld P) = false := by rw [decide_eq_false hp, Bool.false_and]
        rw [this]
        simp
      rw [this]
      have hd := depth_lt n.toNat i.toNat (by omega)
      rw [decide_eq_false (by omega)] at hgo
      unfold gvs
      rw [hgo]
      have hr : (([] : Mk.Str) == r) = false := by
        cases r with
        | nil => cases h2
        | cons a l => rfl
      simp [hr]
end Go.Proofs.Ytnlpakalcckaiaa
