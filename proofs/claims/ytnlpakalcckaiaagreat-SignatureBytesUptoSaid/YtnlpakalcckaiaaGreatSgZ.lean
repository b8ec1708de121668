/-
  What is read is written again as the same bytes. Conditions: none.
-/
import Derived.Test.YtnlpakalcckaiaaGreatSgY
namespace Go.Proofs.YtnlpakalcckaiaaGreat
set_option linter.unusedVariables false
open Go.RowKit

theorem decR_inv (s : Sg.Str) : (decR s = ((0, [], []), 9)) ∨ ∃ (i : Nat) (C T : List Sg.Str), i < 9223372036854775808 ∧ okB (i : Int) C T = true ∧ encS (i : Int) C T = s ∧ decR s = (((i : Int), C, T), 0) := by
  cases h1 : Cd.readUint s 0 with
  | none =>
    left
    have e1 : uintR s 0 0 = (0, 0, 9) := by unfold uintR; rw [if_neg (by simp), h1]
    have e2 : ∀ a, textsR s a 9 = ([], a, 9) := fun a => by unfold textsR; rw [if_pos (by decide)]
    have e3 : ∀ a, endR s a 9 = 9 := fun a => by unfold endR; rw [if_neg (fun h => absurd h.1 (by decide))]
    unfold decR
    simp only [e1, e2, e3]
    rw [if_neg (by decide)]
  | some p =>
    obtain ⟨j, a1⟩ := p
    have e1 : uintR s 0 0 = ((j : Int), a1, 0) := by unfold uintR; rw [if_neg (by simp), h1]
    have e4 : ∀ a, textsR s a 9 = ([], a, 9) := fun a => by unfold textsR; rw [if_pos (by decide)]
    have e5 : ∀ a, endR s a 9 = 9 := fun a => by unfold endR; rw [if_neg (fun h => absurd h.1 (by decide))]
    cases h2 : Cd.readTexts s a1 with
    | none =>
      left
      have e2 : textsR s a1 0 = ([], a1, 9) := by unfold textsR; rw [if_neg (by simp), h2]
      unfold decR
      simp only [e1, e2, e4, e5]
      rw [if_neg (by decide)]
    | some p =>
      obtain ⟨C, a2⟩ := p
      have e2 : textsR s a1 0 = (C, a2, 0) := by unfold textsR; rw [if_neg (by simp), h2]
      cases h3 : Cd.readTexts s a2 with
      | none =>
        left
        have e3 : textsR s a2 0 = ([], a2, 9) := by unfold textsR; rw [if_neg (by simp), h3]
        unfold decR
        simp only [e1, e2, e3, e5]
        rw [if_neg (by decide)]
      | some p =>
        obtain ⟨T, a3⟩ := p
        have e3 : textsR s a2 0 = (T, a3, 0) := by unfold textsR; rw [if_neg (by simp), h3]
        obtain ⟨u1, u2, u3⟩ := Cd.readUint_inv h1
        obtain ⟨v1, v2⟩ := Cd.readTexts_inv h2
        obtain ⟨w1, w2⟩ := Cd.readTexts_inv h3
        by_cases ha : a3 < s.length
        · left
          have e6 : endR s a3 0 = 9 := by unfold endR; rw [if_pos ⟨rfl, ha⟩]
          unfold decR
          simp only [e1, e2, e3, e6]
          rw [if_neg (by decide)]
        · have e6 : endR s a3 0 = 0 := by unfold endR; rw [if_neg (fun h => ha h.2)]
          cases ho : okB (j : Int) C T with
          | false =>
            left
            unfold decR
            simp only [e1, e2, e3, e6, ho]
            simp
          | true =>
            right
            refine ⟨j, C, T, by omega, ho, ?_, ?_⟩
            · have hd : s.drop a3 = [] := List.drop_eq_nil_of_le (by omega)
              unfold encS
              rw [Int.toNat_natCast]
              rw [hd, List.append_nil] at w1
              rw [w1] at v1
              rw [v1, List.drop_zero] at u1
              rw [u1, List.append_assoc]
            · unfold decR
              simp only [e1, e2, e3, e6, ho]
              simp
end Go.Proofs.YtnlpakalcckaiaaGreat
