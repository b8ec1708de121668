/-
  What a call of a reader that leaves no error has read: the bytes that the writer writes. Conditions: the offset lies in the string, the string has at most 2^40 bytes.
-/
import Derived.Test.YtalailodnmfmlaaCodecRes
import Derived.Test.YtalailodnmfmlaaCodecMath2
namespace Go.Proofs.Ytalailodnmfmlaa
set_option linter.unusedVariables false
open Go.RowKit

theorem take_more {s x : List UInt8} {a b : Nat} (ha : a ≤ s.length) (h : s.drop a = x ++ s.drop b) (hb : b = a + x.length) : s.take b = s.take a ++ x ∧ b ≤ s.length := by
  have hl := congrArg List.length h
  simp only [List.length_append, List.length_drop] at hl
  have hle : b ≤ s.length := by omega
  refine ⟨?_, hle⟩
  subst hb
  rw [List.take_add, h, List.take_left]

theorem can_uint {s : List UInt8} {at_ : Nat} (ha : at_ ≤ s.length) {num : Int} (h : (callR s at_ 0 0 num).err = 0) :
    ∃ n next, callR s at_ 0 0 num = ⟨(n : Nat), [], [], next, 0⟩ ∧ n < 9223372036854775808 ∧ s.take next = s.take at_ ++ Cd.uns n ∧ next ≤ s.length := by
  simp only [callR, if_true, uintR, ne_eq, not_true_eq_false, if_false] at h ⊢
  cases hu : Cd.readUint s at_ with
  | none => rw [hu] at h; simp at h
  | some q =>
    obtain ⟨n, next⟩ := q
    obtain ⟨h1, h2, h3⟩ := Cd.readUint_inv hu
    obtain ⟨h4, h5⟩ := take_more ha h1 h2
    exact ⟨n, next, rfl, by omega, h4, h5⟩
theorem can_count {s : List UInt8} {at_ : Nat} (ha : at_ ≤ s.length) {num : Int} (h : (callR s at_ 0 3 num).err = 0) :
    ∃ n next, callR s at_ 0 3 num = ⟨(n : Nat), [], [], next, 0⟩ ∧ n < 9223372036854775808 ∧ s.take next = s.take at_ ++ Cd.uns n ∧ next ≤ s.length := by
  have hc : callR s at_ 0 3 num = ⟨(countR s at_ 0 num).1, [], [], (countR s at_ 0 num).2.1, (countR s at_ 0 num).2.2⟩ := by simp [callR]
  rw [hc] at h ⊢
  simp only [countR, ne_eq, not_true_eq_false, if_false] at h ⊢
  cases hu : Cd.readUint s at_ with
  | none =>
    have : Cd.readCount s at_ num = none := by unfold Cd.readCount; rw [hu]
    rw [this] at h; simp at h
  | some q =>
    obtain ⟨n, next⟩ := q
    by_cases hm : (n : Int) ≤ num
    · have e : Cd.readCount s at_ num = some (n, next) := by unfold Cd.readCount; rw [hu]; simp [hm]
      rw [e]
      obtain ⟨h1, h2, h3⟩ := Cd.readUint_inv hu
      obtain ⟨h4, h5⟩ := take_more ha h1 h2
      exact ⟨n, next, rfl, by omega, h4, h5⟩
    · have e : Cd.readCount s at_ num = none := by unfold Cd.readCount; rw [hu]; simp [hm]
      rw [e] at h; simp at h
theorem can_int {s : List UInt8} {at_ : Nat} (ha : at_ ≤ s.length) {num : Int} (h : (callR s at_ 0 1 num).err = 0) :
    ∃ n next, callR s at_ 0 1 num = ⟨n, [], [], next, 0⟩ ∧ -9223372036854775808 ≤ n ∧ n ≤ 9223372036854775807 ∧ s.take next = s.take at_ ++ Cd.int n ∧ next ≤ s.length := by
  have hc : callR s at_ 0 1 num = ⟨(intR s at_ 0).1, [], [], (intR s at_ 0).2.1, (intR s at_ 0).2.2⟩ := by simp [callR]
  rw [hc] at h ⊢
  simp only [intR, ne_eq, not_true_eq_false, if_false] at h ⊢
  cases hu : Cd.readInt s at_ with
  | none => rw [hu] at h; simp at h
  | some q =>
    obtain ⟨n, next⟩ := q
    obtain ⟨h1, h2, h3, h6⟩ := Cd.readInt_inv hu
    obtain ⟨h4, h5⟩ := take_more ha h1 h2
    exact ⟨n, next, rfl, h3, h6, h4, h5⟩
theorem can_text {s : List UInt8} {at_ : Nat} (ha : at_ ≤ s.length) {num : Int} (h : (callR s at_ 0 2 num).err = 0) :
    ∃ x next, callR s at_ 0 2 num = ⟨0, x, [], next, 0⟩ ∧ x.length ≤ s.length ∧ s.take next = s.take at_ ++ Cd.text x ∧ next ≤ s.length := by
  have hc : callR s at_ 0 2 num = ⟨0, (textR s at_ 0).1, [], (textR s at_ 0).2.1, (textR s at_ 0).2.2⟩ := by simp [callR]
  rw [hc] at h ⊢
  simp only [textR, ne_eq, not_true_eq_false, if_false] at h ⊢
  cases hu : Cd.readText s at_ with
  | none => rw [hu] at h; simp at h
  | some q =>
    obtain ⟨x, next⟩ := q
    obtain ⟨h1, h2⟩ := Cd.readText_inv hu
    obtain ⟨h4, h5⟩ := take_more ha h1 h2
    have := text_len x
    exact ⟨x, next, rfl, by omega, h4, h5⟩
theorem can_texts {s : List UInt8} {at_ : Nat} (ha : at_ ≤ s.length) {num : Int} (h : (callR s at_ 0 4 num).err = 0) :
    ∃ L next, callR s at_ 0 4 num = ⟨0, [], L, next, 0⟩ ∧ (Cd.body L).length ≤ s.length ∧ L.length ≤ s.length ∧ s.take next = s.take at_ ++ Cd.texts L ∧ next ≤ s.length := by
  have hc : callR s at_ 0 4 num = ⟨0, [], (textsR s at_ 0).1, (textsR s at_ 0).2.1, (textsR s at_ 0).2.2⟩ := by simp [callR]
  rw [hc] at h ⊢
  simp only [textsR, ne_eq, not_true_eq_false, if_false] at h ⊢
  cases hu : Cd.readTexts s at_ with
  | none => rw [hu] at h; simp at h
  | some q =>
    obtain ⟨L, next⟩ := q
    obtain ⟨h1, h2⟩ := Cd.readTexts_inv hu
    obtain ⟨h4, h5⟩ := take_more ha h1 h2
    have e : (Cd.texts L).length = (Cd.uns L.length).length + (Cd.body L).length := by simp [Cd.texts]
    have hb : L.length ≤ (Cd.body L).length := by
      clear h1 h2 h4 h5 e hu
      induction L with
      | nil => simp
      | cons x L ih =>
        rw [Cd.body_cons, List.length_append, text_len, List.length_cons]
        have := Cd.uns_pos x.length
        omega
    exact ⟨L, next, rfl, by omega, by omega, h4, h5⟩
theorem can_else {s : List UInt8} {at_ : Nat} {kind num : Int} (h0 : kind ≠ 0) (h1 : kind ≠ 1) (h2 : kind ≠ 2) (h3 : kind ≠ 3) (h4 : kind ≠ 4) (h : (callR s at_ 0 kind num).err = 0) :
    (callR s at_ 0 kind num).off = at_ := by
  unfold callR
  rw [if_neg h0, if_neg h1, if_neg h2, if_neg h3, if_neg h4]
  split; · rfl
  split; · rfl
  rfl
end Go.Proofs.Ytalailodnmfmlaa
