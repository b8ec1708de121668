/-
  The codec of chapter 2 as plain functions on lists of bytes, and its plain laws: what is written is read back, what is read was written so. Conditions: none.
-/
import Derived.Test.YtalailodnmfmlaaKit
namespace Go.Proofs.Ytalailodnmfmlaa
set_option linter.unusedVariables false
namespace Cd

/-- the bytes of an unsigned number, with fuel -/
def unsF : Nat → Nat → List UInt8
  | 0, _ => []
  | f + 1, n => if n < 128 then [UInt8.ofNat n] else UInt8.ofNat (n % 128 + 128) :: unsF f (n / 128)
def uns (n : Nat) : List UInt8 := unsF 10 n

/-- an unsigned number at the head of some bytes, and how many bytes it takes -/
def decF : Nat → Nat → List UInt8 → Option (Nat × Nat)
  | 0, _, _ => none
  | _ + 1, _, [] => none
  | f + 1, i, b :: r =>
    if i = 9 ∧ 1 < b.toNat then none
    else if b.toNat < 128 then (if 0 < b.toNat ∨ i = 0 then some (b.toNat, 1) else none)
    else (decF f (i + 1) r).map fun p => (b.toNat % 128 + 128 * p.1, p.2 + 1)
def dec (l : List UInt8) : Option (Nat × Nat) := decF 10 0 l

theorem u8_nat (n : Nat) (h : n < 256) : (UInt8.ofNat n).toNat = n := by
  simp [UInt8.toNat_ofNat']; omega
theorem u8_of (b : UInt8) : UInt8.ofNat b.toNat = b := by simp
theorem u8_lt (b : UInt8) : b.toNat < 256 := b.toNat_lt

theorem unsF_ne (f n : Nat) : unsF (f + 1) n ≠ [] := by
  unfold unsF; split <;> simp
theorem unsF_len (f : Nat) : ∀ n, (unsF f n).length ≤ f := by
  induction f with
  | zero => intro n; simp [unsF]
  | succ f ih => intro n; unfold unsF; split <;> simp; exact ih _
theorem uns_len (n : Nat) : (uns n).length ≤ 10 := unsF_len 10 n
theorem uns_pos (n : Nat) : 0 < (uns n).length := List.length_pos_iff.2 (unsF_ne 9 n)

theorem decF_unsF (f : Nat) : ∀ (i n : Nat) (rest : List UInt8), i + f = 9 → n < 2 ^ (7 * f + 1) → (i = 0 ∨ 0 < n) → decF (f + 1) i (unsF (f + 1) n ++ rest) = some (n, (unsF (f + 1) n).length) := by
  induction f with
  | zero =>
    intro i n rest hi hn h0
    have hn' : n < 2 := by simpa using hn
    have e : unsF 1 n = [UInt8.ofNat n] := by unfold unsF; rw [if_pos (by omega)]
    rw [e]
    have hb := u8_nat n (by omega)
    simp only [List.cons_append, List.nil_append, decF, hb]
    rw [if_neg (by omega), if_pos (by omega), if_pos (by omega)]
    rfl
  | succ f ih =>
    intro i n rest hi hn h0
    by_cases h : n < 128
    · have e : unsF (f + 1 + 1) n = [UInt8.ofNat n] := by unfold unsF; rw [if_pos h]
      rw [e]
      have hb := u8_nat n (by omega)
      simp only [List.cons_append, List.nil_append, decF, hb]
      rw [if_neg (by omega), if_pos (by omega), if_pos (by omega)]
      rfl
    · have e : unsF (f + 1 + 1) n = UInt8.ofNat (n % 128 + 128) :: unsF (f + 1) (n / 128) := by rw [unsF, if_neg h]
      rw [e]
      have hb := u8_nat (n % 128 + 128) (by omega)
      have hp : 2 ^ (7 * (f + 1) + 1) = 128 * 2 ^ (7 * f + 1) := by
        rw [show 7 * (f + 1) + 1 = 7 + (7 * f + 1) from by omega, Nat.pow_add]
      rw [hp] at hn
      have := ih (i + 1) (n / 128) rest (by omega) (by omega) (.inr (by omega))
      rw [List.cons_append, decF, hb, if_neg (by omega), if_neg (by omega), this]
      simp
      omega

theorem dec_uns (n : Nat) (rest : List UInt8) (h : n < 2 ^ 64) : dec (uns n ++ rest) = some (n, (uns n).length) := decF_unsF 9 0 n rest rfl h (.inl rfl)

theorem decF_inv (f : Nat) : ∀ (i : Nat) (l : List UInt8) (n c : Nat), i + f = 9 → decF (f + 1) i l = some (n, c) → l.take c = unsF (f + 1) n ∧ c = (unsF (f + 1) n).length ∧ n < 2 ^ (7 * f + 1) ∧ c ≤ l.length ∧ (i = 0 ∨ 0 < n) := by
  induction f with
  | zero =>
    intro i l n c hi h
    match l with
    | [] => simp [decF] at h
    | b :: r =>
      simp only [decF] at h
      by_cases h1 : i = 9 ∧ 1 < b.toNat
      · simp [h1] at h
      · rw [if_neg h1] at h
        by_cases h2 : b.toNat < 128
        · rw [if_pos h2] at h
          by_cases h3 : 0 < b.toNat ∨ i = 0
          · rw [if_pos h3] at h
            simp only [Option.some.injEq, Prod.mk.injEq] at h
            obtain ⟨rfl, rfl⟩ := h
            have e : unsF 1 b.toNat = [b] := by unfold unsF; rw [if_pos h2, u8_of]
            simp only [Nat.zero_add] at *
            rw [e]
            refine ⟨by simp, rfl, ?_, by simp, by omega⟩
            simp; omega
          · simp [h3] at h
        · simp [h2] at h
  | succ f ih =>
    intro i l n c hi h
    match l with
    | [] => simp [decF] at h
    | b :: r =>
      rw [decF] at h
      by_cases h1 : i = 9 ∧ 1 < b.toNat
      · simp [h1] at h
      · rw [if_neg h1] at h
        by_cases h2 : b.toNat < 128
        · rw [if_pos h2] at h
          by_cases h3 : 0 < b.toNat ∨ i = 0
          · rw [if_pos h3] at h
            simp only [Option.some.injEq, Prod.mk.injEq] at h
            obtain ⟨rfl, rfl⟩ := h
            have e : unsF (f + 1 + 1) b.toNat = [b] := by unfold unsF; rw [if_pos h2, u8_of]
            rw [e]
            refine ⟨by simp, rfl, ?_, by simp, by omega⟩
            have : 2 ^ 7 ≤ 2 ^ (7 * (f + 1) + 1) := Nat.pow_le_pow_right (by decide) (by omega)
            omega
          · simp [h3] at h
        · rw [if_neg h2] at h
          cases hd : decF (f + 1) (i + 1) r with
          | none => simp [hd] at h
          | some p =>
            obtain ⟨m, k⟩ := p
            rw [hd] at h
            simp only [Option.map_some, Option.some.injEq, Prod.mk.injEq] at h
            obtain ⟨rfl, rfl⟩ := h
            obtain ⟨g1, g2, g3, g4, g5⟩ := ih (i + 1) r m k (by omega) hd
            have hm : 0 < m := by omega
            have hb := u8_lt b
            have e : unsF (f + 1 + 1) (b.toNat % 128 + 128 * m) = b :: unsF (f + 1) m := by
              rw [unsF, if_neg (by omega), show (b.toNat % 128 + 128 * m) / 128 = m from by omega, show (b.toNat % 128 + 128 * m) % 128 + 128 = b.toNat from by omega, u8_of]
            rw [e]
            have hp : 2 ^ (7 * (f + 1) + 1) = 128 * 2 ^ (7 * f + 1) := by
              rw [show 7 * (f + 1) + 1 = 7 + (7 * f + 1) from by omega, Nat.pow_add]
            refine ⟨by simp [g1], by simp [g2], by omega, by simp; omega, by omega⟩

theorem dec_inv {l : List UInt8} {n c : Nat} (h : dec l = some (n, c)) : l.take c = uns n ∧ c = (uns n).length ∧ n < 2 ^ 64 ∧ c ≤ l.length := by
  obtain ⟨a, b, c, d, _⟩ := decF_inv 9 0 l n c rfl h
  exact ⟨a, b, c, d⟩

/-! ### what is written -/
def int (n : Int) : List UInt8 := if n < 0 then uns (2 * (-(n + 1)).toNat + 1) else uns (2 * n.toNat)
def text (s : List UInt8) : List UInt8 := uns s.length ++ s
def body (l : List (List UInt8)) : List UInt8 := (l.map text).flatten
def texts (l : List (List UInt8)) : List UInt8 := uns l.length ++ body l
theorem body_nil : body [] = [] := rfl
theorem body_cons (s : List UInt8) (l : List (List UInt8)) : body (s :: l) = text s ++ body l := by simp [body]
theorem body_append (a b : List (List UInt8)) : body (a ++ b) = body a ++ body b := by simp [body]

/-! ### what is read: from offset 'at' of s -/
def readUns (s : List UInt8) (at_ : Nat) : Option (Nat × Nat) := (dec (s.drop at_)).map fun p => (p.1, at_ + p.2)
def readUint (s : List UInt8) (at_ : Nat) : Option (Nat × Nat) := match readUns s at_ with
  | some (n, next) => if n < 2 ^ 63 then some (n, next) else none
  | none => none
def unzig (n : Nat) : Int := if n % 2 = 0 then (n / 2 : Nat) else -((n / 2 : Nat) : Int) - 1
def readInt (s : List UInt8) (at_ : Nat) : Option (Int × Nat) := (readUns s at_).map fun p => (unzig p.1, p.2)
def readCount (s : List UInt8) (at_ : Nat) (most : Int) : Option (Nat × Nat) := match readUint s at_ with
  | some (n, next) => if (n : Int) ≤ most then some (n, next) else none
  | none => none
def readText (s : List UInt8) (at_ : Nat) : Option (List UInt8 × Nat) := match readUint s at_ with
  | some (n, next) => if n ≤ s.length - next then some ((s.drop next).take n, next + n) else none
  | none => none
def readMany (s : List UInt8) : Nat → Nat → Option (List (List UInt8) × Nat)
  | 0, at_ => some ([], at_)
  | k + 1, at_ => match readText s at_ with
    | some (x, next) => match readMany s k next with
      | some (r, e) => some (x :: r, e)
      | none => none
    | none => none
def readTexts (s : List UInt8) (at_ : Nat) : Option (List (List UInt8) × Nat) := match readUint s at_ with
  | some (n, next) => if n ≤ s.length - next then readMany s n next else none
  | none => none

theorem readUns_le {s : List UInt8} {at_ n next : Nat} (h : readUns s at_ = some (n, next)) (ha : at_ ≤ s.length) : at_ < next ∧ next ≤ s.length ∧ n < 2 ^ 64 := by
  unfold readUns at h
  cases hd : dec (s.drop at_) with
  | none => simp [hd] at h
  | some p =>
    obtain ⟨m, c⟩ := p
    simp [hd] at h
    obtain ⟨rfl, rfl⟩ := h
    obtain ⟨h1, h2, h3, h4⟩ := dec_inv hd
    have := uns_pos m
    simp at h4
    omega
theorem readUint_le {s : List UInt8} {at_ n next : Nat} (h : readUint s at_ = some (n, next)) (ha : at_ ≤ s.length) : at_ < next ∧ next ≤ s.length ∧ n < 2 ^ 63 := by
  unfold readUint at h
  cases hd : readUns s at_ with
  | none => simp [hd] at h
  | some p =>
    obtain ⟨m, c⟩ := p
    simp only [hd] at h
    split at h
    · simp only [Option.some.injEq, Prod.mk.injEq] at h
      obtain ⟨rfl, rfl⟩ := h
      have := readUns_le hd ha
      omega
    · simp at h
theorem readText_le {s x : List UInt8} {at_ next : Nat} (h : readText s at_ = some (x, next)) (ha : at_ ≤ s.length) : at_ < next ∧ next ≤ s.length ∧ x.length ≤ s.length := by
  unfold readText at h
  cases hd : readUint s at_ with
  | none => simp [hd] at h
  | some p =>
    obtain ⟨m, c⟩ := p
    simp only [hd] at h
    split at h
    · simp only [Option.some.injEq, Prod.mk.injEq] at h
      obtain ⟨rfl, rfl⟩ := h
      have := readUint_le hd ha
      simp
      omega
    · simp at h
theorem readMany_le {s : List UInt8} : ∀ {k at_ : Nat} {r : List (List UInt8)} {next : Nat}, readMany s k at_ = some (r, next) → at_ ≤ s.length → at_ ≤ next ∧ next ≤ s.length ∧ r.length = k
  | 0, at_, r, next, h, ha => by
    simp [readMany] at h
    obtain ⟨rfl, rfl⟩ := h
    exact ⟨by omega, ha, rfl⟩
  | k + 1, at_, r, next, h, ha => by
    simp only [readMany] at h
    cases hd : readText s at_ with
    | none => simp [hd] at h
    | some p =>
      obtain ⟨x, n1⟩ := p
      simp only [hd] at h
      cases hm : readMany s k n1 with
      | none => simp [hm] at h
      | some q =>
        obtain ⟨r1, e⟩ := q
        simp only [hm, Option.some.injEq, Prod.mk.injEq] at h
        obtain ⟨rfl, rfl⟩ := h
        have h1 := readText_le hd ha
        have h2 := readMany_le hm h1.2.1
        simp
        omega

end Cd
end Go.Proofs.Ytalailodnmfmlaa
