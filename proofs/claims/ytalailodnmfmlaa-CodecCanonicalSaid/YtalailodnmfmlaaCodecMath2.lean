/-
  Plain laws of the codec: what is written is read back, cut bytes are not read, what is read was written so, different lists have different bytes. Conditions: lengths below 2^40.
-/
import Derived.Test.YtalailodnmfmlaaCodecMath
namespace Go.Proofs.Ytalailodnmfmlaa
set_option linter.unusedVariables false
namespace Cd

theorem readUns_at (pre post : List UInt8) (n : Nat) (h : n < 2 ^ 64) : readUns (pre ++ (uns n ++ post)) pre.length = some (n, pre.length + (uns n).length) := by
  unfold readUns
  rw [List.drop_left, dec_uns n post h]
  rfl
theorem readUint_at (pre post : List UInt8) (n : Nat) (h : n < 2 ^ 63) : readUint (pre ++ (uns n ++ post)) pre.length = some (n, pre.length + (uns n).length) := by
  unfold readUint
  rw [readUns_at pre post n (by omega)]
  exact if_pos h
theorem int_form (m : Int) (h0 : -9223372036854775808 ≤ m) (h1 : m ≤ 9223372036854775807) : ∃ z : Nat, z < 2 ^ 64 ∧ int m = uns z ∧ unzig z = m := by
  unfold int unzig
  by_cases h : m < 0
  · exact ⟨2 * (-(m + 1)).toNat + 1, by omega, by rw [if_pos h], by rw [if_neg (by omega)]; omega⟩
  · exact ⟨2 * m.toNat, by omega, by rw [if_neg h], by rw [if_pos (by omega)]; omega⟩
theorem readInt_at (pre post : List UInt8) (m : Int) (h0 : -9223372036854775808 ≤ m) (h1 : m ≤ 9223372036854775807) : readInt (pre ++ (int m ++ post)) pre.length = some (m, pre.length + (int m).length) := by
  obtain ⟨z, hz, hi, hu⟩ := int_form m h0 h1
  unfold readInt
  rw [hi, readUns_at pre post z hz]
  simp [hu]
theorem readText_at (pre post s : List UInt8) (h : s.length < 2 ^ 63) : readText (pre ++ (text s ++ post)) pre.length = some (s, pre.length + (text s).length) := by
  unfold readText
  have e : pre ++ (text s ++ post) = pre ++ (uns s.length ++ (s ++ post)) := by simp [text]
  rw [e, readUint_at pre (s ++ post) s.length h]
  simp only []
  have e2 : (pre ++ (uns s.length ++ (s ++ post))).drop (pre.length + (uns s.length).length) = s ++ post := by
    rw [← List.append_assoc, ← List.length_append, List.drop_left]
  rw [if_pos (by simp; omega), e2]
  simp [text]
  omega
theorem readMany_at (post : List UInt8) : ∀ (L : List (List UInt8)) (pre : List UInt8), (∀ s ∈ L, s.length < 2 ^ 63) → readMany (pre ++ (body L ++ post)) L.length pre.length = some (L, pre.length + (body L).length)
  | [], pre, _ => by simp [readMany, body]
  | s :: L, pre, h => by
    have e : pre ++ (body (s :: L) ++ post) = pre ++ (text s ++ (body L ++ post)) := by simp [body_cons]
    rw [List.length_cons, readMany, e, readText_at pre (body L ++ post) s (h s (by simp))]
    simp only []
    have e2 : pre ++ (text s ++ (body L ++ post)) = (pre ++ text s) ++ (body L ++ post) := by simp
    rw [e2, ← List.length_append, readMany_at post L (pre ++ text s) (fun x hx => h x (by simp [hx]))]
    simp [body_cons]
    omega
theorem body_ge : ∀ L : List (List UInt8), L.length ≤ (body L).length
  | [] => by simp
  | s :: L => by
    have := uns_pos s.length
    have := body_ge L
    rw [body_cons]
    simp [text]
    omega
theorem readTexts_at (pre post : List UInt8) (L : List (List UInt8)) (h : ∀ s ∈ L, s.length < 2 ^ 63) (hL : L.length < 2 ^ 63) : readTexts (pre ++ (texts L ++ post)) pre.length = some (L, pre.length + (texts L).length) := by
  unfold readTexts
  have e : pre ++ (texts L ++ post) = pre ++ (uns L.length ++ (body L ++ post)) := by simp [texts]
  rw [e, readUint_at pre (body L ++ post) L.length hL]
  simp only []
  have := body_ge L
  rw [if_pos (by simp; omega)]
  have e2 : pre ++ (uns L.length ++ (body L ++ post)) = (pre ++ uns L.length) ++ (body L ++ post) := by simp
  rw [e2, ← List.length_append, readMany_at post L (pre ++ uns L.length) h]
  simp [texts]
  omega

theorem all_reads (u s rest : List UInt8) (m : Int) (L : List (List UInt8)) (h0 : -9223372036854775808 ≤ m) (h1 : m ≤ 9223372036854775807) (hs : s.length < 2 ^ 63) (hm : ∀ x ∈ L, x.length < 2 ^ 63) (hl : L.length < 2 ^ 63) :
    ∃ a2 a3 a4, readInt (u ++ (int m ++ (text s ++ (texts L ++ rest)))) u.length = some (m, a2) ∧ readText (u ++ (int m ++ (text s ++ (texts L ++ rest)))) a2 = some (s, a3) ∧ readTexts (u ++ (int m ++ (text s ++ (texts L ++ rest)))) a3 = some (L, a4) ∧
      u.length ≤ (u ++ (int m ++ (text s ++ (texts L ++ rest)))).length ∧ a2 ≤ (u ++ (int m ++ (text s ++ (texts L ++ rest)))).length ∧ a3 ≤ (u ++ (int m ++ (text s ++ (texts L ++ rest)))).length ∧ a4 + rest.length = (u ++ (int m ++ (text s ++ (texts L ++ rest)))).length := by
  refine ⟨u.length + (int m).length, u.length + (int m).length + (text s).length, u.length + (int m).length + (text s).length + (texts L).length, readInt_at u _ m h0 h1, ?_, ?_, by simp only [List.length_append]; omega, by simp only [List.length_append]; omega, by simp only [List.length_append]; omega, by simp only [List.length_append]; omega⟩
  · have := readText_at (u ++ int m) (texts L ++ rest) s hs
    simpa using this
  · have := readTexts_at (u ++ int m ++ text s) rest L hm hl
    simpa [Nat.add_assoc] using this

/-! ### what is read was written so -/
theorem readUns_inv {s : List UInt8} {at_ n next : Nat} (h : readUns s at_ = some (n, next)) : s.drop at_ = uns n ++ s.drop next ∧ next = at_ + (uns n).length ∧ n < 2 ^ 64 := by
  unfold readUns at h
  cases hd : dec (s.drop at_) with
  | none => simp [hd] at h
  | some p =>
    obtain ⟨m, c⟩ := p
    simp [hd] at h
    obtain ⟨rfl, rfl⟩ := h
    obtain ⟨h1, h2, h3, h4⟩ := dec_inv hd
    refine ⟨?_, by omega, h3⟩
    rw [← h1, ← List.drop_drop, List.take_append_drop]
theorem readUint_inv {s : List UInt8} {at_ n next : Nat} (h : readUint s at_ = some (n, next)) : s.drop at_ = uns n ++ s.drop next ∧ next = at_ + (uns n).length ∧ n < 2 ^ 63 := by
  unfold readUint at h
  cases hd : readUns s at_ with
  | none => simp [hd] at h
  | some p =>
    obtain ⟨m, c⟩ := p
    simp only [hd] at h
    split at h
    · simp only [Option.some.injEq, Prod.mk.injEq] at h
      obtain ⟨rfl, rfl⟩ := h
      have := readUns_inv hd
      exact ⟨this.1, this.2.1, by assumption⟩
    · simp at h
theorem int_unzig (z : Nat) (h : z < 2 ^ 64) : int (unzig z) = uns z ∧ -9223372036854775808 ≤ unzig z ∧ unzig z ≤ 9223372036854775807 := by
  unfold int unzig
  by_cases hp : z % 2 = 0
  · rw [if_pos hp, if_neg (by omega)]
    exact ⟨by rw [show 2 * (((z / 2 : Nat) : Int)).toNat = z from by omega], by omega, by omega⟩
  · rw [if_neg hp, if_pos (by omega)]
    exact ⟨by rw [show 2 * (-(-((z / 2 : Nat) : Int) - 1 + 1)).toNat + 1 = z from by omega], by omega, by omega⟩
theorem readInt_inv {s : List UInt8} {at_ next : Nat} {m : Int} (h : readInt s at_ = some (m, next)) : s.drop at_ = int m ++ s.drop next ∧ next = at_ + (int m).length ∧ -9223372036854775808 ≤ m ∧ m ≤ 9223372036854775807 := by
  unfold readInt at h
  cases hd : readUns s at_ with
  | none => simp [hd] at h
  | some p =>
    obtain ⟨z, c⟩ := p
    simp [hd] at h
    obtain ⟨rfl, rfl⟩ := h
    obtain ⟨h1, h2, h3⟩ := readUns_inv hd
    obtain ⟨i1, i2, i3⟩ := int_unzig z h3
    rw [i1]
    exact ⟨h1, h2, i2, i3⟩
theorem readText_inv {s x : List UInt8} {at_ next : Nat} (h : readText s at_ = some (x, next)) : s.drop at_ = text x ++ s.drop next ∧ next = at_ + (text x).length := by
  unfold readText at h
  cases hd : readUint s at_ with
  | none => simp [hd] at h
  | some p =>
    obtain ⟨n, c⟩ := p
    simp only [hd] at h
    split at h
    · rename_i hn
      simp only [Option.some.injEq, Prod.mk.injEq] at h
      obtain ⟨rfl, rfl⟩ := h
      obtain ⟨h1, h2, h3⟩ := readUint_inv hd
      have hl : ((s.drop c).take n).length = n := by simp; omega
      unfold text
      rw [hl]
      refine ⟨?_, by simp [hl]; omega⟩
      rw [h1, List.append_assoc, ← List.drop_drop, List.take_append_drop]
    · simp at h
theorem readMany_inv {s : List UInt8} : ∀ {k at_ : Nat} {r : List (List UInt8)} {next : Nat}, readMany s k at_ = some (r, next) → s.drop at_ = body r ++ s.drop next ∧ next = at_ + (body r).length ∧ r.length = k
  | 0, at_, r, next, h => by
    simp [readMany] at h
    obtain ⟨rfl, rfl⟩ := h
    simp [body]
  | k + 1, at_, r, next, h => by
    simp only [readMany] at h
    cases hd : readText s at_ with
    | none => simp [hd] at h
    | some p =>
      obtain ⟨x, n1⟩ := p
      simp only [hd] at h
      cases hm : readMany s k n1 with
      | none => simp [hm] at h
      | some q =>
        obtain ⟨r1, e⟩ := q
        simp only [hm, Option.some.injEq, Prod.mk.injEq] at h
        obtain ⟨rfl, rfl⟩ := h
        obtain ⟨h1, h2⟩ := readText_inv hd
        obtain ⟨h3, h4, h5⟩ := readMany_inv hm
        rw [body_cons]
        refine ⟨by rw [h1, h3, List.append_assoc], by simp; omega, by simp; omega⟩
theorem readTexts_inv {s : List UInt8} {at_ next : Nat} {r : List (List UInt8)} (h : readTexts s at_ = some (r, next)) : s.drop at_ = texts r ++ s.drop next ∧ next = at_ + (texts r).length := by
  unfold readTexts at h
  cases hd : readUint s at_ with
  | none => simp [hd] at h
  | some p =>
    obtain ⟨n, c⟩ := p
    simp only [hd] at h
    split at h
    · obtain ⟨h1, h2, h3⟩ := readUint_inv hd
      obtain ⟨h4, h5, h6⟩ := readMany_inv h
      unfold texts
      rw [h6]
      exact ⟨by rw [h1, h4, List.append_assoc], by simp; omega⟩
    · simp at h

/-! ### no bytes of a list are the beginning of another's; cut bytes are not read -/
theorem texts_prefix {a b : List (List UInt8)} {r : List UInt8} (ha : ∀ s ∈ a, s.length < 2 ^ 63) (hla : a.length < 2 ^ 63) (hb : ∀ s ∈ b, s.length < 2 ^ 63) (hlb : b.length < 2 ^ 63) (h : texts a ++ r = texts b) : a = b := by
  have h1 := readTexts_at [] r a ha hla
  have h2 := readTexts_at [] [] b hb hlb
  simp only [List.nil_append, List.append_nil] at h1 h2
  rw [h, h2] at h1
  simp only [Option.some.injEq, Prod.mk.injEq] at h1
  exact h1.1.symm
theorem mem_body_len {r : List (List UInt8)} {s : List UInt8} (hs : s ∈ r) : s.length ≤ (body r).length := by
  induction r with
  | nil => simp at hs
  | cons x r ih =>
    rw [body_cons]
    rcases List.mem_cons.1 hs with rfl | hs
    · simp [text]; omega
    · have := ih hs; simp; omega
theorem readTexts_le {s : List UInt8} {at_ next : Nat} {r : List (List UInt8)} (h : readTexts s at_ = some (r, next)) (ha : at_ ≤ s.length) : next ≤ s.length := by
  unfold readTexts at h
  cases hd : readUint s at_ with
  | none => simp [hd] at h
  | some p =>
    simp only [hd] at h
    split at h
    · exact (readMany_le h (readUint_le hd ha).2.1).2.1
    · simp at h
theorem texts_cut {L : List (List UInt8)} (hL : (texts L).length < 2 ^ 63) {c : Nat} (hc : c < (texts L).length) : readTexts ((texts L).take c) 0 = none := by
  cases h : readTexts ((texts L).take c) 0 with
  | none => rfl
  | some q =>
    obtain ⟨r, next⟩ := q
    obtain ⟨h1, h2⟩ := readTexts_inv h
    have hn := readTexts_le h (Nat.zero_le _)
    have hl : ∀ M : List (List UInt8), (texts M).length = (uns M.length).length + (body M).length := fun M => by simp [texts]
    have h3 : texts r ++ (((texts L).take c).drop next ++ (texts L).drop c) = texts L := by
      rw [List.drop_zero] at h1
      rw [← List.append_assoc, ← h1, List.take_append_drop]
    simp only [List.length_take] at hn
    have hb1 := hl r
    have hb2 := hl L
    have e := texts_prefix (a := r) (b := L) (fun s hs => by have := mem_body_len hs; omega) (by have := body_ge r; omega) (fun s hs => by have := mem_body_len hs; omega) (by have := body_ge L; omega) h3
    subst e
    omega
theorem int_cut {m : Int} (h0 : -9223372036854775808 ≤ m) (h1 : m ≤ 9223372036854775807) {c : Nat} (hc : c < (int m).length) : readInt ((int m).take c) 0 = none := by
  obtain ⟨z, hz, hi, hu⟩ := int_form m h0 h1
  rw [hi] at hc ⊢
  unfold readInt
  cases h : readUns ((uns z).take c) 0 with
  | none => rfl
  | some q =>
    obtain ⟨n, next⟩ := q
    obtain ⟨g1, g2, g3⟩ := readUns_inv h
    have hn := (readUns_le h (Nat.zero_le _)).2.1
    have h3 : uns n ++ (((uns z).take c).drop next ++ (uns z).drop c) = uns z := by
      rw [List.drop_zero] at g1
      rw [← List.append_assoc, ← g1, List.take_append_drop]
    have d1 := dec_uns n (((uns z).take c).drop next ++ (uns z).drop c) g3
    have d2 := dec_uns z [] hz
    rw [h3] at d1
    rw [List.append_nil, d1] at d2
    simp only [Option.some.injEq, Prod.mk.injEq] at d2
    simp only [List.length_take] at hn
    omega
end Cd
end Go.Proofs.Ytalailodnmfmlaa
