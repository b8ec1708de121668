/-
  Digits there and back. Conditions: none.
-/
import Derived.Test.YtolgldgabhhmaaaShMath2
namespace Go.Proofs.Ytolgldgabhhmaaa.Sh
set_option linter.unusedVariables false

theorem hex_even : ∀ (d : Str) (i : Nat), i < d.length → (hex d).getD (2 * i) 0 = hexD ((d.getD i 0).toNat / 16)
  | x :: d, 0, _ => rfl
  | x :: d, i + 1, h => by
    have := hex_even d i (by simpa using h)
    rw [show 2 * (i + 1) = 2 * i + 2 by omega]
    exact this
theorem hex_odd : ∀ (d : Str) (i : Nat), i < d.length → (hex d).getD (2 * i + 1) 0 = hexD ((d.getD i 0).toNat % 16)
  | x :: d, 0, _ => rfl
  | x :: d, i + 1, h => by
    have := hex_odd d i (by simpa using h)
    rw [show 2 * (i + 1) + 1 = 2 * i + 1 + 2 by omega]
    exact this
theorem byteOf_hex (d : Str) (i : Nat) (h : i < d.length) : byteOf (hex d) i = d.getD i 0 := by
  unfold byteOf
  have := (d.getD i 0).toNat_lt
  rw [hex_even d i h, hex_odd d i h, dig_hexD _ (by omega), dig_hexD _ (by omega)]
  generalize d.getD i 0 = x at *
  have e : 16 * ((x.toNat / 16 : Nat) : Int).toNat + ((x.toNat % 16 : Nat) : Int).toNat = x.toNat := by omega
  rw [e]
  simp
theorem unhex_hex (d : Str) (h : d.length = 32) : unhex (hex d) 32 = d := by
  apply List.ext_getElem
  · rw [unhex_length, h]
  · intro i h1 h2
    rw [unhex_length] at h1
    simp only [unhex, List.getElem_map, List.getElem_range]
    rw [byteOf_hex d i h2, List.getD_eq_getElem?_getD, List.getElem?_eq_getElem h2]
    rfl
theorem good_hex (d : Str) (h : d.length = 32) : good (hex d) = true := by
  refine good_of _ (by rw [hex_length, h]) (fun j hj => ?_)
  have hi : j / 2 < d.length := by omega
  have := (d.getD (j / 2) 0).toNat_lt
  by_cases e : j % 2 = 0
  · rw [show j = 2 * (j / 2) by omega, hex_even d _ hi, dig_hexD _ (by omega)]
    omega
  · rw [show j = 2 * (j / 2) + 1 by omega, hex_odd d _ hi, dig_hexD _ (by omega)]
    omega
theorem dig_inj (a b : UInt8) (h0 : 0 ≤ dig a) (h : dig a = dig b) : a = b := by
  rw [dig_eq, dig_eq] at h
  rw [dig_eq] at h0
  have e : a.toNat = b.toNat := by
    unfold dig' at h h0
    repeat' split at h
    all_goals first
      | omega
      | (split at h0 <;> first | omega | (split at h0 <;> omega))
  exact UInt8.toNat_inj.1 e
theorem good_at (s : Str) (h : good s = true) (j : Nat) (hj : j < 64) : 0 ≤ dig (s.getD j 0) := by
  by_cases hl : s.length = 64
  · rcases Int.lt_or_le (dig (s.getD j 0)) 0 with h1 | h1
    · have := bad_at s hl j hj h1
      rw [this] at h
      cases h
    · exact h1
  · rw [bad_len s hl] at h
    cases h
theorem good_len (s : Str) (h : good s = true) : s.length = 64 := by
  by_cases hl : s.length = 64
  · exact hl
  · rw [bad_len s hl] at h
    cases h
theorem nib (p p1 q q1 : Int) (a0 : 0 ≤ p) (a1 : 0 ≤ p1) (b0 : 0 ≤ q) (b1 : 0 ≤ q1) (c0 : p ≤ 15) (c1 : p1 ≤ 15) (d0 : q ≤ 15) (d1 : q1 ≤ 15) (h : (16 * p.toNat + p1.toNat) % 2 ^ 8 = (16 * q.toNat + q1.toNat) % 2 ^ 8) : p = q ∧ p1 = q1 := by omega
theorem unhex_inj (s t : Str) (hs : good s = true) (ht : good t = true) (h : unhex s 32 = unhex t 32) : s = t := by
  have hb : ∀ i, i < 32 → byteOf s i = byteOf t i := fun i hi => by
    have h1 : (unhex s 32)[i]? = (unhex t 32)[i]? := by rw [h]
    simpa [unhex, hi] using h1
  have hd : ∀ j, j < 64 → dig (s.getD j 0) = dig (t.getD j 0) := fun j hj => by
    have hb1 := hb (j / 2) (by omega)
    have a0 := good_at s hs (2 * (j / 2)) (by omega)
    have a1 := good_at s hs (2 * (j / 2) + 1) (by omega)
    have b0 := good_at t ht (2 * (j / 2)) (by omega)
    have b1 := good_at t ht (2 * (j / 2) + 1) (by omega)
    have c0 := (dig_bounds (s.getD (2 * (j / 2)) 0)).2
    have c1 := (dig_bounds (s.getD (2 * (j / 2) + 1) 0)).2
    have d0 := (dig_bounds (t.getD (2 * (j / 2)) 0)).2
    have d1 := (dig_bounds (t.getD (2 * (j / 2) + 1) 0)).2
    unfold byteOf at hb1
    have hn := congrArg UInt8.toNat hb1
    rw [UInt8.toNat_ofNat', UInt8.toNat_ofNat'] at hn
    have key := nib _ _ _ _ a0 a1 b0 b1 c0 c1 d0 d1 hn
    by_cases e : j % 2 = 0
    · have ej : 2 * (j / 2) = j := by omega
      rw [ej] at key
      exact key.1
    · have ej : 2 * (j / 2) + 1 = j := by omega
      rw [ej] at key
      exact key.2
  apply List.ext_getElem
  · rw [good_len s hs, good_len t ht]
  · intro j h1 h2
    have hj : j < 64 := by rw [good_len s hs] at h1; exact h1
    have := dig_inj _ _ (good_at s hs j hj) (hd j hj)
    rw [List.getD_eq_getElem?_getD, List.getElem?_eq_getElem h1, List.getD_eq_getElem?_getD, List.getElem?_eq_getElem h2] at this
    exact this
/-- one digit turned: the digest is another one -/
theorem turned (d : Str) (hd : d.length = 32) (p : Nat) (hp : p < 64) (x : UInt8) (hx : x ≠ 0) (hg : good ((hex d).set p ((hex d).getD p 0 ^^^ x)) = true) :
    unhex ((hex d).set p ((hex d).getD p 0 ^^^ x)) 32 ≠ d := by
  intro h
  have h2 : unhex ((hex d).set p ((hex d).getD p 0 ^^^ x)) 32 = unhex (hex d) 32 := by rw [h, unhex_hex d hd]
  have h3 := unhex_inj _ _ hg (good_hex d hd) h2
  have hl : p < (hex d).length := by rw [hex_length, hd]; exact hp
  have h4 : (hex d).getD p 0 ^^^ x = (hex d).getD p 0 := by
    have : ((hex d).set p ((hex d).getD p 0 ^^^ x)).getD p 0 = (hex d).getD p 0 := by rw [h3]
    rw [List.getD_eq_getElem?_getD, List.getElem?_set_self hl] at this
    simpa using this
  apply hx
  have h5 : (hex d).getD p 0 ^^^ ((hex d).getD p 0 ^^^ x) = (hex d).getD p 0 ^^^ (hex d).getD p 0 := by rw [h4]
  rw [← UInt8.xor_assoc, UInt8.xor_self, UInt8.zero_xor] at h5
  exact h5
end Go.Proofs.Ytolgldgabhhmaaa.Sh
