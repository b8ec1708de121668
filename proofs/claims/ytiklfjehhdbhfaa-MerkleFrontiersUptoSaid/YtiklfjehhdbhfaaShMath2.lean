/-
  Plain mathematics of hexadecimal digits. Conditions: none.
-/
import Derived.Test.YtiklfjehhdbhfaaShMath
import Derived.Lib.Bytealg
namespace Go.Proofs.Ytiklfjehhdbhfaa.Sh
set_option linter.unusedVariables false

def digs : Str := [48, 49, 50, 51, 52, 53, 54, 55, 56, 57, 97, 98, 99, 100, 101, 102]
def hexD (n : Nat) : UInt8 := digs.getD n 0
def hex (s : Str) : Str := s.flatMap fun x => [hexD (x.toNat / 16), hexD (x.toNat % 16)]
def dig (c : UInt8) : Int := Go.Lib.indexByte digs c
theorem hex_length : ∀ (s : Str), (hex s).length = 2 * s.length
  | [] => rfl
  | x :: s => by
    have : hex (x :: s) = [hexD (x.toNat / 16), hexD (x.toNat % 16)] ++ hex s := rfl
    rw [this, List.length_append, hex_length s]
    simp
    omega
theorem hex_take (s : Str) (k : Nat) (h : k < s.length) : hex (s.take (k + 1)) = hex (s.take k) ++ [hexD (s[k].toNat / 16), hexD (s[k].toNat % 16)] := by
  unfold hex
  rw [List.take_succ_eq_append_getElem h, List.flatMap_append]
  simp only [List.flatMap_cons, List.flatMap_nil, List.append_nil]
/-- what a digit is, by its byte -/
def dig' (c : Nat) : Int := if 48 ≤ c ∧ c ≤ 57 then (c : Int) - 48 else if 97 ≤ c ∧ c ≤ 102 then (c : Int) - 97 + 10 else -1
theorem dig_eq : ∀ c : UInt8, dig c = dig' c.toNat := by
  intro c
  have h : ∀ n : Fin 256, dig (UInt8.ofNat n.val) = dig' n.val := by decide +kernel
  have := h ⟨c.toNat, c.toNat_lt⟩
  simpa using this
theorem dig_hexD : ∀ n, n < 16 → dig (hexD n) = (n : Int) := by decide +kernel
theorem dig_bounds (c : UInt8) : -1 ≤ dig c ∧ dig c ≤ 15 := by
  rw [dig_eq]
  unfold dig'
  split
  · omega
  · split <;> omega
/-- the bytes of the digits, from the left -/
def byteOf (s : Str) (i : Nat) : UInt8 := UInt8.ofNat (16 * (dig (s.getD (2 * i) 0)).toNat + (dig (s.getD (2 * i + 1) 0)).toNat)
def unhex (s : Str) (n : Nat) : Str := (List.range n).map (byteOf s)
theorem unhex_succ (s : Str) (n : Nat) : unhex s (n + 1) = unhex s n ++ [byteOf s n] := by simp [unhex, List.range_succ]
theorem unhex_length (s : Str) (n : Nat) : (unhex s n).length = n := by simp [unhex]
/-- all digits are digits -/
def good (s : Str) : Bool := s.length == 64 && s.all fun c => decide (0 ≤ dig c)
theorem good_of (s : Str) (h : s.length = 64) (hd : ∀ j, j < 64 → 0 ≤ dig (s.getD j 0)) : good s = true := by
  unfold good
  simp only [h, beq_self_eq_true, Bool.true_and, List.all_eq_true, decide_eq_true_eq]
  intro c hc
  obtain ⟨j, hj, rfl⟩ := List.getElem_of_mem hc
  have := hd j (by omega)
  rwa [List.getD_eq_getElem?_getD, List.getElem?_eq_getElem hj] at this
theorem bad_len (s : Str) (h : s.length ≠ 64) : good s = false := by
  unfold good
  simp [h]
theorem bad_at (s : Str) (h : s.length = 64) (j : Nat) (hj : j < 64) (hd : dig (s.getD j 0) < 0) : good s = false := by
  unfold good
  rw [Bool.and_eq_false_iff]
  right
  rw [List.all_eq_false]
  refine ⟨s[j]'(by omega), List.getElem_mem _, ?_⟩
  rw [List.getD_eq_getElem?_getD, List.getElem?_eq_getElem (by omega)] at hd
  simp only [Option.getD_some] at hd
  simp only [decide_eq_true_eq]
  omega
/-- the cells of a digest after i digits -/
def dn (s : Str) (i : Nat) : Nat := (dig (s.getD i 0)).toNat
def cellN (s : Str) (i j : Nat) : Nat := if i ≤ 2 * j then 0 else if i = 2 * j + 1 then dn s (2 * j) else 16 * dn s (2 * j) + dn s (2 * j + 1)
def half (s : Str) (i : Nat) : Str := (List.range 32).map fun j => UInt8.ofNat (cellN s i j)
theorem half_length (s : Str) (i : Nat) : (half s i).length = 32 := by simp [half]
theorem half_zero (s : Str) : half s 0 = List.replicate 32 0 := by
  have : ∀ j, cellN s 0 j = 0 := fun j => by unfold cellN; rw [if_pos (by omega)]
  unfold half
  simp only [this]
  rfl
theorem half_full (s : Str) : half s 64 = unhex s 32 := by
  unfold half unhex
  apply List.map_congr_left
  intro j hj
  have := List.mem_range.1 hj
  unfold cellN byteOf dn
  rw [if_neg (by omega), if_neg (by omega)]
theorem dn_lt (s : Str) (i : Nat) : dn s i < 16 := by
  have := (dig_bounds (s.getD i 0)).2
  unfold dn
  omega
theorem cellN_next (s : Str) (i : Nat) : cellN s (i + 1) (i / 2) = 16 * cellN s i (i / 2) + dn s i := by
  by_cases h : i % 2 = 0
  · have e : 2 * (i / 2) = i := by omega
    unfold cellN
    rw [if_neg (by omega), if_pos (by omega), if_pos (by omega), e]
    omega
  · have e : 2 * (i / 2) + 1 = i := by omega
    unfold cellN
    rw [if_neg (by omega), if_neg (by omega), if_neg (by omega), if_pos (by omega), e]
theorem cellN_lt (s : Str) (i : Nat) : cellN s i (i / 2) < 16 := by
  unfold cellN
  have := dn_lt s (2 * (i / 2))
  by_cases h : i ≤ 2 * (i / 2)
  · rw [if_pos h]; omega
  · rw [if_neg h, if_pos (by omega)]; exact this
theorem half_get (s : Str) (i j : Nat) (h : j < 32) : (half s i).getD j 0 = UInt8.ofNat (cellN s i j) := by
  simp [half, List.getD_eq_getElem?_getD, h]
theorem half_set (s : Str) (i : Nat) (h : i < 64) : (half s i).set (i / 2) (UInt8.ofNat (cellN s (i + 1) (i / 2))) = half s (i + 1) := by
  apply List.ext_getElem
  · simp [half]
  · intro j h1 h2
    rw [List.getElem_set]
    by_cases e : i / 2 = j
    · subst e
      simp [half]
    · rw [if_neg e]
      simp only [half, List.getElem_map, List.getElem_range]
      congr 1
      unfold cellN
      by_cases h1 : i ≤ 2 * j
      · rw [if_pos h1]
        by_cases h2 : i + 1 ≤ 2 * j
        · rw [if_pos h2]
        · omega
      · rw [if_neg h1, if_neg (by omega : ¬ i + 1 ≤ 2 * j), if_neg (by omega : ¬ i = 2 * j + 1), if_neg (by omega : ¬ i + 1 = 2 * j + 1)]
end Go.Proofs.Ytiklfjehhdbhfaa.Sh
