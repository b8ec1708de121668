/-
  Plain mathematics of SHA-256 over naturals: rotations, the round, the schedule, a block, a message. Conditions: none.
-/
import Derived.Test.YtiklfjehhdbhfaaKit
namespace Go.Proofs.Ytiklfjehhdbhfaa.Sh
set_option linter.unusedVariables false

abbrev Str := List UInt8
def rot (x n : Nat) : Nat := (x / 2 ^ n) ||| (x * 2 ^ (32 - n) % 4294967296)
def bS1 (e : Nat) : Nat := rot e 6 ^^^ rot e 11 ^^^ rot e 25
def bS0 (a : Nat) : Nat := rot a 2 ^^^ rot a 13 ^^^ rot a 22
def ss0 (x : Nat) : Nat := rot x 7 ^^^ rot x 18 ^^^ (x / 8)
def ss1 (x : Nat) : Nat := rot x 17 ^^^ rot x 19 ^^^ (x / 1024)
def ch (e f g : Nat) : Nat := (e &&& f) ^^^ ((4294967295 ^^^ e) &&& g)
def mj (a b c : Nat) : Nat := (a &&& b) ^^^ (a &&& c) ^^^ (b &&& c)
/-- the eight words of a state -/
structure W8 where
  a : Nat
  b : Nat
  c : Nat
  d : Nat
  e : Nat
  f : Nat
  g : Nat
  h : Nat
def W8.list (s : W8) : List Nat := [s.a, s.b, s.c, s.d, s.e, s.f, s.g, s.h]
structure W8.Ok (s : W8) : Prop where
  a : s.a < 4294967296
  b : s.b < 4294967296
  c : s.c < 4294967296
  d : s.d < 4294967296
  e : s.e < 4294967296
  f : s.f < 4294967296
  g : s.g < 4294967296
  h : s.h < 4294967296
def t1 (s : W8) (k w : Nat) : Nat := (s.h + bS1 s.e + ch s.e s.f s.g + k + w) % 4294967296
def t2 (s : W8) : Nat := (bS0 s.a + mj s.a s.b s.c) % 4294967296
def rnd (s : W8) (k w : Nat) : W8 := ⟨(t1 s k w + t2 s) % 4294967296, s.a, s.b, s.c, (s.d + t1 s k w) % 4294967296, s.e, s.f, s.g⟩
def ks : List Nat := [0x428a2f98, 0x71374491, 0xb5c0fbcf, 0xe9b5dba5, 0x3956c25b, 0x59f111f1, 0x923f82a4, 0xab1c5ed5, 0xd807aa98, 0x12835b01, 0x243185be, 0x550c7dc3, 0x72be5d74, 0x80deb1fe, 0x9bdc06a7, 0xc19bf174, 0xe49b69c1, 0xefbe4786, 0x0fc19dc6, 0x240ca1cc, 0x2de92c6f, 0x4a7484aa, 0x5cb0a9dc, 0x76f988da, 0x983e5152, 0xa831c66d, 0xb00327c8, 0xbf597fc7, 0xc6e00bf3, 0xd5a79147, 0x06ca6351, 0x14292967, 0x27b70a85, 0x2e1b2138, 0x4d2c6dfc, 0x53380d13, 0x650a7354, 0x766a0abb, 0x81c2c92e, 0x92722c85, 0xa2bfe8a1, 0xa81a664b, 0xc24b8b70, 0xc76c51a3, 0xd192e819, 0xd6990624, 0xf40e3585, 0x106aa070, 0x19a4c116, 0x1e376c08, 0x2748774c, 0x34b0bcb5, 0x391c0cb3, 0x4ed8aa4a, 0x5b9cca4f, 0x682e6ff3, 0x748f82ee, 0x78a5636f, 0x84c87814, 0x8cc70208, 0x90befffa, 0xa4506ceb, 0xbef9a3f7, 0xc67178f2]
theorem ks_length : ks.length = 64 := rfl
theorem ks_lt : ∀ k ∈ ks, k < 4294967296 := by decide
/-- the word that follows in a schedule -/
def nextW (l : List Nat) : Nat := (ss1 (l.getD (l.length - 2) 0) + l.getD (l.length - 7) 0 + ss0 (l.getD (l.length - 15) 0) + l.getD (l.length - 16) 0) % 4294967296
def extend : Nat → List Nat → List Nat
  | 0, l => l
  | n + 1, l => extend n (l ++ [nextW l])
theorem extend_succ : ∀ (n : Nat) (l : List Nat), extend (n + 1) l = extend n l ++ [nextW (extend n l)]
  | 0, l => rfl
  | n + 1, l => by rw [extend, extend_succ n (l ++ [nextW l])]; rfl
theorem extend_length : ∀ (n : Nat) (l : List Nat), (extend n l).length = l.length + n
  | 0, l => rfl
  | n + 1, l => by rw [extend, extend_length n]; simp; omega
/-- four bytes as a word -/
def word (a b c d : Nat) : Nat := ((a * 256 + b) * 256 + c) * 256 + d
/-- the first sixteen words of a block -/
def words (s : Str) (n : Nat) : List Nat := (List.range n).map fun i => word (s.getD (4 * i) 0).toNat (s.getD (4 * i + 1) 0).toNat (s.getD (4 * i + 2) 0).toNat (s.getD (4 * i + 3) 0).toNat
def sched (s : Str) : List Nat := extend 48 (words s 16)
theorem words_length (s : Str) (n : Nat) : (words s n).length = n := by simp [words]
theorem words_succ (s : Str) (n : Nat) : words s (n + 1) = words s n ++ [word (s.getD (4 * n) 0).toNat (s.getD (4 * n + 1) 0).toNat (s.getD (4 * n + 2) 0).toNat (s.getD (4 * n + 3) 0).toNat] := by simp [words, List.range_succ]
theorem sched_length (s : Str) : (sched s).length = 64 := by rw [sched, extend_length, words_length]
/-- the rounds, from the first words on -/
def rounds (s : W8) (l : List (Nat × Nat)) : W8 := l.foldl (fun s x => rnd s x.1 x.2) s
def add8 (s t : W8) : W8 := ⟨(s.a + t.a) % 4294967296, (s.b + t.b) % 4294967296, (s.c + t.c) % 4294967296, (s.d + t.d) % 4294967296, (s.e + t.e) % 4294967296, (s.f + t.f) % 4294967296, (s.g + t.g) % 4294967296, (s.h + t.h) % 4294967296⟩
def block (s : W8) (b : Str) : W8 := add8 s (rounds s (ks.zip (sched b)))
def iv : W8 := ⟨0x6a09e667, 0xbb67ae85, 0x3c6ef372, 0xa54ff53a, 0x510e527f, 0x9b05688c, 0x1f83d9ab, 0x5be0cd19⟩
/-- the first n blocks of a message -/
def blocks (s : W8) (m : Str) : Nat → W8
  | 0 => s
  | n + 1 => block (blocks s m n) ((m.drop (64 * n)).take 64)
def be4 (x : Nat) : Str := [UInt8.ofNat (x / 16777216), UInt8.ofNat (x / 65536), UInt8.ofNat (x / 256), UInt8.ofNat x]
/-- a number as eight bytes -/
def be8 (n : Nat) : Str := [UInt8.ofNat (n / 72057594037927936), UInt8.ofNat (n / 281474976710656), UInt8.ofNat (n / 1099511627776), UInt8.ofNat (n / 4294967296), UInt8.ofNat (n / 16777216), UInt8.ofNat (n / 65536), UInt8.ofNat (n / 256), UInt8.ofNat n]
def zeros (n : Nat) : Nat := (119 - n % 64) % 64
def pad (m : Str) : Str := m ++ [128] ++ List.replicate (zeros m.length) 0 ++ be8 (8 * m.length)
def out (s : W8) : Str := s.list.flatMap be4
def sha (m : Str) : Str := out (blocks iv (pad m) ((pad m).length / 64))

theorem rot_lt (x n : Nat) (h : x < 4294967296) : rot x n < 4294967296 := by
  unfold rot
  have h1 : x / 2 ^ n < 2 ^ 32 := Nat.lt_of_le_of_lt (Nat.div_le_self _ _) h
  have h2 : x * 2 ^ (32 - n) % 4294967296 < 2 ^ 32 := Nat.mod_lt _ (by decide)
  exact Nat.or_lt_two_pow h1 h2
theorem xor_lt {a b : Nat} (h1 : a < 4294967296) (h2 : b < 4294967296) : a ^^^ b < 4294967296 := Nat.xor_lt_two_pow (n := 32) h1 h2
theorem and_lt {a b : Nat} (h1 : a < 4294967296) : a &&& b < 4294967296 := Nat.lt_of_le_of_lt Nat.and_le_left h1
theorem ch_lt {e f g : Nat} (h1 : e < 4294967296) (h2 : g < 4294967296) : ch e f g < 4294967296 := xor_lt (and_lt h1) (and_lt (xor_lt (by decide) h1))
theorem rnd_ok {s : W8} (h : s.Ok) (k w : Nat) : (rnd s k w).Ok := ⟨Nat.mod_lt _ (by decide), h.a, h.b, h.c, Nat.mod_lt _ (by decide), h.e, h.f, h.g⟩
theorem rounds_ok : ∀ (l : List (Nat × Nat)) {s : W8}, s.Ok → (rounds s l).Ok
  | [], s, h => h
  | x :: l, s, h => rounds_ok l (rnd_ok h x.1 x.2)
theorem rounds_snoc (s : W8) (l : List (Nat × Nat)) (x : Nat × Nat) : rounds s (l ++ [x]) = rnd (rounds s l) x.1 x.2 := by simp [rounds]
theorem add8_ok (s t : W8) : (add8 s t).Ok := ⟨Nat.mod_lt _ (by decide), Nat.mod_lt _ (by decide), Nat.mod_lt _ (by decide), Nat.mod_lt _ (by decide), Nat.mod_lt _ (by decide), Nat.mod_lt _ (by decide), Nat.mod_lt _ (by decide), Nat.mod_lt _ (by decide)⟩
theorem iv_ok : iv.Ok := ⟨by decide, by decide, by decide, by decide, by decide, by decide, by decide, by decide⟩
theorem blocks_ok {s : W8} (h : s.Ok) (m : Str) : ∀ n, (blocks s m n).Ok
  | 0 => h
  | n + 1 => add8_ok _ _
theorem word_lt (a b c d : UInt8) : word a.toNat b.toNat c.toNat d.toNat < 4294967296 := by
  have h1 := a.toNat_lt
  have h2 := b.toNat_lt
  have h3 := c.toNat_lt
  have h4 := d.toNat_lt
  unfold word
  omega
theorem words_lt (s : Str) (n : Nat) : ∀ x ∈ words s n, x < 4294967296 := by
  intro x hx
  simp only [words, List.mem_map] at hx
  obtain ⟨i, _, rfl⟩ := hx
  exact word_lt _ _ _ _
theorem extend_lt : ∀ (n : Nat) (l : List Nat), (∀ x ∈ l, x < 4294967296) → ∀ x ∈ extend n l, x < 4294967296
  | 0, l, h => h
  | n + 1, l, h => extend_lt n _ (fun x hx => by
    rcases List.mem_append.1 hx with hx | hx
    · exact h x hx
    · simp at hx; subst hx; exact Nat.mod_lt _ (by decide))
theorem sched_lt (s : Str) : ∀ x ∈ sched s, x < 4294967296 := extend_lt _ _ (words_lt _ _)
theorem extend_take : ∀ (n : Nat) (l : List Nat) (k : Nat), k ≤ n → (extend n l).take (l.length + k) = extend k l
  | 0, l, k, h => by obtain rfl : k = 0 := by omega
                     simp [extend]
  | n + 1, l, k, h => by
    by_cases e : k = n + 1
    · subst e; rw [List.take_of_length_le (by rw [extend_length]; omega)]
    · rw [extend_succ, List.take_append_of_le_length (by rw [extend_length]; omega)]
      exact extend_take n l k (by omega)
theorem getD_extend (n : Nat) (l : List Nat) (j : Nat) (hj : j < l.length) : (extend n l).getD j 0 = l.getD j 0 := by
  induction n generalizing l with
  | zero => rfl
  | succ n ih =>
    rw [extend, ih _ (by simp; omega)]
    simp [List.getD_eq_getElem?_getD, List.getElem?_append_left hj]
/-- word i of a schedule that is known up to i -/
theorem extend_next (s : Str) (k : Nat) (hk : k < 48) : (sched s).getD (16 + k) 0 = nextW (extend k (words s 16)) := by
  have h1 : extend (k + 1) (words s 16) = extend k (words s 16) ++ [nextW (extend k (words s 16))] := extend_succ _ _
  have h2 := extend_take 48 (words s 16) (k + 1) (by omega)
  rw [words_length] at h2
  have h3 : (sched s).getD (16 + k) 0 = ((sched s).take (16 + (k + 1))).getD (16 + k) 0 := by simp [List.getD_eq_getElem?_getD]
  rw [h3, sched, h2, h1]
  simp [List.getD_eq_getElem?_getD, extend_length, words_length]
theorem pad_length (m : Str) : (pad m).length = m.length + 9 + zeros m.length := by simp [pad, be8]; omega
theorem pad_mod (m : Str) : (pad m).length % 64 = 0 := by
  rw [pad_length]
  unfold zeros
  omega
theorem out_length (s : W8) : (out s).length = 32 := rfl
theorem sha_length (m : Str) : (sha m).length = 32 := out_length _
end Go.Proofs.Ytiklfjehhdbhfaa.Sh
