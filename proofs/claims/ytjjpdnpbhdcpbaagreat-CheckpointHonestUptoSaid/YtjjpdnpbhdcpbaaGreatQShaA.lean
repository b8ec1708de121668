/-
  Plain mathematics of SHA-256 over naturals: rotations, the round, the schedule, a block, a message. Conditions: none.
-/
import Derived.Test.YtjjpdnpbhdcpbaaGreatQBase
import Derived.Test.YtjjpdnpbhdcpbaaGreatProg
import Derived.Laws.BitsAllLaws
import Derived.BigQuiet
import Derived.BigRegion
import Derived.Deep.RegionHeld3
import Derived.Test.YtjjpdnpbhdcpbaaGreatLayC
import Derived.Test.YtjjpdnpbhdcpbaaGreatLay
namespace Go.Proofs.YtjjpdnpbhdcpbaaGreat.Sh
set_option linter.unusedVariables false
abbrev Str := List UInt8
def rot (x n : Nat) : Nat := (x / 2 ^ n) ||| (x * 2 ^ (32 - n) % 4294967296)
def bS1 (e : Nat) : Nat := rot e 6 ^^^ rot e 11 ^^^ rot e 25
def bS0 (a : Nat) : Nat := rot a 2 ^^^ rot a 13 ^^^ rot a 22
def ss0 (x : Nat) : Nat := rot x 7 ^^^ rot x 18 ^^^ (x / 8)
def ss1 (x : Nat) : Nat := rot x 17 ^^^ rot x 19 ^^^ (x / 1024)
def ch (e f g : Nat) : Nat := (e &&& f) ^^^ ((4294967295 ^^^ e) &&& g)
def mj (a b c : Nat) : Nat := (a &&& b) ^^^ (a &&& c) ^^^ (b &&& c)
structure W8 where
 a : Nat
 b : Nat
 c : Nat
 d : Nat
 e : Nat
 f : Nat
 g : Nat
 h : Nat
def W8.list (s : W8) : List Nat := [s.a, s.b, s.c, s.d, s.e, s.f, s.g, s.h]
structure W8.Ok (s : W8) : Prop where
 a : s.a < 4294967296
 b : s.b < 4294967296
 c : s.c < 4294967296
 d : s.d < 4294967296
 e : s.e < 4294967296
 f : s.f < 4294967296
 g : s.g < 4294967296
 h : s.h < 4294967296
def t1 (s : W8) (k w : Nat) : Nat := (s.h + bS1 s.e + ch s.e s.f s.g + k + w) % 4294967296
def t2 (s : W8) : Nat := (bS0 s.a + mj s.a s.b s.c) % 4294967296
def rnd (s : W8) (k w : Nat) : W8 := ⟨(t1 s k w + t2 s) % 4294967296, s.a, s.b, s.c, (s.d + t1 s k w) % 4294967296, s.e, s.f, s.g⟩
def ks : List Nat := [0x428a2f98, 0x71374491, 0xb5c0fbcf, 0xe9b5dba5, 0x3956c25b, 0x59f111f1, 0x923f82a4, 0xab1c5ed5, 0xd807aa98, 0x12835b01, 0x243185be, 0x550c7dc3, 0x72be5d74, 0x80deb1fe, 0x9bdc06a7, 0xc19bf174, 0xe49b69c1, 0xefbe4786, 0x0fc19dc6, 0x240ca1cc, 0x2de92c6f, 0x4a7484aa, 0x5cb0a9dc, 0x76f988da, 0x983e5152, 0xa831c66d, 0xb00327c8, 0xbf597fc7, 0xc6e00bf3, 0xd5a79147, 0x06ca6351, 0x14292967, 0x27b70a85, 0x2e1b2138, 0x4d2c6dfc, 0x53380d13, 0x650a7354, 0x766a0abb, 0x81c2c92e, 0x92722c85, 0xa2bfe8a1, 0xa81a664b, 0xc24b8b70, 0xc76c51a3, 0xd192e819, 0xd6990624, 0xf40e3585, 0x106aa070, 0x19a4c116, 0x1e376c08, 0x2748774c, 0x34b0bcb5, 0x391c0cb3, 0x4ed8aa4a, 0x5b9cca4f, 0x682e6ff3, 0x748f82ee, 0x78a5636f, 0x84c87814, 0x8cc70208, 0x90befffa, 0xa4506ceb, 0xbef9a3f7, 0xc67178f2]
theorem ks_lt : ∀ k ∈ ks, k < 4294967296 := by decide
def nextW (l : List Nat) : Nat := (ss1 (l.getD (l.length - 2) 0) + l.getD (l.length - 7) 0 + ss0 (l.getD (l.length - 15) 0) + l.getD (l.length - 16) 0) % 4294967296
def extend : Nat → List Nat → List Nat
 | 0, l => l
 | n + 1, l => extend n (l ++ [nextW l])
theorem extend_succ : ∀ (n : Nat) (l : List Nat), extend (n + 1) l = extend n l ++ [nextW (extend n l)]
 | 0, l => rfl
 | n + 1, l => by rw [extend, extend_succ n (l ++ [nextW l])]; rfl
theorem extend_length : ∀ (n : Nat) (l : List Nat), (extend n l).length = l.length + n
 | 0, l => rfl
 | n + 1, l => by rw [extend, extend_length n]; simp; omega
def word (a b c d : Nat) : Nat := ((a * 256 + b) * 256 + c) * 256 + d
def words (s : Str) (n : Nat) : List Nat := (List.range n).map fun i => word (s.getD (4 * i) 0).toNat (s.getD (4 * i + 1) 0).toNat (s.getD (4 * i + 2) 0).toNat (s.getD (4 * i + 3) 0).toNat
def sched (s : Str) : List Nat := extend 48 (words s 16)
theorem words_length (s : Str) (n : Nat) : (words s n).length = n := by simp [words]
theorem words_succ (s : Str) (n : Nat) : words s (n + 1) = words s n ++ [word (s.getD (4 * n) 0).toNat (s.getD (4 * n + 1) 0).toNat (s.getD (4 * n + 2) 0).toNat (s.getD (4 * n + 3) 0).toNat] := by simp [words, List.range_succ]
theorem sched_length (s : Str) : (sched s).length = 64 := by rw [sched, extend_length, words_length]
def rounds (s : W8) (l : List (Nat × Nat)) : W8 := l.foldl (fun s x => rnd s x.1 x.2) s
def add8 (s t : W8) : W8 := ⟨(s.a + t.a) % 4294967296, (s.b + t.b) % 4294967296, (s.c + t.c) % 4294967296, (s.d + t.d) % 4294967296, (s.e + t.e) % 4294967296, (s.f + t.f) % 4294967296, (s.g + t.g) % 4294967296, (s.h + t.h) % 4294967296⟩
def block (s : W8) (b : Str) : W8 := add8 s (rounds s (ks.zip (sched b)))
def iv : W8 := ⟨0x6a09e667, 0xbb67ae85, 0x3c6ef372, 0xa54ff53a, 0x510e527f, 0x9b05688c, 0x1f83d9ab, 0x5be0cd19⟩
def blocks (s : W8) (m : Str) : Nat → W8
 | 0 => s
 | n + 1 => block (blocks s m n) ((m.drop (64 * n)).take 64)
def be4 (x : Nat) : Str := [UInt8.ofNat (x / 16777216), UInt8.ofNat (x / 65536), UInt8.ofNat (x / 256), UInt8.ofNat x]
def be8 (n : Nat) : Str := [UInt8.ofNat (n / 72057594037927936), UInt8.ofNat (n / 281474976710656), UInt8.ofNat (n / 1099511627776), UInt8.ofNat (n / 4294967296), UInt8.ofNat (n / 16777216), UInt8.ofNat (n / 65536), UInt8.ofNat (n / 256), UInt8.ofNat n]
def zeros (n : Nat) : Nat := (119 - n % 64) % 64
def pad (m : Str) : Str := m ++ [128] ++ List.replicate (zeros m.length) 0 ++ be8 (8 * m.length)
def out (s : W8) : Str := s.list.flatMap be4
def sha (m : Str) : Str := out (blocks iv (pad m) ((pad m).length / 64))
theorem rot_lt (x n : Nat) (h : x < 4294967296) : rot x n < 4294967296 := by
 unfold rot
 have h1 : x / 2 ^ n < 2 ^ 32 := Nat.lt_of_le_of_lt (Nat.div_le_self _ _) h
 have h2 : x * 2 ^ (32 - n) % 4294967296 < 2 ^ 32 := Nat.mod_lt _ (by decide)
 exact Nat.or_lt_two_pow h1 h2
theorem xor_lt {a b : Nat} (h1 : a < 4294967296) (h2 : b < 4294967296) : a ^^^ b < 4294967296 := Nat.xor_lt_two_pow (n := 32) h1 h2
theorem and_lt {a b : Nat} (h1 : a < 4294967296) : a &&& b < 4294967296 := Nat.lt_of_le_of_lt Nat.and_le_left h1
theorem rnd_ok {s : W8} (h : s.Ok) (k w : Nat) : (rnd s k w).Ok := ⟨Nat.mod_lt _ (by decide), h.a, h.b, h.c, Nat.mod_lt _ (by decide), h.e, h.f, h.g⟩
theorem rounds_ok : ∀ (l : List (Nat × Nat)) {s : W8}, s.Ok → (rounds s l).Ok
 | [], s, h => h
 | x :: l, s, h => rounds_ok l (rnd_ok h x.1 x.2)
theorem rounds_snoc (s : W8) (l : List (Nat × Nat)) (x : Nat × Nat) : rounds s (l ++ [x]) = rnd (rounds s l) x.1 x.2 := by simp [rounds]
theorem add8_ok (s t : W8) : (add8 s t).Ok := ⟨Nat.mod_lt _ (by decide), Nat.mod_lt _ (by decide), Nat.mod_lt _ (by decide), Nat.mod_lt _ (by decide), Nat.mod_lt _ (by decide), Nat.mod_lt _ (by decide), Nat.mod_lt _ (by decide), Nat.mod_lt _ (by decide)⟩
theorem iv_ok : iv.Ok := ⟨by decide, by decide, by decide, by decide, by decide, by decide, by decide, by decide⟩
theorem blocks_ok {s : W8} (h : s.Ok) (m : Str) : ∀ n, (blocks s m n).Ok
 | 0 => h
 | n + 1 => add8_ok _ _
theorem word_lt (a b c d : UInt8) : word a.toNat b.toNat c.toNat d.toNat < 4294967296 := by
 have h1 := a.toNat_lt
 have h2 := b.toNat_lt
 have h3 := c.toNat_lt
 have h4 := d.toNat_lt
 unfold word
 omega
theorem words_lt (s : Str) (n : Nat) : ∀ x ∈ words s n, x < 4294967296 := by
 intro x hx
 simp only [words, List.mem_map] at hx
 obtain ⟨i, _, rfl⟩ := hx
 exact word_lt _ _ _ _
theorem extend_lt : ∀ (n : Nat) (l : List Nat), (∀ x ∈ l, x < 4294967296) → ∀ x ∈ extend n l, x < 4294967296
 | 0, l, h => h
 | n + 1, l, h => extend_lt n _ (fun x hx => by
   rcases List.mem_append.1 hx with hx | hx
   ·exact h x hx
   ·simp at hx; subst hx; exact Nat.mod_lt _ (by decide))
theorem sched_lt (s : Str) : ∀ x ∈ sched s, x < 4294967296 := extend_lt _ _ (words_lt _ _)
theorem extend_take : ∀ (n : Nat) (l : List Nat) (k : Nat), k ≤ n → (extend n l).take (l.length + k) = extend k l
 | 0, l, k, h => by obtain rfl : k = 0 := by omega
                    simp [extend]
 | n + 1, l, k, h => by
   by_cases e : k = n + 1
   ·subst e; rw [List.take_of_length_le (by rw [extend_length]; omega)]
   ·rw [extend_succ, List.take_append_of_le_length (by rw [extend_length]; omega)]
    exact extend_take n l k (by omega)
theorem extend_next (s : Str) (k : Nat) (hk : k < 48) : (sched s).getD (16 + k) 0 = nextW (extend k (words s 16)) := by
 have h1 : extend (k + 1) (words s 16) = extend k (words s 16) ++ [nextW (extend k (words s 16))] := extend_succ _ _
 have h2 := extend_take 48 (words s 16) (k + 1) (by omega)
 rw [words_length] at h2
 have h3 : (sched s).getD (16 + k) 0 = ((sched s).take (16 + (k + 1))).getD (16 + k) 0 := by simp [List.getD_eq_getElem?_getD]
 rw [h3, sched, h2, h1]
 simp [List.getD_eq_getElem?_getD, extend_length, words_length]
theorem pad_length (m : Str) : (pad m).length = m.length + 9 + zeros m.length := by simp [pad, be8]; omega
theorem pad_mod (m : Str) : (pad m).length % 64 = 0 := by
 rw [pad_length]
 unfold zeros
 omega
theorem out_length (s : W8) : (out s).length = 32 := rfl
theorem sha_length (m : Str) : (sha m).length = 32 := out_length _
end Go.Proofs.YtjjpdnpbhdcpbaaGreat.Sh
namespace Go.Proofs.YtjjpdnpbhdcpbaaGreat
set_option linter.unusedVariables false
open Go.RowKit
theorem run_shl (P : Program) (k yk : IntKind) (x : Int) (m : Nat) (w : World) (hm : m ≤ k.bits) : (Op.shift .shl k x yk (m : Int)).run P w = .ok (.int k (k.wrap (x * 2 ^ m))) w := by
 unfold Op.shift
 rw [if_neg (by omega)]
 simp [Nat.min_eq_left hm]
theorem run_shr (P : Program) (k yk : IntKind) (x : Nat) (m : Nat) (w : World) (hm : m ≤ k.bits) : (Op.shift .shr k (x : Int) yk (m : Int)).run P w = .ok (.int k ((x / 2 ^ m : Nat) : Int)) w := by
 unfold Op.shift
 rw [if_neg (by omega)]
 simp [Nat.min_eq_left hm]
 exact Int.fdiv_eq_ediv_of_nonneg _ (by exact_mod_cast Nat.zero_le (2 ^ m))
theorem neg_and (n : Nat) (h1 : 1 ≤ n) (h2 : n ≤ 31) : bits .and .u64 (IntKind.u64.wrap (-(n : Int))) 31 = ((32 - n : Nat) : Int) := by
 have e : IntKind.u64.wrap (-(n : Int)) = ((18446744073709551616 - n : Nat) : Int) := by rw [IntKind.wrap_u64]; omega
 rw [e, show (31 : Int) = ((31 : Nat) : Int) from rfl, u64_and_nat _ _ (by omega) (by decide)]
 rw [show (31 : Nat) = 2 ^ 5 - 1 from rfl, Nat.and_two_pow_sub_one_eq_mod]
 congr 1
 omega
theorem rotl_spec (x n : Nat) (hx : x < 4294967296) (h1 : 1 ≤ n) (h2 : n ≤ 31) (w : World) :
 Calls Tryz.prog 180 #[.int .u32 x, .int .i64 (-(n : Int))] w fun e w' => e = .returned (.int .u32 (Sh.rot x n)) ∧ w = w' := by
 have hA := neg_and n h1 h2
 obtain ⟨m, hm⟩ : ∃ m, 32 - n = m := ⟨_, rfl⟩
 rw [hm] at hA
 have hm1 : m ≤ 31 := by omega
 have hB : (IntKind.u64.wrap (32 - (m : Int))) = (n : Int) := by rw [IntKind.wrap_u64]; omega
 have hB2 : (32 : Int) - (m : Int) = (n : Int) := by omega
 have s1 := run_shl Tryz.prog .u32 .u64 x m w (by show m ≤ 32; omega)
 have s2 := run_shr Tryz.prog .u32 .u64 x n w (by show n ≤ 32; omega)
 have e1 : IntKind.u32.wrap ((x : Int) * 2 ^ m) = ((x * 2 ^ m % 4294967296 : Nat) : Int) := by rw [IntKind.wrap_u32']; simp
 rw [e1] at s1
 have hO : bits .or .u32 ((x * 2 ^ m % 4294967296 : Nat) : Int) ((x / 2 ^ n : Nat) : Int) = ((Sh.rot x n : Nat) : Int) := by
  rw [u32_or_nat _ _ (Nat.mod_lt _ (by decide)) (Nat.lt_of_le_of_lt (Nat.div_le_self _ _) hx)]
  unfold Sh.rot
  rw [hm, Nat.or_comm]
 rw [show ((x * 2 ^ m % 4294967296 : Nat) : Int) = (x : Int) * 2 ^ m % 4294967296 from by simp, show ((x / 2 ^ n : Nat) : Int) = (x : Int) / 2 ^ n from by simp] at hO
 generalize Sh.rot x n = r at hO ⊢
 clear hm e1 hx
 go_enter Tryz.func180, Tryz.ntmps180
 go_wp2
 go_ret
 exact ⟨rfl, rfl⟩
theorem rot3 (x a b c : Nat) (hx : x < 4294967296) : bits .xor .u32 (bits .xor .u32 (Sh.rot x a : Int) (Sh.rot x b : Int)) (Sh.rot x c : Int) = ((Sh.rot x a ^^^ Sh.rot x b ^^^ Sh.rot x c : Nat) : Int) := by
 rw [u32_xor_nat _ _ (Sh.rot_lt x a hx) (Sh.rot_lt x b hx), u32_xor_nat _ _ (Sh.xor_lt (Sh.rot_lt x a hx) (Sh.rot_lt x b hx)) (Sh.rot_lt x c hx)]
theorem rot2s (x a b c : Nat) (hx : x < 4294967296) : bits .xor .u32 (bits .xor .u32 (Sh.rot x a : Int) (Sh.rot x b : Int)) ((x / 2 ^ c : Nat) : Int) = ((Sh.rot x a ^^^ Sh.rot x b ^^^ (x / 2 ^ c) : Nat) : Int) := by
 rw [u32_xor_nat _ _ (Sh.rot_lt x a hx) (Sh.rot_lt x b hx), u32_xor_nat _ _ (Sh.xor_lt (Sh.rot_lt x a hx) (Sh.rot_lt x b hx)) (Nat.lt_of_le_of_lt (Nat.div_le_self _ _) hx)]
theorem mixadd_spec (x a b c : Nat) (hx : x < 4294967296) (a1 : 1 ≤ a) (a2 : a ≤ 31) (b1 : 1 ≤ b) (b2 : b ≤ 31) (c1 : 1 ≤ c) (c2 : c ≤ 31) (w : World) :
 Calls Tryz.prog 179 #[.int .u32 x, .int .i64 a, .int .i64 b, .int .i64 c] w fun e w' => e = .returned (.int .u32 (Sh.rot x a ^^^ Sh.rot x b ^^^ Sh.rot x c : Nat)) ∧ w = w' := by
 have k1 := rotl_spec x a hx a1 a2 w
 have k2 := rotl_spec x b hx b1 b2 w
 have k3 := rotl_spec x c hx c1 c2 w
 have hO := rot3 x a b c hx
 generalize (Sh.rot x a ^^^ Sh.rot x b ^^^ Sh.rot x c : Nat) = r at hO ⊢
 generalize Sh.rot x a = ra at k1 hO
 generalize Sh.rot x b = rb at k2 hO
 generalize Sh.rot x c = rc at k3 hO
 go_enter Tryz.func179, Tryz.ntmps179
 go_wp2_with fail
 refine k1.mono ?_
 rintro e w' ⟨rfl, rfl⟩
 go_wp2_with fail
 refine k2.mono ?_
 rintro e w' ⟨rfl, rfl⟩
 go_wp2_with fail
 refine k3.mono ?_
 rintro e w' ⟨rfl, rfl⟩
 go_wp2
 go_ret
 exact ⟨rfl, rfl⟩
theorem mixsch_spec (x a b c : Nat) (hx : x < 4294967296) (a1 : 1 ≤ a) (a2 : a ≤ 31) (b1 : 1 ≤ b) (b2 : b ≤ 31) (c1 : 1 ≤ c) (c2 : c ≤ 31) (w : World) :
 Calls Tryz.prog 195 #[.int .u32 x, .int .i64 a, .int .i64 b, .int .i64 c] w fun e w' => e = .returned (.int .u32 (Sh.rot x a ^^^ Sh.rot x b ^^^ (x / 2 ^ c) : Nat)) ∧ ∃ n, w' = w.drewN n := by
 have k1 := fun w => (rotl_spec x a hx a1 a2 w).mono (fun e w' h => And.intro h.1 h.2.symm)
 have k2 := fun w => (rotl_spec x b hx b1 b2 w).mono (fun e w' h => And.intro h.1 h.2.symm)
 have hO := rot2s x a b c hx
 rw [show ((x / 2 ^ c : Nat) : Int) = (x : Int) / 2 ^ c from by simp] at hO
 generalize (Sh.rot x a ^^^ Sh.rot x b ^^^ (x / 2 ^ c) : Nat) = r at hO ⊢
 generalize Sh.rot x a = ra at k1 hO
 generalize Sh.rot x b = rb at k2 hO
 go_enter Tryz.func195, Tryz.ntmps195
 go_wp2_with fail
 go_quiet (first
  | (go_at_call 180; first | with_reducible exact Calls.quiet_of_same (k1 _) | with_reducible exact Calls.quiet_of_same (k2 _)))
 go_wp2
 go_ret
 exact ⟨rfl, _, rfl⟩
end Go.Proofs.YtjjpdnpbhdcpbaaGreat
namespace Go.Proofs.YtjjpdnpbhdcpbaaGreat
set_option linter.unusedVariables false
open Go.RowKit
def u32s (l : List Nat) : List Value := l.map fun x : Nat => Value.int .u32 (x : Int)
def arr (l : List Nat) : Array Value := (u32s l).toArray
theorem u32s_length (l : List Nat) : (u32s l).length = l.length := by simp [u32s]
theorem arr_set (l : List Nat) (i x : Nat) : (arr l).setIfInBounds i (.int .u32 x) = arr (l.set i x) := by
 simp [arr, u32s, List.map_set]
theorem arr_size (l : List Nat) : (arr l).size = l.length := by simp [arr, u32s]
theorem arr_one (l : List Nat) : (arr l).all (·.oneCell') = true := all_oneCell_toArray (by intro v hv; simp only [u32s, List.mem_map] at hv; obtain ⟨x, _, rfl⟩ := hv; rfl)
theorem size72 : (Tryz.prog.info? 194).map (·.size) = some 64 := by kernel_rfl
set_option maxRecDepth 20000 in
set_option maxHeartbeats 2000000 in
theorem constants_spec (w : World) : Calls Tryz.prog 182 #[] w fun e w' => e = .returned (.agg (arr Sh.ks)) ∧ Below w.heap.size w w' := by
 go_enter Tryz.func182, Tryz.ntmps182
 go_wp2_with (with_reducible refine store_all ((St.nil w).alloc _ _) rfl 194 _ _ rfl (arr Sh.ks) rfl ?_ ?_ ?_ ?_ ?_
              ·exact rfl
              ·exact rfl
              ·exact size72
              ·exact arr_one _
              intro w1 h1)
 refine bodyPost_ret (v := .agg (arr Sh.ks)) (results_cell_row Tryz.results182 _ _ _ _ _ _ _ rfl h1.blk Tryz.underlying194 rfl size72) rfl ?_
 exact ⟨rfl, h1.below⟩
end Go.Proofs.YtjjpdnpbhdcpbaaGreat
namespace Go.Proofs.YtjjpdnpbhdcpbaaGreat
set_option linter.unusedVariables false
open Go.RowKit
def padz (l : List Nat) : List Nat := l ++ List.replicate (64 - l.length) 0
theorem padz_length (l : List Nat) (h : l.length ≤ 64) : (padz l).length = 64 := by simp [padz]; omega
theorem padz_set (l : List Nat) (x : Nat) (h : l.length < 64) : (padz l).set l.length x = padz (l ++ [x]) := by
 unfold padz
 rw [List.set_append_right _ _ (Nat.le_refl _), Nat.sub_self, show 64 - l.length = (64 - (l ++ [x]).length) + 1 by simp; omega, List.replicate_succ, List.set_cons_zero]
 simp
theorem padz_at (l : List Nat) (h : l.length < 64) : (padz l).set l.length 0 = padz l := by
 unfold padz
 rw [List.set_append_right _ _ (Nat.le_refl _), Nat.sub_self, show 64 - l.length = (64 - (l.length + 1)) + 1 by omega, List.replicate_succ, List.set_cons_zero]
theorem arr_get (l : List Nat) (j : Nat) (h : j < l.length) : (arr l)[j]? = some (.int .u32 ((l.getD j 0 : Nat) : Int)) := by
 simp [arr, u32s, h]
theorem padz_get (l : List Nat) (j : Nat) (h : j < l.length) : (padz l).getD j 0 = l.getD j 0 := by
 simp [padz, List.getD_eq_getElem?_getD, List.getElem?_append_left h]
theorem set_get (l : List Nat) (n v : Nat) (h : n < l.length) : (l.set n v).getD n 0 = v := by simp [List.getD_eq_getElem?_getD, h]
def pw (b : Sh.Str) (n : Nat) : Nat → Nat
 | 0 => 0
 | k + 1 => pw b n k * 256 + (b.getD (4 * n + k) 0).toNat
theorem pw_lt (b : Sh.Str) (n : Nat) : ∀ k, pw b n k < 256 ^ k
 | 0 => by simp [pw]
 | k + 1 => by
   have := pw_lt b n k
   have h2 := (b.getD (4 * n + k) 0).toNat_lt
   unfold pw
   rw [Nat.pow_succ]
   omega
theorem pw_four (b : Sh.Str) (n : Nat) : pw b n 4 = Sh.word (b.getD (4 * n) 0).toNat (b.getD (4 * n + 1) 0).toNat (b.getD (4 * n + 2) 0).toNat (b.getD (4 * n + 3) 0).toNat := by simp [pw, Sh.word]
theorem shl_or (p x : Nat) (hp : p < 16777216) (hx : x < 256) : bits .or .u32 ((p : Int) * 256) ((x : Int) % 4294967296) = ((p * 256 + x : Nat) : Int) := by
 have e : (p : Int) * 256 = ((p * 256 : Nat) : Int) := by omega
 have e2 : (x : Int) % 4294967296 = ((x : Nat) : Int) := by omega
 rw [e, e2, u32_or_nat _ _ (by omega) (by omega)]
 congr 1
 have := Nat.two_pow_add_eq_or_of_lt (i := 8) (b := x) (by simpa using hx) p
 rw [Nat.mul_comm, show (256 : Nat) = 2 ^ 8 from rfl, this]
theorem sched_take16 (b : Sh.Str) (n : Nat) (h : n ≤ 16) : (Sh.sched b).take n = Sh.words b n := by
 have := Sh.extend_take 48 (Sh.words b 16) 0 (by omega)
 rw [Sh.words_length] at this
 have h2 : (Sh.sched b).take n = ((Sh.sched b).take 16).take n := by rw [List.take_take, Nat.min_eq_left h]
 rw [h2]
 show ((Sh.extend 48 (Sh.words b 16)).take (16 + 0)).take n = _
 rw [this]
 simp [Sh.extend, Sh.words, ← List.map_take, List.take_range, Nat.min_eq_left h]
theorem sched_next (b : Sh.Str) (n : Nat) (h : n < 16) : (Sh.sched b).take (n + 1) = (Sh.sched b).take n ++ [pw b n 4] := by
 rw [sched_take16 b (n + 1) (by omega), sched_take16 b n (by omega), Sh.words_succ, pw_four]
set_option maxRecDepth 20000 in
set_option maxHeartbeats 2000000 in
theorem schedule_spec (b : Sh.Str) (hb : b.length = 64) (w : World) : Calls Tryz.prog 181 #[.string ⟨b.toArray⟩] w fun e w' => e = .returned (.agg (arr (Sh.sched b))) ∧ Below w.heap.size w w' := by
 have HB := Lib.hid hb
 clear hb
 have h0 := ((St.nil w).alloc 194 (arr (padz []))).alloc 194 (arr (padz []))
 rw [World.size_alloc] at h0
 obtain ⟨W, hW⟩ : ∃ W, (w.alloc (.cells (arr (padz [])) 194)).alloc (.cells (arr (padz [])) 194) = W := ⟨_, rfl⟩
 go_enter Tryz.func181, Tryz.ntmps181
 go_wp2
 change Code.wp _ _ _ _ ((w.alloc (.cells (arr (padz [])) 194)).alloc (.cells (arr (padz [])) 194))
 rw [hW]
 rw [hW] at h0
 clear hW
 have hg1 : w.heap.size + 1 ≠ w.heap.size := by omega
 obtain ⟨lo, hlo⟩ : ∃ lo, w.heap.size = lo := ⟨_, rfl⟩
 have HLo := Lib.hid hlo
 rw [hlo] at h0 hg1 ⊢
 generalize hg : lo + 1 = g at h0 hg1 ⊢
 go_loopw [7] (fun i wr => ∃ n : Nat, n ≤ 64 ∧ i = .int .i64 n ∧ St lo w wr [cellsR g 194 (arr (padz ((Sh.sched b).take n))), cellsR lo 194 (arr (padz []))]) (fun i _ => 64 - (intOf i).toNat)
 case atStart => exact ⟨0, by omega, rfl, h0⟩
 case round =>
  obtain ⟨n, hn, rfl, h⟩ := hrel
  clear h0 hg hlo
  have hl : ((Sh.sched b).take n).length = n := by rw [List.length_take, Sh.sched_length]; omega
  by_cases hlt : n < 64
  ·have hk1 : (n : Int) < 64 := by omega
   have hk0 : (0 : Int) ≤ (n : Int) := by omega
   by_cases h16 : n < 16
   ·have h16' : (n : Int) < 16 := by omega
    have HL := Lib.hid hl
    clear hl
    go_wp2
    go_loopw [12] (fun i wr => ∃ k : Nat, k ≤ 4 ∧ i = .int .i64 k ∧ St lo w wr [cellsR g 194 (arr ((padz ((Sh.sched b).take n)).set n (pw b n k))), cellsR lo 194 (arr (padz []))]) (fun i _ => 4 - (intOf i).toNat)
    case atStart =>
     have := padz_at ((Sh.sched b).take n) (by rw [HL.out]; omega)
     rw [HL.out] at this
     exact ⟨0, by omega, rfl, by rw [pw, this]; exact h⟩
    case round =>
     obtain ⟨k, hk, rfl, h2⟩ := hrel
     clear h
     by_cases hlt2 : k < 4
     ·have hk2 : (k : Int) < 4 := by omega
      have hk3 : (0 : Int) ≤ (k : Int) := by omega
      obtain ⟨x, hx⟩ : ∃ x : UInt8, ∀ h, (⟨b.toArray⟩ : ByteArray)[4 * n + k]'h = x := ⟨b[4 * n + k]'(by rw [HB.out]; omega), fun h => rfl⟩
      have hxg : b.getD (4 * n + k) 0 = x := by
       have hh : 4 * n + k < b.length := by rw [HB.out]; omega
       have := hx (by show 4 * n + k < b.toArray.size; simpa using hh)
       rw [← this]
       simp [hh]
       rfl
      have hsz : (⟨b.toArray⟩ : ByteArray).size = 64 := by rw [bytes_size, HB.out]
      have hp := pw_lt b n k
      have hp2 : pw b n k < 16777216 := Nat.lt_of_lt_of_le hp (by have : 256 ^ k ≤ 256 ^ 3 := Nat.pow_le_pow_right (by decide) (by omega); simpa using this)
      have hor := shl_or (pw b n k) x.toNat hp2 x.toNat_lt
      have hpw : pw b n (k + 1) = pw b n k * 256 + x.toNat := by rw [pw, hxg]
      rw [← hpw] at hor
      have bg := h2.blk
      have kg : wr.cell? ⟨g, n, none⟩ = some (.int .u32 (pw b n k)) := by
       rw [bg.cell, arr_get _ _ (by rw [List.length_set, padz_length _ (by rw [HL.out]; omega)]; omega)]
       rw [set_get _ _ _ (by rw [padz_length _ (by rw [HL.out]; omega)]; omega)]
      have fg := bg.frozen n
      have lg := bg.lt
      clear bg hxg hpw
      obtain ⟨v, hv⟩ : ∃ v, pw b n (k + 1) = v := ⟨_, rfl⟩
      rw [hv] at hor
      have HV := Lib.hid hv
      clear hv
      go_wp2_with fail
      have hi0 : (0 : Int) ≤ 4 * (n : Int) + (k : Int) := by omega
      have hi1 : 4 * (n : Int) + (k : Int) < (b.length : Int) := by rw [HB.out]; omega
      have hin : (4 * (n : Int) + (k : Int)).toNat = 4 * n + k := by omega
      have hi2 : 4 * n + k < b.length := by rw [HB.out]; omega
      clear hsz
      go_region
      go_wp2
      go_roundw
      case rel =>
       refine ⟨k + 1, by omega, by go_num, ?_⟩
       have h3 := h2.set_ n (.int .u32 (v : Int))
       rw [arr_set, List.set_set] at h3
       rw [HV.out]
       exact h3.drew
      case measure => simp [intOf]; omega
     ·obtain rfl : k = 4 := by omega
      have h3 := padz_set ((Sh.sched b).take n) (pw b n 4) (by rw [HL.out]; omega)
      rw [HL.out, ← sched_next b n h16] at h3
      rw [h3] at h2
      clear h3
      go_wp2
      go_roundw
      case rel => exact ⟨n + 1, by omega, by go_num, h2⟩
      case measure => simp [intOf]; omega
   ·have h16' : decide ((n : Int) < 16) = false := by simp; omega
    have bg := h.blk
    have cl : ∀ j, j < n → wr.cell? ⟨g, j, none⟩ = some (.int .u32 ((((Sh.sched b).take n).getD j 0 : Nat) : Int)) := fun j hj => by
     rw [bg.cell, arr_get _ _ (by rw [padz_length _ (by omega)]; omega), padz_get _ _ (by omega)]
    have lt : ∀ j, j < n → ((Sh.sched b).take n).getD j 0 < 4294967296 := fun j hj => by
     have hjl : j < ((Sh.sched b).take n).length := by omega
     rw [List.getD_eq_getElem?_getD, List.getElem?_eq_getElem hjl]
     exact Sh.sched_lt b _ (List.mem_of_mem_take (List.getElem_mem hjl))
    have c2 := cl (n - 2) (by omega)
    have c7 := cl (n - 7) (by omega)
    have c15 := cl (n - 15) (by omega)
    have c16 := cl (n - 16) (by omega)
    have l2 := lt (n - 2) (by omega)
    have l7 := lt (n - 7) (by omega)
    have l15 := lt (n - 15) (by omega)
    have l16 := lt (n - 16) (by omega)
    have hnx : (Sh.sched b).getD n 0 = (Sh.ss1 (((Sh.sched b).take n).getD (n - 2) 0) + ((Sh.sched b).take n).getD (n - 7) 0 + Sh.ss0 (((Sh.sched b).take n).getD (n - 15) 0) + ((Sh.sched b).take n).getD (n - 16) 0) % 4294967296 := by
     obtain ⟨m, rfl⟩ : ∃ m, n = 16 + m := ⟨n - 16, by omega⟩
     have h1 := Sh.extend_next b m (by omega)
     have h2 := Sh.extend_take 48 (Sh.words b 16) m (by omega)
     rw [Sh.words_length] at h2
     rw [h1, Sh.sched, h2, Sh.nextW, Sh.extend_length, Sh.words_length]
    have htk : (Sh.sched b).take (n + 1) = (Sh.sched b).take n ++ [(Sh.sched b).getD n 0] := by
     have hh : n < (Sh.sched b).length := by rw [Sh.sched_length]; exact hlt
     rw [List.take_add_one, List.getElem?_eq_getElem hh, List.getD_eq_getElem?_getD, List.getElem?_eq_getElem hh]
     rfl
    have hset := padz_set ((Sh.sched b).take n) ((Sh.sched b).getD n 0) (by omega)
    rw [hl, ← htk] at hset
    generalize ((Sh.sched b).take n).getD (n - 2) 0 = x2 at c2 l2 hnx
    generalize ((Sh.sched b).take n).getD (n - 7) 0 = x7 at c7 l7 hnx
    generalize ((Sh.sched b).take n).getD (n - 15) 0 = x15 at c15 l15 hnx
    generalize ((Sh.sched b).take n).getD (n - 16) 0 = x16 at c16 l16 hnx
    have k1 : ∀ X, Calls Tryz.prog 195 #[.int .u32 (x2 : Int), .int .i64 17, .int .i64 19, .int .i64 10] X fun e w' => e = .returned (.int .u32 (Sh.ss1 x2 : Nat)) ∧ ∃ n, w' = X.drewN n := fun X => mixsch_spec x2 17 19 10 l2 (by decide) (by decide) (by decide) (by decide) (by decide) (by decide) X
    have k2 : ∀ X, Calls Tryz.prog 195 #[.int .u32 (x15 : Int), .int .i64 7, .int .i64 18, .int .i64 3] X fun e w' => e = .returned (.int .u32 (Sh.ss0 x15 : Nat)) ∧ ∃ n, w' = X.drewN n := fun X => mixsch_spec x15 7 18 3 l15 (by decide) (by decide) (by decide) (by decide) (by decide) (by decide) X
    generalize Sh.ss1 x2 = y2 at k1 hnx
    generalize Sh.ss0 x15 = y15 at k2 hnx
    have hv : IntKind.u32.wrap (IntKind.u32.wrap (IntKind.u32.wrap ((y2 : Int) + x7) + y15) + x16) = ((Sh.sched b).getD n 0 : Nat) := by rw [hnx, IntKind.wrap_u32', IntKind.wrap_u32', IntKind.wrap_u32']; omega
    obtain ⟨v, hvv⟩ : ∃ v, (Sh.sched b).getD n 0 = v := ⟨_, rfl⟩
    rw [hvv] at hv hset
    have fg := bg.frozen n
    have lg := bg.lt
    have cn : wr.cell? ⟨g, n, none⟩ = some (.int .u32 0) := by
     rw [bg.cell, arr_get _ _ (by rw [padz_length _ (by omega)]; omega)]
     simp [padz, List.getD_eq_getElem?_getD, hl, List.getElem?_append_right]
     rw [List.getElem?_replicate, if_pos (by omega)]
     rfl
    obtain ⟨p2, hp2⟩ : ∃ p, n - 2 = p := ⟨_, rfl⟩
    have e2 : (n : Int) - 2 = (p2 : Int) := by omega
    have f2 : IntKind.i64.wrap (p2 : Int) = (p2 : Int) := by rw [IntWalk.i64_left, IntWalk.wrap64_in _ (by omega)]
    have m2 : (p2 : Int) < 64 := by omega
    have j2 : (0 : Int) ≤ (p2 : Int) := by omega
    rw [hp2] at c2
    clear hp2
    obtain ⟨p7, hp7⟩ : ∃ p, n - 7 = p := ⟨_, rfl⟩
    have e7 : (n : Int) - 7 = (p7 : Int) := by omega
    have f7 : IntKind.i64.wrap (p7 : Int) = (p7 : Int) := by rw [IntWalk.i64_left, IntWalk.wrap64_in _ (by omega)]
    have m7 : (p7 : Int) < 64 := by omega
    have j7 : (0 : Int) ≤ (p7 : Int) := by omega
    rw [hp7] at c7
    clear hp7
    obtain ⟨p15, hp15⟩ : ∃ p, n - 15 = p := ⟨_, rfl⟩
    have e15 : (n : Int) - 15 = (p15 : Int) := by omega
    have f15 : IntKind.i64.wrap (p15 : Int) = (p15 : Int) := by rw [IntWalk.i64_left, IntWalk.wrap64_in _ (by omega)]
    have m15 : (p15 : Int) < 64 := by omega
    have j15 : (0 : Int) ≤ (p15 : Int) := by omega
    rw [hp15] at c15
    clear hp15
    obtain ⟨p16, hp16⟩ : ∃ p, n - 16 = p := ⟨_, rfl⟩
    have e16 : (n : Int) - 16 = (p16 : Int) := by omega
    have f16 : IntKind.i64.wrap (p16 : Int) = (p16 : Int) := by rw [IntWalk.i64_left, IntWalk.wrap64_in _ (by omega)]
    have m16 : (p16 : Int) < 64 := by omega
    have j16 : (0 : Int) ≤ (p16 : Int) := by omega
    rw [hp16] at c16
    clear hp16
    have HS := Lib.hid (And.intro hset hl)
    have kS : wr.drew.cell? ⟨g, p2, none⟩ = some (.int .u32 (x2 : Int)) ∧ wr.drew.cell? ⟨g, p7, none⟩ = some (.int .u32 (x7 : Int)) ∧ wr.drew.cell? ⟨g, p15, none⟩ = some (.int .u32 (x15 : Int)) ∧ wr.drew.cell? ⟨g, p16, none⟩ = some (.int .u32 (x16 : Int)) := ⟨c2, c7, c15, c16⟩
    clear cl lt hnx htk hset bg hl hvv
    have kT : ∀ (X : World) (u : Value), (X.cell? ⟨g, p2, none⟩ = some (.int .u32 (x2 : Int)) ∧ X.cell? ⟨g, p7, none⟩ = some (.int .u32 (x7 : Int)) ∧ X.cell? ⟨g, p15, none⟩ = some (.int .u32 (x15 : Int)) ∧ X.cell? ⟨g, p16, none⟩ = some (.int .u32 (x16 : Int))) → ((X.setCell ⟨g, n, none⟩ u).cell? ⟨g, p2, none⟩ = some (.int .u32 (x2 : Int)) ∧ (X.setCell ⟨g, n, none⟩ u).cell? ⟨g, p7, none⟩ = some (.int .u32 (x7 : Int)) ∧ (X.setCell ⟨g, n, none⟩ u).cell? ⟨g, p15, none⟩ = some (.int .u32 (x15 : Int)) ∧ (X.setCell ⟨g, n, none⟩ u).cell? ⟨g, p16, none⟩ = some (.int .u32 (x16 : Int))) := fun X u h => ⟨(World.cell?_setCell_other _ _ _ _ (by intro e; injection e with _ e2; omega)).trans h.1, (World.cell?_setCell_other _ _ _ _ (by intro e; injection e with _ e2; omega)).trans h.2.1, (World.cell?_setCell_other _ _ _ _ (by intro e; injection e with _ e2; omega)).trans h.2.2.1, (World.cell?_setCell_other _ _ _ _ (by intro e; injection e with _ e2; omega)).trans h.2.2.2⟩
    go_wp2_with fail
    go_region_held3 (fun w' => w'.cell? ⟨g, p2, none⟩ = some (.int .u32 (x2 : Int)) ∧ w'.cell? ⟨g, p7, none⟩ = some (.int .u32 (x7 : Int)) ∧ w'.cell? ⟨g, p15, none⟩ = some (.int .u32 (x15 : Int)) ∧ w'.cell? ⟨g, p16, none⟩ = some (.int .u32 (x16 : Int)))
     (first
       | with_reducible exact kS
       | exact kS
       | exact kT _ _ kS
       | fail)
     (first
       | (with_reducible refine (k1 _).mono ?_
          rintro e w5 ⟨rfl, n5, rfl⟩)
       | (with_reducible refine (k2 _).mono ?_
          rintro e w6 ⟨rfl, n6, rfl⟩)
       | fail)
    ·go_wp2
     go_roundw
     case rel =>
      refine ⟨n + 1, by omega, by go_num, ?_⟩
      have h3 := (h.drewN (1 + n5 + n6)).set_ n (.int .u32 (v : Int))
      rw [arr_set, HS.out.1] at h3
      exact h3
     case measure => simp [intOf]; omega
  ·have hn64 : n = 64 := by omega
   have hd : decide ((n : Int) < 64) = false := by simp; omega
   have hfull : padz ((Sh.sched b).take n) = Sh.sched b := by
    rw [hn64, List.take_of_length_le (by rw [Sh.sched_length]; omega)]
    unfold padz
    rw [Sh.sched_length]
    simp
   rw [hfull] at h
   have HSL := Lib.hid (show (arr (Sh.sched b)).size = 64 by rw [arr_size, Sh.sched_length])
   clear hl hfull hn64
   obtain ⟨L, hL⟩ : ∃ L, Sh.sched b = L := ⟨_, rfl⟩
   rw [hL] at h HSL
   have HLb := Lib.hid hL
   clear hL
   go_wp2_with (first
    | (with_reducible refine load_all h.blk rfl 194 _ rfl rfl _ Tryz.underlying194 ?_ ?_ ?_
       ·exact rfl
       ·rw [HSL.out]; exact size72)
    | (with_reducible refine store_all h.swap rfl 194 _ _ rfl (arr L) ?_ ?_ ?_ ?_ ?_ ?_
       ·exact rfl
       ·exact rfl
       ·rw [HSL.out]; exact (arr_size (padz [])).symm
       ·rw [HSL.out]; exact size72
       ·exact arr_one _
       intro w1 h1))
   refine bodyPost_ret (v := .agg (arr L)) (results_cell_row Tryz.results181 _ _ _ _ _ _ _ rfl h1.blk Tryz.underlying194 rfl (by rw [HSL.out]; exact size72)) rfl ?_
   exact ⟨by rw [HLb.out], by rw [HLo.out]; exact h1.below⟩
end Go.Proofs.YtjjpdnpbhdcpbaaGreat
namespace Go.Proofs.YtjjpdnpbhdcpbaaGreat
set_option linter.unusedVariables false
open Go.RowKit
def hcells (ws : List Nat) (rest : Sh.Str) (tot : Nat) : Array Value := (u32s ws ++ [Value.string ⟨rest.toArray⟩, Value.int .u64 (tot : Int)]).toArray
def hashR (g : Nat) (ws : List Nat) (rest : Sh.Str) (tot : Nat) : Res := cellsR g 174 (hcells ws rest tot)
def mixw (s t : Sh.W8) (i : Nat) : List Nat := (Sh.add8 s t).list.take i ++ s.list.drop i
theorem quiet_same2 {P : Program} {f : FuncId} {args : Array Value} {w : World} {n m : Nat} {v : Value} (h : Calls P f args (w.drewN (n + m)) fun e w' => e = .returned v ∧ w' = w.drewN (n + m)) :
 Calls P f args (w.drewN (n + m)) fun e w'' => e = .returned v ∧ ∃ k, w'' = w.drewN (n + k) := h.mono fun _ _ ⟨he, hm⟩ => ⟨he, m, hm⟩
theorem hash_cells {w : World} {g : Nat} {s : Sh.W8} {rest : Sh.Str} {tot : Nat} (h : Blk w g 174 (hcells s.list rest tot)) : w.cell? ⟨g, 0, none⟩ = some (.int .u32 (s.a : Int)) ∧ w.cell? ⟨g, 1, none⟩ = some (.int .u32 (s.b : Int)) ∧ w.cell? ⟨g, 2, none⟩ = some (.int .u32 (s.c : Int)) ∧
 w.cell? ⟨g, 3, none⟩ = some (.int .u32 (s.d : Int)) ∧ w.cell? ⟨g, 4, none⟩ = some (.int .u32 (s.e : Int)) ∧ w.cell? ⟨g, 5, none⟩ = some (.int .u32 (s.f : Int)) ∧ w.cell? ⟨g, 6, none⟩ = some (.int .u32 (s.g : Int)) ∧ w.cell? ⟨g, 7, none⟩ = some (.int .u32 (s.h : Int)) ∧
 w.cell? ⟨g, 8, none⟩ = some (.string ⟨rest.toArray⟩) ∧ w.cell? ⟨g, 9, none⟩ = some (.int .u64 (tot : Int)) :=
 ⟨h.cell 0, h.cell 1, h.cell 2, h.cell 3, h.cell 4, h.cell 5, h.cell 6, h.cell 7, h.cell 8, h.cell 9⟩
theorem set8 {lo : Nat} {w0 w : World} {Rs : List Res} {g : Nat} {t : TypeId} {T : Sh.W8} (h : St lo w0 w (cellsR g t (arr T.list) :: Rs)) (a b c d e f k l : Nat) :
 St lo w0 ((((((((w.setCell ⟨g, 0, none⟩ (.int .u32 (a : Int))).setCell ⟨g, 1, none⟩ (.int .u32 (b : Int))).setCell ⟨g, 2, none⟩ (.int .u32 (c : Int))).setCell ⟨g, 3, none⟩ (.int .u32 (d : Int))).setCell ⟨g, 4, none⟩ (.int .u32 (e : Int))).setCell ⟨g, 5, none⟩ (.int .u32 (f : Int))).setCell ⟨g, 6, none⟩ (.int .u32 (k : Int))).setCell ⟨g, 7, none⟩ (.int .u32 (l : Int)))
  (cellsR g t (arr (⟨a, b, c, d, e, f, k, l⟩ : Sh.W8).list) :: Rs) := by
 have h8 := (((((((h.set_ 0 (.int .u32 (a : Int))).set_ 1 (.int .u32 (b : Int))).set_ 2 (.int .u32 (c : Int))).set_ 3 (.int .u32 (d : Int))).set_ 4 (.int .u32 (e : Int))).set_ 5 (.int .u32 (f : Int))).set_ 6 (.int .u32 (k : Int))).set_ 7 (.int .u32 (l : Int))
 simp only [arr_set] at h8
 exact h8
theorem lt8 {n : Nat} (h : n < 8) : n = 0 ∨ n = 1 ∨ n = 2 ∨ n = 3 ∨ n = 4 ∨ n = 5 ∨ n = 6 ∨ n = 7 := by omega
theorem run_index8 (T : Sh.W8) (n : Nat) (h : n < 8) (w : World) : (Instr.index 172 (.agg #[.int .u32 (T.a : Int), .int .u32 (T.b : Int), .int .u32 (T.c : Int), .int .u32 (T.d : Int), .int .u32 (T.e : Int), .int .u32 (T.f : Int), .int .u32 (T.g : Int), .int .u32 (T.h : Int)]) (.int .i64 (n : Int))).run Tryz.prog w = .ok (.int .u32 ((T.list.getD n 0 : Nat) : Int)) w := by
 rcases lt8 h with rfl | rfl | rfl | rfl | rfl | rfl | rfl | rfl <;> kernel_rfl
theorem mixw_get (s T : Sh.W8) (rest : Sh.Str) (tot n : Nat) (h : n < 8) : (hcells (mixw s T n) rest tot)[n]? = some (.int .u32 ((s.list.getD n 0 : Nat) : Int)) := by
 rcases lt8 h with rfl | rfl | rfl | rfl | rfl | rfl | rfl | rfl <;> rfl
theorem mixw_next (s T : Sh.W8) (rest : Sh.Str) (tot n : Nat) (h : n < 8) : ((s.list.getD n 0 : Int) + (T.list.getD n 0 : Int)) % 4294967296 = ((Sh.add8 s T).list.getD n 0 : Int) ∧
 (hcells (mixw s T n) rest tot).setIfInBounds n (.int .u32 (((Sh.add8 s T).list.getD n 0 : Nat) : Int)) = hcells (mixw s T (n + 1)) rest tot := by
 rcases lt8 h with rfl | rfl | rfl | rfl | rfl | rfl | rfl | rfl <;> exact ⟨by simp [Sh.W8.list, Sh.add8], rfl⟩
set_option maxRecDepth 20000 in
set_option maxHeartbeats 4000000 in
theorem add_spec {lo : Nat} {w0 w : World} {Rs : List Res} {g : Nat} {s : Sh.W8} {rest : Sh.Str} {tot : Nat} (h : St lo w0 w (hashR g s.list rest tot :: Rs)) (hs : s.Ok) (b : Sh.Str) (hb : b.length = 64) :
 Calls Tryz.prog 152 #[.pointer (some ⟨g, 0, none⟩), .string ⟨b.toArray⟩] w fun e w' => e = .returned (.tuple #[]) ∧ St lo w0 w' (hashR g (Sh.block s b).list rest tot :: Rs) := by
 have HS := Lib.hid (And.intro hs hb)
 clear hs hb
 go_enter Tryz.func152, Tryz.ntmps152
 go_wp2_with fail
 refine (schedule_spec b HS.out.2 w).mono ?_
 rintro e w1 ⟨rfl, b1⟩
 have h1 := h.under b1
 clear h
 go_wp2_with fail
 refine (constants_spec w1).mono ?_
 rintro e w2 ⟨rfl, b2⟩
 have h2 := h1.under b2
 clear h1 b1 b2
 have HA := Lib.hid (And.intro (show (arr (Sh.sched b)).size = 64 by rw [arr_size, Sh.sched_length]) (show (arr Sh.ks).size = 64 by rw [arr_size]; rfl))
 have h3 := (h2.alloc 194 (arr (padz []))).alloc 194 (arr (padz []))
 rw [World.size_alloc] at h3
 obtain ⟨L, hL⟩ : ∃ L, Sh.sched b = L := ⟨_, rfl⟩
 obtain ⟨K, hK⟩ : ∃ K, Sh.ks = K := ⟨_, rfl⟩
 rw [hL, hK] at HA ⊢
 have HL := Lib.hid (And.intro hL hK)
 clear hL hK
 go_wp2_with (first
  | (with_reducible refine store_all (h3.front 1 (by simp)) rfl 194 _ _ rfl (arr L) ?_ ?_ ?_ ?_ ?_ ?_
     ·exact rfl
     ·exact rfl
     ·rw [HA.out.1]; exact (arr_size (padz [])).symm
     ·rw [HA.out.1]; exact size72
     ·exact arr_one _
     intro w3 h4)
  | (with_reducible refine store_all (h4.front 1 (by simp)) rfl 194 _ _ rfl (arr K) ?_ ?_ ?_ ?_ ?_ ?_
     ·exact rfl
     ·exact rfl
     ·rw [HA.out.2]; exact (arr_size (padz [])).symm
     ·rw [HA.out.2]; exact size72
     ·exact arr_one _
     intro w4 h5
     obtain ⟨q0, q1, q2, q3, q4, q5, q6, q7, _⟩ := hash_cells (h5.front 2 (by simp)).blk))
 have h6 := h5.alloc 172 (arr s.list)
 replace h6 : St lo w0 (w4.alloc (.cells #[.int .u32 (s.a : Int), .int .u32 (s.b : Int), .int .u32 (s.c : Int), .int .u32 (s.d : Int), .int .u32 (s.e : Int), .int .u32 (s.f : Int), .int .u32 (s.g : Int), .int .u32 (s.h : Int)] 172))
  (cellsR w4.heap.size 172 (arr s.list) :: cellsR (w2.heap.size + 1) 194 (arr K) :: cellsR w2.heap.size 194 (arr L) :: hashR g s.list rest tot :: Rs) := h6
 generalize w4.alloc (.cells #[.int .u32 (s.a : Int), .int .u32 (s.b : Int), .int .u32 (s.c : Int), .int .u32 (s.d : Int), .int .u32 (s.e : Int), .int .u32 (s.f : Int), .int .u32 (s.g : Int), .int .u32 (s.h : Int)] 172) = W at h6 ⊢
 clear h3 h4 h5 q0 q1 q2 q3 q4 q5 q6 q7
 generalize w4.heap.size = gV at h6 ⊢
 generalize w2.heap.size + 1 = gK at h6 ⊢
 generalize w2.heap.size = gL at h6 ⊢
 go_loopw [26] (fun i wr => ∃ n : Nat, n ≤ 64 ∧ i = .int .i64 n ∧ St lo w0 wr (cellsR gV 172 (arr (Sh.rounds s ((K.zip L).take n)).list) :: cellsR gK 194 (arr K) :: cellsR gL 194 (arr L) :: hashR g s.list rest tot :: Rs)) (fun i _ => 64 - (intOf i).toNat)
 case atStart => exact ⟨0, by omega, rfl, h6⟩
 case round =>
  obtain ⟨n, hn, rfl, h⟩ := hrel
  clear h6
  by_cases hlt : n < 64
  ·have hk1 : (n : Int) < 64 := by omega
   have hk0 : (0 : Int) ≤ (n : Int) := by omega
   have hT := Sh.rounds_ok ((K.zip L).take n) HS.out.1
   have hKl : K.length = 64 := by have := HA.out.2; rwa [arr_size] at this
   have hLl : L.length = 64 := by have := HA.out.1; rwa [arr_size] at this
   have hst : Sh.rounds s ((K.zip L).take (n + 1)) = Sh.rnd (Sh.rounds s ((K.zip L).take n)) (K.getD n 0) (L.getD n 0) := by
    have hz : n < (K.zip L).length := by rw [List.length_zip]; omega
    rw [List.take_add_one, List.getElem?_eq_getElem hz]
    show Sh.rounds s (_ ++ [(K.zip L)[n]]) = _
    rw [Sh.rounds_snoc, List.getElem_zip]
    simp [hKl, hLl, hlt]
   have cK := (h.front 1 (by simp)).blk.cell n
   have cL := (h.front 2 (by simp)).blk.cell n
   rw [arr_get _ _ (by omega)] at cK cL
   have lK : K.getD n 0 < 4294967296 := by
    have hm : K.getD n 0 ∈ K := by rw [List.getD_eq_getElem?_getD, List.getElem?_eq_getElem (by omega)]; exact List.getElem_mem _
    rw [← HL.out.2] at hm ⊢
    exact Sh.ks_lt _ hm
   have lL : L.getD n 0 < 4294967296 := by
    have hm : L.getD n 0 ∈ L := by rw [List.getD_eq_getElem?_getD, List.getElem?_eq_getElem (by omega)]; exact List.getElem_mem _
    rw [← HL.out.1] at hm ⊢
    exact Sh.sched_lt _ _ hm
   generalize K.getD n 0 = kn at cK lK hst
   generalize L.getD n 0 = wn at cL lL hst
   obtain ⟨T, hTe⟩ : ∃ T, Sh.rounds s ((K.zip L).take n) = T := ⟨_, rfl⟩
   rw [hTe] at h hT hst
   have HT := Lib.hid (And.intro hst hT)
   clear hTe hst hKl hLl
   obtain ⟨a, b', c, d, e, f, gg, hh⟩ := T
   obtain ⟨la, lb, lc, ld, le, lf, lg, lh⟩ := hT
   simp only at la lb lc ld le lf lg lh
   have bV := h.blk
   have v0 : wr.cell? ⟨gV, 0, none⟩ = some (.int .u32 (a : Int)) := bV.cell 0
   have v1 : wr.cell? ⟨gV, 1, none⟩ = some (.int .u32 (b' : Int)) := bV.cell 1
   have v2 : wr.cell? ⟨gV, 2, none⟩ = some (.int .u32 (c : Int)) := bV.cell 2
   have v3 : wr.cell? ⟨gV, 3, none⟩ = some (.int .u32 (d : Int)) := bV.cell 3
   have v4 : wr.cell? ⟨gV, 4, none⟩ = some (.int .u32 (e : Int)) := bV.cell 4
   have v5 : wr.cell? ⟨gV, 5, none⟩ = some (.int .u32 (f : Int)) := bV.cell 5
   have v6 : wr.cell? ⟨gV, 6, none⟩ = some (.int .u32 (gg : Int)) := bV.cell 6
   have v7 : wr.cell? ⟨gV, 7, none⟩ = some (.int .u32 (hh : Int)) := bV.cell 7
   have fV := fun i => bV.frozen i
   have lV := bV.lt
   clear bV
   have k1 : ∀ X, Calls Tryz.prog 179 #[.int .u32 (e : Int), .int .i64 6, .int .i64 11, .int .i64 25] X fun e' w' => e' = .returned (.int .u32 (Sh.bS1 e : Nat)) ∧ X = w' := fun X => mixadd_spec e 6 11 25 le (by decide) (by decide) (by decide) (by decide) (by decide) (by decide) X
   have k2 : ∀ X, Calls Tryz.prog 179 #[.int .u32 (a : Int), .int .i64 2, .int .i64 13, .int .i64 22] X fun e' w' => e' = .returned (.int .u32 (Sh.bS0 a : Nat)) ∧ X = w' := fun X => mixadd_spec a 2 13 22 la (by decide) (by decide) (by decide) (by decide) (by decide) (by decide) X
   have o1 := u32_and_nat e f le lf
   have o2 : bits .xor .u32 IntKind.u32.max (e : Int) = ((4294967295 ^^^ e : Nat) : Int) := u32_xor_nat 4294967295 e (by decide) le
   have o3 := u32_and_nat (4294967295 ^^^ e) gg (Sh.xor_lt (by decide) le) lg
   have o4 := u32_xor_nat (e &&& f) ((4294967295 ^^^ e) &&& gg) (Sh.and_lt le) (Sh.and_lt (Sh.xor_lt (by decide) le))
   have p1 := u32_and_nat a b' la lb
   have p2 := u32_and_nat a c la lc
   have p3 := u32_and_nat b' c lb lc
   have p4 := u32_xor_nat (a &&& b') (a &&& c) (Sh.and_lt la) (Sh.and_lt la)
   have p5 := u32_xor_nat ((a &&& b') ^^^ (a &&& c)) (b' &&& c) (Sh.xor_lt (Sh.and_lt la) (Sh.and_lt la)) (Sh.and_lt lb)
   have t1e : Sh.t1 ⟨a, b', c, d, e, f, gg, hh⟩ kn wn = (hh + Sh.bS1 e + ((e &&& f) ^^^ ((4294967295 ^^^ e) &&& gg)) + kn + wn) % 4294967296 := rfl
   have t2e : Sh.t2 ⟨a, b', c, d, e, f, gg, hh⟩ = (Sh.bS0 a + ((a &&& b') ^^^ (a &&& c) ^^^ (b' &&& c))) % 4294967296 := rfl
   generalize (e &&& f) ^^^ ((4294967295 ^^^ e) &&& gg) = z1 at o4 t1e
   generalize (4294967295 ^^^ e) &&& gg = z2 at o3 o4
   generalize 4294967295 ^^^ e = z3 at o2 o3
   generalize e &&& f = z4 at o1 o4
   generalize (a &&& b') ^^^ (a &&& c) ^^^ (b' &&& c) = y1 at p5 t2e
   generalize (a &&& b') ^^^ (a &&& c) = y2 at p4 p5
   generalize a &&& b' = y3 at p1 p4
   generalize a &&& c = y4 at p2 p4
   generalize b' &&& c = y5 at p3 p5
   generalize Sh.bS1 e = m1 at k1 t1e
   generalize Sh.bS0 a = m2 at k2 t2e
   obtain ⟨T1, hT1⟩ : ∃ T1, Sh.t1 ⟨a, b', c, d, e, f, gg, hh⟩ kn wn = T1 := ⟨_, rfl⟩
   obtain ⟨T2, hT2⟩ : ∃ T2, Sh.t2 ⟨a, b', c, d, e, f, gg, hh⟩ = T2 := ⟨_, rfl⟩
   rw [hT1] at t1e
   rw [hT2] at t2e
   have s2 : IntKind.u32.wrap ((m2 : Int) + y1) = (T2 : Int) := by rw [t2e, IntKind.wrap_u32']; omega
   obtain ⟨N1, hN1⟩ : ∃ N1, (T1 + T2) % 4294967296 = N1 := ⟨_, rfl⟩
   obtain ⟨N2, hN2⟩ : ∃ N2, (d + T1) % 4294967296 = N2 := ⟨_, rfl⟩
   have s3 : ((hh : Int) + m1 + z1 + kn + wn + T2) % 4294967296 = (N1 : Int) := by rw [← hN1, t1e]; omega
   have s4 : ((d : Int) + (hh + m1 + z1 + kn + wn)) % 4294967296 = (N2 : Int) := by rw [← hN2, t1e]; omega
   have hnew : (Sh.rnd ⟨a, b', c, d, e, f, gg, hh⟩ kn wn) = ⟨N1, a, b', c, N2, e, f, gg⟩ := by
    unfold Sh.rnd
    rw [hT1, hT2]
    simp only [hN1, hN2]
   have HN := Lib.hid hnew
   clear t1e t2e hT1 hT2 hN1 hN2 hnew la lb lc ld le lf lg lh lK lL
   have hSt := h
   have k1q := fun X => (k1 X).mono (fun e' w' h => And.intro h.1 h.2.symm)
   go_wp2_with fail
   go_quiet (fail)
   go_wp2_with fail
   go_quiet (first
    | (go_at_call 179; with_reducible exact quiet_same2 (k1q _)))
   go_wp2_with fail
   refine (k2 _).mono ?_
   rintro e' w5 ⟨rfl, rfl⟩
   go_wp2
   go_roundw
   case rel =>
    refine ⟨n + 1, by omega, by go_num, ?_⟩
    rw [HT.out.1, HN.out]
    exact set8 (hSt.drewN _) N1 a b' c N2 e f gg
   case measure => simp [intOf]; omega
  ·have hn64 : n = 64 := by omega
   have hd : decide ((n : Int) < 64) = false := by simp; omega
   have hfull : (K.zip L).take n = K.zip L := by
    have hKl : K.length = 64 := by have := HA.out.2; rwa [arr_size] at this
    have hLl : L.length = 64 := by have := HA.out.1; rwa [arr_size] at this
    rw [hn64, List.take_of_length_le (by rw [List.length_zip]; omega)]
   rw [hfull] at h
   clear hn64 hfull
   have hT := Sh.rounds_ok (K.zip L) HS.out.1
   obtain ⟨T, hTe⟩ : ∃ T, Sh.rounds s (K.zip L) = T := ⟨_, rfl⟩
   rw [hTe] at h hT
   have HT := Lib.hid (And.intro hTe hT)
   clear hTe hT
   have bV := h.blk
   have v0 : wr.cell? ⟨gV, 0, none⟩ = some (.int .u32 (T.a : Int)) := bV.cell 0
   have v1 : wr.cell? ⟨gV, 1, none⟩ = some (.int .u32 (T.b : Int)) := bV.cell 1
   have v2 : wr.cell? ⟨gV, 2, none⟩ = some (.int .u32 (T.c : Int)) := bV.cell 2
   have v3 : wr.cell? ⟨gV, 3, none⟩ = some (.int .u32 (T.d : Int)) := bV.cell 3
   have v4 : wr.cell? ⟨gV, 4, none⟩ = some (.int .u32 (T.e : Int)) := bV.cell 4
   have v5 : wr.cell? ⟨gV, 5, none⟩ = some (.int .u32 (T.f : Int)) := bV.cell 5
   have v6 : wr.cell? ⟨gV, 6, none⟩ = some (.int .u32 (T.g : Int)) := bV.cell 6
   have v7 : wr.cell? ⟨gV, 7, none⟩ = some (.int .u32 (T.h : Int)) := bV.cell 7
   clear bV
   have h7 : St lo w0 wr (hashR g (mixw s T 0) rest tot :: Rs) := ((h.tail.tail).tail)
   clear h
   go_wp2
   go_loopw [95] (fun i wr => ∃ n : Nat, n ≤ 8 ∧ i = .int .i64 n ∧ St lo w0 wr (hashR g (mixw s T n) rest tot :: Rs)) (fun i _ => 8 - (intOf i).toNat)
   case atStart => exact ⟨0, by omega, rfl, h7⟩
   case round =>
    clear v0 v1 v2 v3 v4 v5 v6 v7 h7 hd
    obtain ⟨n, hn, rfl, h⟩ := hrel
    by_cases hlt : n < 8
    ·have hk1 : (n : Int) < 8 := by omega
     have hk0 : (0 : Int) ≤ (n : Int) := by omega
     have bh := h.blk
     have cn : wr.cell? ⟨g, n, none⟩ = some (.int .u32 ((s.list.getD n 0 : Nat) : Int)) := by rw [bh.cell, mixw_get s T rest tot n hlt]
     have ff := bh.frozen n
     have lh := bh.lt
     have hix := run_index8 T n hlt wr
     obtain ⟨hsum, hmix⟩ := mixw_next s T rest tot n hlt
     have HM := Lib.hid hmix
     clear bh hmix
     generalize s.list.getD n 0 = y at cn hsum
     generalize T.list.getD n 0 = x at hix hsum
     obtain ⟨v, hv⟩ : ∃ v, (Sh.add8 s T).list.getD n 0 = v := ⟨_, rfl⟩
     rw [hv] at hsum
     have HV := Lib.hid hv
     clear hv
     go_wp2_with fail
     go_region
     go_wp2
     go_roundw
     case rel =>
      refine ⟨n + 1, by omega, by go_num, ?_⟩
      have h8 := h.set_ n (.int .u32 (v : Int))
      rw [← HV.out, HM.out, HV.out] at h8
      exact h8.drew
     case measure => simp [intOf]; omega
    ·have hn8 : n = 8 := by omega
     have hd : decide ((n : Int) < 8) = false := by simp; omega
     have hm : mixw s T n = (Sh.block s b).list := by
      rw [hn8]
      unfold Sh.block
      rw [HL.out.1, HL.out.2, HT.out.1]
      rfl
     rw [hm] at h
     have HH := Lib.hid h
     clear hm hn8 h
     go_wp2
     go_end0
     exact ⟨rfl, HH.out⟩
end Go.Proofs.YtjjpdnpbhdcpbaaGreat
namespace Go.Proofs.YtjjpdnpbhdcpbaaGreat
set_option linter.unusedVariables false
open Go.RowKit Go.Shelf
theorem clone_f : Tryz.laysClone_ren.f 25 = 183 := by kernel_rfl
theorem strclone_spec (s : Sh.Str) (hs : s.length ≤ 281474976710656) (w : World) :
 Calls Tryz.prog 153 #[.string ⟨s.toArray⟩] w fun e w' => e = .returned (.string ⟨s.toArray⟩) ∧ Below w.heap.size w w' := by
 have h := AnyPu.stringslite_Clone Tryz.laysClone ⟨s.toArray⟩ w (by rw [bytes_size]; exact hs)
 rw [clone_f] at h
 go_enter Tryz.func153, Tryz.ntmps153
 go_wp2_with fail
 refine h.mono ?_
 rintro e w' ⟨rfl, hb⟩
 go_wp2
 go_ret
 exact ⟨rfl, hb⟩
theorem clone_hash {lo : Nat} {w0 w : World} {Rs : List Res} {g : Nat} {s : Sh.W8} {rest : Sh.Str} {tot : Nat} (h : St lo w0 w (hashR g s.list rest tot :: Rs)) :
 Calls Tryz.prog 154 #[.pointer (some ⟨g, 0, none⟩)] w fun e w' => ∃ c, e = .returned (.pointer (some ⟨c, 0, none⟩)) ∧ St lo w0 w' (hashR c s.list rest tot :: hashR g s.list rest tot :: Rs) := by
 obtain ⟨q0, q1, q2, q3, q4, q5, q6, q7, q8, q9⟩ := hash_cells h.blk
 go_enter Tryz.func154, Tryz.ntmps154
 go_wp2
 go_ret
 exact ⟨_, rfl, h.alloc _ _⟩
theorem new_hash {lo : Nat} {w0 w : World} {Rs : List Res} (h : St lo w0 w Rs) :
 Calls Tryz.prog 106 #[] w fun e w' => ∃ c, e = .returned (.pointer (some ⟨c, 0, none⟩)) ∧ St lo w0 w' (hashR c Sh.iv.list [] 0 :: Rs) := by
 go_enter Tryz.func106, Tryz.ntmps106
 go_wp2
 go_ret
 exact ⟨_, rfl, h.alloc _ _⟩
end Go.Proofs.YtjjpdnpbhdcpbaaGreat
namespace Go.Proofs.YtjjpdnpbhdcpbaaGreat
set_option linter.unusedVariables false
open Go.RowKit
theorem blocks_congr (s : Sh.W8) (m x : Sh.Str) : ∀ n, 64 * n ≤ m.length → Sh.blocks s (m ++ x) n = Sh.blocks s m n
 | 0, _ => rfl
 | n + 1, h => by
   rw [Sh.blocks, Sh.blocks, blocks_congr s m x n (by omega)]
   congr 1
   rw [List.drop_append_of_le_length (by omega), List.take_append_of_le_length (by rw [List.length_drop]; omega)]
def msgR (g : Nat) (m : Sh.Str) : Res := hashR g (Sh.blocks Sh.iv m (m.length / 64)).list (m.drop (64 * (m.length / 64))) m.length
def strLen : Value → Nat
 | .string b => b.size
 | _ => 0
set_option maxRecDepth 20000 in
set_option maxHeartbeats 4000000 in
theorem hwrite_spec {lo : Nat} {w0 w : World} {Rs : List Res} {g : Nat} (m s : Sh.Str) (h : St lo w0 w (msgR g m :: Rs)) (hm : (m ++ s).length ≤ 1099511627776) :
 Calls Tryz.prog 107 #[.pointer (some ⟨g, 0, none⟩), .string ⟨s.toArray⟩] w fun e w' => e = .returned (.tuple #[]) ∧ St lo w0 w' (msgR g (m ++ s) :: Rs) := by
 obtain ⟨q0, q1, q2, q3, q4, q5, q6, q7, q8, q9⟩ := hash_cells h.blk
 have fg := fun i => h.blk.frozen i
 have lg := h.blk.lt
 have hlen : (m ++ s).length = m.length + s.length := List.length_append
 have hcat : m.drop (64 * (m.length / 64)) ++ s = (m ++ s).drop (64 * (m.length / 64)) := by rw [List.drop_append_of_le_length (by omega)]
 have hbl : Sh.blocks Sh.iv (m ++ s) (m.length / 64) = Sh.blocks Sh.iv m (m.length / 64) := blocks_congr _ _ _ _ (by omega)
 have hml : m.length ≤ 1099511627776 := by omega
 have hsl : s.length ≤ 1099511627776 := by omega
 have hba := bytes_append (m.drop (64 * (m.length / 64))) s
 rw [hcat] at hba
 obtain ⟨rest, hrest⟩ : ∃ rest, m.drop (64 * (m.length / 64)) = rest := ⟨_, rfl⟩
 rw [hrest] at q8 hba
 unfold msgR at h ⊢
 rw [hrest, ← hbl] at h
 have hwrap : IntKind.u64.wrap ((m.length : Int) + (s.length : Int)) = (((m ++ s).length : Nat) : Int) := by rw [IntKind.wrap_u64, hlen]; omega
 have hrl : rest.length ≤ 1099511627776 := by rw [← hrest, List.length_drop]; omega
 have hrl2 : rest.length + s.length ≤ 9223372036854775807 := by omega
 have HW := Lib.hid (And.intro hlen (And.intro hcat (And.intro hbl hrest)))
 obtain ⟨q, hq⟩ : ∃ q, m.length / 64 = q := ⟨_, rfl⟩
 have hq64 : 64 * q ≤ (m ++ s).length := by omega
 rw [hq] at h hba
 clear hlen hcat hbl hrest hq
 go_enter Tryz.func107, Tryz.ntmps107
 go_wp2
 have h1 := h.set_ 9 (.int .u64 (((m ++ s).length : Nat) : Int))
 have hs9 : (hcells (Sh.blocks Sh.iv (m ++ s) q).list rest m.length).setIfInBounds 9 (.int .u64 (((m ++ s).length : Nat) : Int)) = hcells (Sh.blocks Sh.iv (m ++ s) q).list rest (m ++ s).length := rfl
 rw [hs9] at h1
 have hsum : ((m.length : Int) + (s.length : Int)) = (((m ++ s).length : Nat) : Int) := by rw [HW.out.1]; omega
 rw [hsum]
 clear h hs9 hsum hwrap q0 q1 q2 q3 q4 q5 q6 q7 q8 q9 fg lg hba
 generalize w.setCell ⟨g, 9, none⟩ (.int .u64 (((m ++ s).length : Nat) : Int)) = W at h1 ⊢
 obtain ⟨X, hX⟩ : ∃ X, m ++ s = X := ⟨_, rfl⟩
 rw [hX] at h1 hq64 hm ⊢
 have HX := Lib.hid hX
 clear hX HW
 go_loopw [1] (fun t wr => ∃ j : Nat, 64 * j ≤ X.length ∧ t = .string ⟨(X.drop (64 * j)).toArray⟩ ∧ St lo w0 wr (hashR g (Sh.blocks Sh.iv X j).list rest X.length :: Rs)) (fun t _ => strLen t)
 case atStart => exact ⟨q, hq64, rfl, h1⟩
 case round =>
  obtain ⟨j, hj, rfl, h⟩ := hrel
  clear h1 hq64
  have hDl : (X.drop (64 * j)).length = X.length - 64 * j := List.length_drop
  have hbk : Sh.blocks Sh.iv X (j + 1) = Sh.block (Sh.blocks Sh.iv X j) ((X.drop (64 * j)).take 64) := rfl
  have hdd : (X.drop (64 * j)).drop 64 = X.drop (64 * (j + 1)) := by rw [List.drop_drop, Nat.mul_add]
  obtain ⟨D, hD⟩ : ∃ D, X.drop (64 * j) = D := ⟨_, rfl⟩
  rw [hD] at hDl hbk hdd ⊢
  have hDm : D.length ≤ 1099511627776 := by omega
  by_cases hlt : 64 ≤ D.length
  ·have hge : decide ((D.length : Int) ≥ 64) = true := by simp; omega
   have hcut1 : (⟨D.toArray⟩ : ByteArray).extract 0 64 = ⟨(D.take 64).toArray⟩ := by rw [bytes_cut]; rfl
   have hcut2 : (⟨D.toArray⟩ : ByteArray).extract 64 D.length = ⟨(X.drop (64 * (j + 1))).toArray⟩ := by rw [bytes_cut, List.take_of_length_le (by rw [List.length_drop]; omega), hdd]
   have hb64 : (D.take 64).length = 64 := by rw [List.length_take]; omega
   have HB := Lib.hid (And.intro hb64 (And.intro hbk (And.intro hDl hdd)))
   have hi1 : (64 : Int) ≤ (D.length : Int) := by omega
   clear hDl hbk hdd hD hb64
   go_wp2_with fail
   refine (add_spec h (Sh.blocks_ok Sh.iv_ok _ _) (D.take 64) HB.out.1).mono ?_
   rintro e w1 ⟨rfl, h2⟩
   rw [← HB.out.2.1] at h2
   go_wp2
   go_roundw
   case rel => exact ⟨j + 1, by have := HB.out.2.2.1; omega, rfl, h2⟩
   case measure =>
    have h3 := HB.out.2.2
    show ByteArray.size _ < ByteArray.size _
    rw [bytes_size, bytes_size, ← h3.2, List.length_drop]
    omega
  ·have hge : decide ((D.length : Int) ≥ 64) = false := by simp; omega
   have HB := Lib.hid (And.intro hDl hD)
   clear hDl hbk hdd hD
   go_wp2_with fail
   refine (strclone_spec D (by omega) wr).mono ?_
   rintro e w1 ⟨rfl, hb⟩
   have h2 := h.under hb
   clear h
   obtain ⟨q0, q1, q2, q3, q4, q5, q6, q7, q8, q9⟩ := hash_cells h2.blk
   have fg := fun i => h2.blk.frozen i
   have lg := h2.blk.lt
   go_wp2
   go_end0
   refine ⟨rfl, ?_⟩
   have h3 := h2.set_ 8 (.string ⟨D.toArray⟩)
   have hs8 : (hcells (Sh.blocks Sh.iv X j).list rest X.length).setIfInBounds 8 (.string ⟨D.toArray⟩) = hcells (Sh.blocks Sh.iv X j).list D X.length := rfl
   rw [hs8] at h3
   rw [HX.out]
   have hjj : X.length / 64 = j := by have := HB.out.1; omega
   rw [hjj, HB.out.2]
   exact h3
end Go.Proofs.YtjjpdnpbhdcpbaaGreat
namespace Go.Proofs.YtjjpdnpbhdcpbaaGreat
set_option linter.unusedVariables false
open Go.RowKit
def byteAt (n i : Nat) : UInt8 := UInt8.ofNat (n / 2 ^ (56 - 8 * i))
def nb (n i : Nat) : List UInt8 := (List.range i).map (byteAt n) ++ List.replicate (8 - i) 0
theorem nb_get (n i : Nat) (h : i < 8) : (vals (nb n i)).toArray[i]? = some (.int .u8 0) := by
 rcases lt8 h with rfl | rfl | rfl | rfl | rfl | rfl | rfl | rfl <;> rfl
theorem nb_set (n i : Nat) (h : i < 8) : (vals (nb n i)).toArray.setIfInBounds i (.int .u8 ((byteAt n i).toNat : Int)) = (vals (nb n (i + 1))).toArray := by
 rcases lt8 h with rfl | rfl | rfl | rfl | rfl | rfl | rfl | rfl <;> rfl
theorem nb_full (n : Nat) : nb n 8 = Sh.be8 n := by simp [nb, Sh.be8, byteAt, List.range, List.range.loop]
theorem byteAt_nat (n i : Nat) : ((byteAt n i).toNat : Int) = ((n : Int) / 2 ^ (56 - 8 * i)) % 256 := by
 unfold byteAt
 rw [UInt8.toNat_ofNat']
 simp
set_option maxRecDepth 20000 in
set_option maxHeartbeats 2000000 in
theorem number_spec (n : Nat) (hn : n < 18446744073709551616) (w : World) : Calls Tryz.prog 155 #[.int .u64 (n : Int)] w fun e w' => e = .returned (.string ⟨(Sh.be8 n).toArray⟩) ∧ Below w.heap.size w w' := by
 have h0 := (St.nil w).alloc 197 (vals (nb n 0)).toArray
 go_enter Tryz.func155, Tryz.ntmps155
 go_wp2
 change Code.wp _ _ _ _ (w.alloc (.cells (vals (nb n 0)).toArray 197))
 generalize w.alloc (.cells (vals (nb n 0)).toArray 197) = W at h0 ⊢
 obtain ⟨g, hg⟩ : ∃ g, w.heap.size = g := ⟨_, rfl⟩
 have HG := Lib.hid hg
 rw [hg] at h0 ⊢
 clear hg
 go_loopw [5] (fun i wr => ∃ k : Nat, k ≤ 8 ∧ i = .int .i64 k ∧ St g w wr [cellsR g 197 (vals (nb n k)).toArray]) (fun i _ => 8 - (intOf i).toNat)
 case atStart => exact ⟨0, by omega, rfl, h0⟩
 case round =>
  obtain ⟨k, hk, rfl, h⟩ := hrel
  clear h0
  by_cases hlt : k < 8
  ·have hk1 : (k : Int) < 8 := by omega
   have hk0 : (0 : Int) ≤ (k : Int) := by omega
   have ck : wr.cell? ⟨g, k, none⟩ = some (.int .u8 0) := by rw [h.blk.cell, nb_get n k hlt]
   have fg := h.blk.frozen k
   have lg := h.blk.lt
   have hnx := nb_set n k hlt
   have HN := Lib.hid hnx
   clear hnx
   have e1 : (56 : Int) - 8 * (k : Int) = ((56 - 8 * k : Nat) : Int) := by omega
   have hby := byteAt_nat n k
   obtain ⟨m, hm⟩ : ∃ m, 56 - 8 * k = m := ⟨_, rfl⟩
   have hm56 : m ≤ 56 := by omega
   rw [hm] at e1 hby
   clear hm
   generalize byteAt n k = y at hby HN
   go_wp2
   go_roundw
   case rel =>
    refine ⟨k + 1, by omega, by go_num, ?_⟩
    have h2 := h.set_ k (.int .u8 (y.toNat : Int))
    rw [HN.out, hby] at h2
    exact h2
   case measure => simp [intOf]; omega
  ·have hk8 : k = 8 := by omega
   have hd : decide ((k : Int) < 8) = false := by simp; omega
   have hb : Blk wr g 197 (vals (Sh.be8 n)).toArray := by rw [← nb_full, ← hk8]; exact h.blk
   have hcv := run_convert_bytes_back (P := Tryz.prog) wr 76 9 5 ⟨g, 0, none⟩ 8 (Sh.be8 n) Tryz.underlying76 Tryz.underlying5 Tryz.underlying9 (fun j hj => by
    rw [Addr.add_lit, hb.cell]
    simp [vals, hj])
   have h8 : (Sh.be8 n).length = 8 := rfl
   rw [h8] at hcv
   have HB := Lib.hid h.below
   clear hk8 hb h8 h
   obtain ⟨z, hz⟩ : ∃ z, Sh.be8 n = z := ⟨_, rfl⟩
   rw [hz] at hcv
   have HZ := Lib.hid hz
   clear hz
   go_wp2
   go_ret
   exact ⟨by rw [HZ.out]; rfl, by rw [HG.out]; exact HB.out⟩
end Go.Proofs.YtjjpdnpbhdcpbaaGreat
namespace Go.Proofs.YtjjpdnpbhdcpbaaGreat
set_option linter.unusedVariables false
open Go.RowKit Go.Shelf
theorem repeat_extra : Builder.Extra Tryz.prog Tryz.laysRepeat_ren where
 sizeBuilder := by kernel_rfl
 liesBuilder := by kernel_rfl
 t5 := Tryz.laysRepeat.t5
 a5 := Tryz.laysRepeat.a5
 z5 := Tryz.laysRepeat.z5
 v5 := Tryz.laysRepeat.v5
 infoByte := by kernel_rfl
 cellsByte := by kernel_rfl
 sizeByte := by kernel_rfl
 neB5 := by decide
theorem repeat_f : Tryz.laysRepeat_ren.f 105 = 142 := by kernel_rfl
theorem repeat_one (b : UInt8) (c : Nat) (w : World) (hc : c ≤ 140737488355328) :
 Calls Tryz.prog 142 #[.string ⟨[b].toArray⟩, .int .i64 c] w fun e w' => e = .returned (.string ⟨(List.replicate c b).toArray⟩) ∧ Below w.heap.size w w' := by
 have h := Any.strings_Repeat Tryz.laysRepeat repeat_extra ⟨[b].toArray⟩ c w (by omega) (by show 1 * c ≤ _; omega)
 rw [repeat_f] at h
 refine h.mono fun e w' ⟨he, hw⟩ => ⟨?_, hw⟩
 rw [he]
 have := Lib.repeatL_replicate b 1 c
 rw [Nat.mul_one] at this
 rw [← this]
 rfl
end Go.Proofs.YtjjpdnpbhdcpbaaGreat
namespace Go.Proofs.YtjjpdnpbhdcpbaaGreat
set_option linter.unusedVariables false
open Go.RowKit
theorem new_row (w : World) (cs : Array Value) (t : TypeId) : ∀ j u, cs.toList[j]? = some u → (w.alloc (.cells cs t)).cell? ((⟨w.heap.size, 0, none⟩ : Addr).add j) = some u := by
 intro j u h
 rw [Addr.add_lit, (Blk.new w t cs).cell, Nat.zero_add]
 simpa using h
theorem vals_one (l : List UInt8) : ∀ u ∈ vals l, u.oneCell' = true := by
 intro u hu
 simp only [vals, List.mem_map] at hu
 obtain ⟨x, _, rfl⟩ := hu
 rfl
theorem info_u8 : (Tryz.prog.info? 5).map (fun i => (i.zero, i.size, i.bytes)) = some (some (.int .u8 0), 1, 1) := by kernel_rfl
set_option maxRecDepth 20000 in
set_option maxHeartbeats 4000000 in
theorem hsum_spec {lo : Nat} {w0 w : World} {Rs : List Res} {g : Nat} (m : Sh.Str) (h : St lo w0 w (msgR g m :: Rs)) (hm : m.length ≤ 549755813888) :
 Calls Tryz.prog 108 #[.pointer (some ⟨g, 0, none⟩)] w fun e w' => e = .returned (.string ⟨(Sh.sha m).toArray⟩) ∧ St lo w0 w' (msgR g m :: Rs) := by
 have hz0 : (m.drop (64 * (m.length / 64))).length = m.length % 64 := by rw [List.length_drop]; omega
 have hz1 : (119 : Int) - ((m.drop (64 * (m.length / 64))).length : Int) = ((119 - m.length % 64 : Nat) : Int) := by rw [hz0]; omega
 have hz2 : (((119 - m.length % 64 : Nat)) : Int).tmod 64 = ((Sh.zeros m.length : Nat) : Int) := by rw [Int.tmod_eq_emod_of_nonneg (by omega)]; unfold Sh.zeros; omega
 have hz3 : (((119 - m.length % 64 : Nat)) : Int) % 64 = ((Sh.zeros m.length : Nat) : Int) := by unfold Sh.zeros; omega
 have hzz : Sh.zeros m.length ≤ 63 := by unfold Sh.zeros; omega
 have hp8 : IntKind.u64.wrap (8 * (m.length : Int)) = ((8 * m.length : Nat) : Int) := by rw [IntKind.wrap_u64]; omega
 have hpad : Sh.pad m = m ++ ([128] ++ List.replicate (Sh.zeros m.length) 0 ++ Sh.be8 (8 * m.length)) := by simp [Sh.pad]
 have hpl : (m ++ ([128] ++ List.replicate (Sh.zeros m.length) 0 ++ Sh.be8 (8 * m.length))).length ≤ 1099511627776 := by rw [← hpad, Sh.pad_length]; omega
 have HP := Lib.hid (And.intro hpad (And.intro hpl hzz))
 go_enter Tryz.func108, Tryz.ntmps108
 go_wp2_with fail
 refine (clone_hash h).mono ?_
 rintro e w1 ⟨c, rfl, h1⟩
 clear h
 obtain ⟨_, _, _, _, _, _, _, _, q8, _⟩ := hash_cells h1.blk
 obtain ⟨_, _, _, _, _, _, _, _, _, q9⟩ := hash_cells (h1.front 1 (by simp)).blk
 obtain ⟨D, hD⟩ : ∃ D, m.drop (64 * (m.length / 64)) = D := ⟨_, rfl⟩
 obtain ⟨z, hz⟩ : ∃ z, Sh.zeros m.length = z := ⟨_, rfl⟩
 obtain ⟨y, hy⟩ : ∃ y, 119 - m.length % 64 = y := ⟨_, rfl⟩
 rw [hD] at q8 hz1
 rw [hy] at hz1 hz2 hz3
 rw [hz] at hz2 hz3
 have hy1 : y ≤ 119 := by omega
 have HZ := Lib.hid (And.intro hz hD)
 clear hz0 hpad hpl hz hy hzz hD
 replace h1 : St lo w0 w1 (msgR c m :: msgR g m :: Rs) := h1
 have k1 : ∀ X, Calls Tryz.prog 142 #[.string ⟨#[0]⟩, .int .i64 (z : Int)] X fun e w' => e = .returned (.string ⟨(List.replicate z (0 : UInt8)).toArray⟩) ∧ Below X.heap.size X w' := fun X => repeat_one 0 z X (by have := HP.out.2.2; rw [HZ.out.1] at this; omega)
 have k2 : ∀ X, Calls Tryz.prog 155 #[.int .u64 (8 * (m.length : Int))] X fun e w' => e = .returned (.string ⟨(Sh.be8 (8 * m.length)).toArray⟩) ∧ Below X.heap.size X w' := fun X => by
  have := number_spec (8 * m.length) (by omega) X
  rwa [show ((8 * m.length : Nat) : Int) = 8 * (m.length : Int) from by omega] at this
 have hR : (List.replicate z (0 : UInt8)).length ≤ 63 := by rw [List.length_replicate]; have := HP.out.2.2; rw [HZ.out.1] at this; exact this
 have hB : (Sh.be8 (8 * m.length)).length ≤ 8 := Nat.le_refl _
 have hP := HP.out.1
 have hPl := HP.out.2.1
 rw [HZ.out.1] at hP hPl
 generalize List.replicate z (0 : UInt8) = R at k1 hR hP hPl
 generalize Sh.be8 (8 * m.length) = B8 at k2 hB hP hPl
 have hb1 := bytes_append [128] R
 have hb2 := bytes_append ([128] ++ R) B8
 have hP1 : ([128] ++ R).length ≤ 64 := by rw [List.length_append]; simp; omega
 generalize ([128] ++ R) = P1 at hb1 hb2 hP hPl hP1
 obtain ⟨P, hPP⟩ : ∃ P, P1 ++ B8 = P := ⟨_, rfl⟩
 rw [hPP] at hb2 hP hPl
 have HPP := Lib.hid (And.intro hP hPl)
 clear hP hPl hPP
 have kS : w1.drew.cell? ⟨g, 9, none⟩ = some (.int .u64 (m.length : Int)) := q9
 have h2 := h1.drew
 have n1 : 1 + R.length ≤ 9223372036854775807 := by omega
 have n2 : P1.length + B8.length ≤ 9223372036854775807 := by omega
 have f1 : ¬ ((9223372036854775807 : Int) < 1 + (R.length : Int)) := by omega
 have f2 : ¬ (IntKind.i64.max < 1 + (R.length : Int)) := f1
 have f3 : ¬ (9223372036854775807 < 1 + R.length) := by omega
 have f4 : ¬ ((9223372036854775807 : Int) < (P1.length : Int) + (B8.length : Int)) := by omega
 have f5 : ¬ (IntKind.i64.max < (P1.length : Int) + (B8.length : Int)) := f4
 have f6 : ¬ (9223372036854775807 < P1.length + B8.length) := by omega
 go_wp2_with fail
 go_region_held3 (fun w' => w'.cell? ⟨g, 9, none⟩ = some (.int .u64 (m.length : Int)))
  (first
    | with_reducible exact kS
    | with_reducible exact kS2
    | with_reducible exact kS3
    | with_reducible exact kS4
    | fail)
  (first
    | (with_reducible refine (k1 _).mono ?_
       rintro e w2 ⟨rfl, b2⟩
       have h3 := h2.under b2
       have kS2 : w2.cell? ⟨g, 9, none⟩ = some (.int .u64 (m.length : Int)) := below_cell b2 kS)
    | (with_reducible refine (k2 _).mono ?_
       rintro e w3 ⟨rfl, b3⟩
       have h4 := h3.under b3
       have kS3 : w3.cell? ⟨g, 9, none⟩ = some (.int .u64 (m.length : Int)) := below_cell b3 kS2)
    | (with_reducible refine (hwrite_spec m P h4 HPP.out.2).mono ?_
       rintro e w4 ⟨rfl, h5⟩
       have kS4 : w4.cell? ⟨g, 9, none⟩ = some (.int .u64 (m.length : Int)) := (hash_cells (h5.front 1 (by simp)).blk).2.2.2.2.2.2.2.2.2)
    | fail)
 all_goals
  rw [← HPP.out.1] at h5
  unfold msgR at h5
  have hW : Sh.out (Sh.blocks Sh.iv (Sh.pad m) ((Sh.pad m).length / 64)) = Sh.sha m := rfl
  obtain ⟨T, hT⟩ : ∃ T, Sh.blocks Sh.iv (Sh.pad m) ((Sh.pad m).length / 64) = T := ⟨_, rfl⟩
  have hTok : T.Ok := by rw [← hT]; exact Sh.blocks_ok Sh.iv_ok _ _
  rw [hT] at h5 hW
  have HT := Lib.hid (And.intro hTok hW)
  obtain ⟨q0, q1, q2, q3, q4, q5, q6, q7, _⟩ := hash_cells h5.blk
  have h6 := h5.tail
  clear h1 h2 h3 h4 h5 kS kS2 kS3 kS4 hT hTok hW q8 q9 k1 k2 hb1 hb2 hR hB hP1 n1 n2 f1 f2 f3 f4 f5 f6
  replace h6 : St lo w0 w4 (msgR g m :: Rs) := h6
  have h7 : St lo w0 w4 (ownR 5 1 (.slice none 0 0) 0 (vals []) :: msgR g m :: Rs) := h6.new_own (Below.refl _ _) (World.ownsRow_nil _ _ _ _)
  clear h6
  go_wp2
  clear q0 q1 q2 q3 q4 q5 q6 q7
  go_loopw [5, 33] (fun v i wr => ∃ (n : Nat) (v' : Value), n ≤ 8 ∧ i = .int .i64 n ∧ v' = v ∧ St lo w0 wr (ownR 5 1 v' (4 * n) (vals ((T.list.take n).flatMap Sh.be4)) :: msgR g m :: Rs)) (fun _ i _ => 8 - (intOf i).toNat)
  case atStart => exact ⟨0, .slice none 0 0, by omega, rfl, rfl, h7⟩
  case round =>
   clear h7
   obtain ⟨n, v, hn, rfl, rfl, h⟩ := hrel
   by_cases hlt : n < 8
   ·have hk1 : (n : Int) < 8 := by omega
    have hk0 : (0 : Int) ≤ (n : Int) := by omega
    have hix := run_index8 T n hlt wr
    have hnx : (T.list.take (n + 1)).flatMap Sh.be4 = (T.list.take n).flatMap Sh.be4 ++ Sh.be4 (T.list.getD n 0) := by
     rcases lt8 hlt with rfl | rfl | rfl | rfl | rfl | rfl | rfl | rfl <;> rfl
    have hxl : T.list.getD n 0 < 4294967296 := by
     have hok := HT.out.1
     rcases lt8 hlt with rfl | rfl | rfl | rfl | rfl | rfl | rfl | rfl
     ·exact hok.a
     ·exact hok.b
     ·exact hok.c
     ·exact hok.d
     ·exact hok.e
     ·exact hok.f
     ·exact hok.g
     ·exact hok.h
    generalize T.list.getD n 0 = x at hix hnx hxl
    have y0 : (x : Int) / 16777216 = ((UInt8.ofNat (x / 16777216)).toNat : Int) := by rw [UInt8.toNat_ofNat']; omega
    have y1 : (x : Int) / 65536 % 256 = ((UInt8.ofNat (x / 65536)).toNat : Int) := by rw [UInt8.toNat_ofNat']; omega
    have y2 : (x : Int) / 256 % 256 = ((UInt8.ofNat (x / 256)).toNat : Int) := by rw [UInt8.toNat_ofNat']; omega
    have y3 : (x : Int) % 256 = ((UInt8.ofNat x).toNat : Int) := by rw [UInt8.toNat_ofNat']; omega
    have hbe : Sh.be4 x = [UInt8.ofNat (x / 16777216), UInt8.ofNat (x / 65536), UInt8.ofNat (x / 256), UInt8.ofNat x] := rfl
    rw [hbe] at hnx
    clear hbe
    generalize UInt8.ofNat (x / 16777216) = z0 at y0 hnx
    generalize UInt8.ofNat (x / 65536) = z1 at y1 hnx
    generalize UInt8.ofNat (x / 256) = z2 at y2 hnx
    generalize UInt8.ofNat x = z3 at y3 hnx
    have HN := Lib.hid hnx
    clear hnx
    have hb1 : (4 * n + 4) * 1 ≤ 140737488355328 := by omega
    have hb2 : 4 * n + 4 ≤ maxLen := by unfold maxLen; omega
    go_wp2_with (at_builtin; go_must (refine appendM 76 (h.alloc0 (.cells #[.int .u8 (z0.toNat : Int), .int .u8 (z1.toNat : Int), .int .u8 (z2.toNat : Int), .int .u8 (z3.toNat : Int)] 5)) Tryz.underlying76 info_u8 rfl (by decide) rfl _ _ rfl rfl ⟨wr.heap.size, 0, none⟩ 4 4 (vals [z0, z1, z2, z3]) rfl rfl (new_row wr _ _) (vals_one _) hb2 hb1 (fun v2 w5 h8 => ?_)))
    go_roundw
    case rel =>
     refine ⟨n + 1, v2, by omega, by go_num, rfl, ?_⟩
     rw [HN.out, vals_append, Nat.mul_add]
     exact h8
    case measure => simp [intOf]; omega
   ·have hd : decide ((n : Int) < 8) = false := by simp; omega
    have hn8 : n = 8 := by omega
    have hfull : (T.list.take n).flatMap Sh.be4 = Sh.sha m := by rw [hn8, ← HT.out.2]; rfl
    rw [hfull] at h
    have hcv := conv_own (P := Tryz.prog) 76 9 5 Tryz.underlying76 Tryz.underlying5 Tryz.underlying9 wr 0 v (4 * n) (Sh.sha m) h.own
    have HH := Lib.hid h.tail
    clear h hfull hn8
    obtain ⟨Z, hZ⟩ : ∃ Z, Sh.sha m = Z := ⟨_, rfl⟩
    rw [hZ] at hcv
    have HZZ := Lib.hid hZ
    clear hZ
    go_wp2
    go_ret
    exact ⟨by rw [HZZ.out]; rfl, HH.out⟩
end Go.Proofs.YtjjpdnpbhdcpbaaGreat
namespace Go.Proofs.YtjjpdnpbhdcpbaaGreat
set_option linter.unusedVariables false
open Go.RowKit
theorem msg_nil (g : Nat) : msgR g [] = hashR g Sh.iv.list [] 0 := rfl
theorem sum_spec {lo : Nat} {w0 w : World} {Rs : List Res} (h : St lo w0 w Rs) (s : Sh.Str) (hs : s.length ≤ 549755813888) :
 Calls Tryz.prog 59 #[.string ⟨s.toArray⟩] w fun e w' => e = .returned (.string ⟨(Sh.sha s).toArray⟩) ∧ St lo w0 w' Rs := by
 go_enter Tryz.func59, Tryz.ntmps59
 go_wp2_with fail
 refine (new_hash h).mono ?_
 rintro e w1 ⟨g, rfl, h1⟩
 rw [← msg_nil] at h1
 clear h
 go_wp2_with fail
 refine (hwrite_spec [] s h1 (by simp; omega)).mono ?_
 rintro e w2 ⟨rfl, h2⟩
 rw [List.nil_append] at h2
 clear h1
 go_wp2_with fail
 refine (hsum_spec s h2 hs).mono ?_
 rintro e w3 ⟨rfl, h3⟩
 have h4 := h3.tail
 clear h2 h3
 go_wp2
 go_ret
 exact ⟨rfl, h4⟩
theorem sum_below (s : Sh.Str) (hs : s.length ≤ 549755813888) (w : World) : Calls Tryz.prog 59 #[.string ⟨s.toArray⟩] w fun e w' => e = .returned (.string ⟨(Sh.sha s).toArray⟩) ∧ Below w.heap.size w w' :=
 (sum_spec (St.nil w) s hs).mono fun e w' ⟨he, h⟩ => ⟨he, h.below⟩
end Go.Proofs.YtjjpdnpbhdcpbaaGreat
