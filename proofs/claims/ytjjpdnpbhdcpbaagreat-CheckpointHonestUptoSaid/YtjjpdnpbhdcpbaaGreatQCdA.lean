/-
  The codec of chapter 2 as plain functions on lists of bytes, and its plain laws: what is written is read back, what is read was written so. Conditions: none.
-/
import Derived.Test.YtjjpdnpbhdcpbaaGreatQBase
import Derived.Test.YtjjpdnpbhdcpbaaGreatProg
import Derived.Lib.Builder
import Derived.Lib.UnsafeStr
import Derived.Lib.AppendStr
import Derived.Lib.FrozenHead
namespace Go.Proofs.YtjjpdnpbhdcpbaaGreat
set_option linter.unusedVariables false
namespace Cd
def unsF : Nat → Nat → List UInt8
 | 0, _ => []
 | f + 1, n => if n < 128 then [UInt8.ofNat n] else UInt8.ofNat (n % 128 + 128) :: unsF f (n / 128)
def uns (n : Nat) : List UInt8 := unsF 10 n
def decF : Nat → Nat → List UInt8 → Option (Nat × Nat)
 | 0, _, _ => none
 | _ + 1, _, [] => none
 | f + 1, i, b :: r =>
   if i = 9 ∧ 1 < b.toNat then none
   else if b.toNat < 128 then (if 0 < b.toNat ∨ i = 0 then some (b.toNat, 1) else none)
   else (decF f (i + 1) r).map fun p => (b.toNat % 128 + 128 * p.1, p.2 + 1)
def dec (l : List UInt8) : Option (Nat × Nat) := decF 10 0 l
theorem u8_nat (n : Nat) (h : n < 256) : (UInt8.ofNat n).toNat = n := by
 simp [UInt8.toNat_ofNat']; omega
theorem u8_of (b : UInt8) : UInt8.ofNat b.toNat = b := by simp
theorem u8_lt (b : UInt8) : b.toNat < 256 := b.toNat_lt
theorem unsF_ne (f n : Nat) : unsF (f + 1) n ≠ [] := by
 unfold unsF; split <;> simp
theorem unsF_len (f : Nat) : ∀ n, (unsF f n).length ≤ f := by
 induction f with
 | zero => intro n; simp [unsF]
 | succ f ih => intro n; unfold unsF; split <;> simp; exact ih _
theorem uns_len (n : Nat) : (uns n).length ≤ 10 := unsF_len 10 n
theorem uns_pos (n : Nat) : 0 < (uns n).length := List.length_pos_iff.2 (unsF_ne 9 n)
theorem decF_unsF (f : Nat) : ∀ (i n : Nat) (rest : List UInt8), i + f = 9 → n < 2 ^ (7 * f + 1) → (i = 0 ∨ 0 < n) → decF (f + 1) i (unsF (f + 1) n ++ rest) = some (n, (unsF (f + 1) n).length) := by
 induction f with
 | zero =>
   intro i n rest hi hn h0
   have hn' : n < 2 := by simpa using hn
   have e : unsF 1 n = [UInt8.ofNat n] := by unfold unsF; rw [if_pos (by omega)]
   rw [e]
   have hb := u8_nat n (by omega)
   simp only [List.cons_append, List.nil_append, decF, hb]
   rw [if_neg (by omega), if_pos (by omega), if_pos (by omega)]
   rfl
 | succ f ih =>
   intro i n rest hi hn h0
   by_cases h : n < 128
   ·have e : unsF (f + 1 + 1) n = [UInt8.ofNat n] := by unfold unsF; rw [if_pos h]
    rw [e]
    have hb := u8_nat n (by omega)
    simp only [List.cons_append, List.nil_append, decF, hb]
    rw [if_neg (by omega), if_pos (by omega), if_pos (by omega)]
    rfl
   ·have e : unsF (f + 1 + 1) n = UInt8.ofNat (n % 128 + 128) :: unsF (f + 1) (n / 128) := by rw [unsF, if_neg h]
    rw [e]
    have hb := u8_nat (n % 128 + 128) (by omega)
    have hp : 2 ^ (7 * (f + 1) + 1) = 128 * 2 ^ (7 * f + 1) := by
     rw [show 7 * (f + 1) + 1 = 7 + (7 * f + 1) from by omega, Nat.pow_add]
    rw [hp] at hn
    have := ih (i + 1) (n / 128) rest (by omega) (by omega) (.inr (by omega))
    rw [List.cons_append, decF, hb, if_neg (by omega), if_neg (by omega), this]
    simp
    omega
theorem dec_uns (n : Nat) (rest : List UInt8) (h : n < 2 ^ 64) : dec (uns n ++ rest) = some (n, (uns n).length) := decF_unsF 9 0 n rest rfl h (.inl rfl)
theorem decF_inv (f : Nat) : ∀ (i : Nat) (l : List UInt8) (n c : Nat), i + f = 9 → decF (f + 1) i l = some (n, c) → l.take c = unsF (f + 1) n ∧ c = (unsF (f + 1) n).length ∧ n < 2 ^ (7 * f + 1) ∧ c ≤ l.length ∧ (i = 0 ∨ 0 < n) := by
 induction f with
 | zero =>
   intro i l n c hi h
   match l with
   | [] => simp [decF] at h
   | b :: r =>
     simp only [decF] at h
     by_cases h1 : i = 9 ∧ 1 < b.toNat
     ·simp [h1] at h
     ·rw [if_neg h1] at h
      by_cases h2 : b.toNat < 128
      ·rw [if_pos h2] at h
       by_cases h3 : 0 < b.toNat ∨ i = 0
       ·rw [if_pos h3] at h
        simp only [Option.some.injEq, Prod.mk.injEq] at h
        obtain ⟨rfl, rfl⟩ := h
        have e : unsF 1 b.toNat = [b] := by unfold unsF; rw [if_pos h2, u8_of]
        simp only [Nat.zero_add] at *
        rw [e]
        refine ⟨by simp, rfl, ?_, by simp, by omega⟩
        simp; omega
       ·simp [h3] at h
      ·simp [h2] at h
 | succ f ih =>
   intro i l n c hi h
   match l with
   | [] => simp [decF] at h
   | b :: r =>
     rw [decF] at h
     by_cases h1 : i = 9 ∧ 1 < b.toNat
     ·simp [h1] at h
     ·rw [if_neg h1] at h
      by_cases h2 : b.toNat < 128
      ·rw [if_pos h2] at h
       by_cases h3 : 0 < b.toNat ∨ i = 0
       ·rw [if_pos h3] at h
        simp only [Option.some.injEq, Prod.mk.injEq] at h
        obtain ⟨rfl, rfl⟩ := h
        have e : unsF (f + 1 + 1) b.toNat = [b] := by unfold unsF; rw [if_pos h2, u8_of]
        rw [e]
        refine ⟨by simp, rfl, ?_, by simp, by omega⟩
        have : 2 ^ 7 ≤ 2 ^ (7 * (f + 1) + 1) := Nat.pow_le_pow_right (by decide) (by omega)
        omega
       ·simp [h3] at h
      ·rw [if_neg h2] at h
       cases hd : decF (f + 1) (i + 1) r with
       | none => simp [hd] at h
       | some p =>
         obtain ⟨m, k⟩ := p
         rw [hd] at h
         simp only [Option.map_some, Option.some.injEq, Prod.mk.injEq] at h
         obtain ⟨rfl, rfl⟩ := h
         obtain ⟨g1, g2, g3, g4, g5⟩ := ih (i + 1) r m k (by omega) hd
         have hm : 0 < m := by omega
         have hb := u8_lt b
         have e : unsF (f + 1 + 1) (b.toNat % 128 + 128 * m) = b :: unsF (f + 1) m := by
          rw [unsF, if_neg (by omega), show (b.toNat % 128 + 128 * m) / 128 = m from by omega, show (b.toNat % 128 + 128 * m) % 128 + 128 = b.toNat from by omega, u8_of]
         rw [e]
         have hp : 2 ^ (7 * (f + 1) + 1) = 128 * 2 ^ (7 * f + 1) := by
          rw [show 7 * (f + 1) + 1 = 7 + (7 * f + 1) from by omega, Nat.pow_add]
         refine ⟨by simp [g1], by simp [g2], by omega, by simp; omega, by omega⟩
theorem dec_inv {l : List UInt8} {n c : Nat} (h : dec l = some (n, c)) : l.take c = uns n ∧ c = (uns n).length ∧ n < 2 ^ 64 ∧ c ≤ l.length := by
 obtain ⟨a, b, c, d, _⟩ := decF_inv 9 0 l n c rfl h
 exact ⟨a, b, c, d⟩
def int (n : Int) : List UInt8 := if n < 0 then uns (2 * (-(n + 1)).toNat + 1) else uns (2 * n.toNat)
def text (s : List UInt8) : List UInt8 := uns s.length ++ s
def body (l : List (List UInt8)) : List UInt8 := (l.map text).flatten
def texts (l : List (List UInt8)) : List UInt8 := uns l.length ++ body l
theorem body_cons (s : List UInt8) (l : List (List UInt8)) : body (s :: l) = text s ++ body l := by simp [body]
theorem body_append (a b : List (List UInt8)) : body (a ++ b) = body a ++ body b := by simp [body]
def readUns (s : List UInt8) (at_ : Nat) : Option (Nat × Nat) := (dec (s.drop at_)).map fun p => (p.1, at_ + p.2)
def readUint (s : List UInt8) (at_ : Nat) : Option (Nat × Nat) := match readUns s at_ with
 | some (n, next) => if n < 2 ^ 63 then some (n, next) else none
 | none => none
def readCount (s : List UInt8) (at_ : Nat) (most : Int) : Option (Nat × Nat) := match readUint s at_ with
 | some (n, next) => if (n : Int) ≤ most then some (n, next) else none
 | none => none
def readText (s : List UInt8) (at_ : Nat) : Option (List UInt8 × Nat) := match readUint s at_ with
 | some (n, next) => if n ≤ s.length - next then some ((s.drop next).take n, next + n) else none
 | none => none
def readMany (s : List UInt8) : Nat → Nat → Option (List (List UInt8) × Nat)
 | 0, at_ => some ([], at_)
 | k + 1, at_ => match readText s at_ with
   | some (x, next) => match readMany s k next with
     | some (r, e) => some (x :: r, e)
     | none => none
   | none => none
def readTexts (s : List UInt8) (at_ : Nat) : Option (List (List UInt8) × Nat) := match readUint s at_ with
 | some (n, next) => if n ≤ s.length - next then readMany s n next else none
 | none => none
theorem readUns_le {s : List UInt8} {at_ n next : Nat} (h : readUns s at_ = some (n, next)) (ha : at_ ≤ s.length) : at_ < next ∧ next ≤ s.length ∧ n < 2 ^ 64 := by
 unfold readUns at h
 cases hd : dec (s.drop at_) with
 | none => simp [hd] at h
 | some p =>
   obtain ⟨m, c⟩ := p
   simp [hd] at h
   obtain ⟨rfl, rfl⟩ := h
   obtain ⟨h1, h2, h3, h4⟩ := dec_inv hd
   have := uns_pos m
   simp at h4
   omega
theorem readUint_le {s : List UInt8} {at_ n next : Nat} (h : readUint s at_ = some (n, next)) (ha : at_ ≤ s.length) : at_ < next ∧ next ≤ s.length ∧ n < 2 ^ 63 := by
 unfold readUint at h
 cases hd : readUns s at_ with
 | none => simp [hd] at h
 | some p =>
   obtain ⟨m, c⟩ := p
   simp only [hd] at h
   split at h
   ·simp only [Option.some.injEq, Prod.mk.injEq] at h
    obtain ⟨rfl, rfl⟩ := h
    have := readUns_le hd ha
    omega
   ·simp at h
theorem readText_le {s x : List UInt8} {at_ next : Nat} (h : readText s at_ = some (x, next)) (ha : at_ ≤ s.length) : at_ < next ∧ next ≤ s.length ∧ x.length ≤ s.length := by
 unfold readText at h
 cases hd : readUint s at_ with
 | none => simp [hd] at h
 | some p =>
   obtain ⟨m, c⟩ := p
   simp only [hd] at h
   split at h
   ·simp only [Option.some.injEq, Prod.mk.injEq] at h
    obtain ⟨rfl, rfl⟩ := h
    have := readUint_le hd ha
    simp
    omega
   ·simp at h
theorem readMany_le {s : List UInt8} : ∀ {k at_ : Nat} {r : List (List UInt8)} {next : Nat}, readMany s k at_ = some (r, next) → at_ ≤ s.length → at_ ≤ next ∧ next ≤ s.length ∧ r.length = k
 | 0, at_, r, next, h, ha => by
   simp [readMany] at h
   obtain ⟨rfl, rfl⟩ := h
   exact ⟨by omega, ha, rfl⟩
 | k + 1, at_, r, next, h, ha => by
   simp only [readMany] at h
   cases hd : readText s at_ with
   | none => simp [hd] at h
   | some p =>
     obtain ⟨x, n1⟩ := p
     simp only [hd] at h
     cases hm : readMany s k n1 with
     | none => simp [hm] at h
     | some q =>
       obtain ⟨r1, e⟩ := q
       simp only [hm, Option.some.injEq, Prod.mk.injEq] at h
       obtain ⟨rfl, rfl⟩ := h
       have h1 := readText_le hd ha
       have h2 := readMany_le hm h1.2.1
       simp
       omega
end Cd
end Go.Proofs.YtjjpdnpbhdcpbaaGreat
namespace Go.Proofs.YtjjpdnpbhdcpbaaGreat
set_option linter.unusedVariables false
open Go.RowKit
theorem info_u8c : (Tryz.prog.info? 5).map (fun i => (i.zero, i.size, i.bytes)) = some (some (.int .u8 0), 1, 1) := by kernel_rfl
theorem or128 (m : Nat) : bits BinOp.or IntKind.u8 ((m : Int) % 256) 128 = ((UInt8.ofNat (m % 128 + 128)).toNat : Int) := by
 have h : ∀ r : Fin 256, bits BinOp.or IntKind.u8 ((r.val : Nat) : Int) 128 = ((UInt8.ofNat (r.val % 128 + 128)).toNat : Int) := by decide +kernel
 have := h ⟨m % 256, Nat.mod_lt _ (by decide)⟩
 simp only [] at this
 rw [show ((m : Int) % 256) = ((m % 256 : Nat) : Int) from by omega, this]
 congr 3; omega
theorem u8_nat' (n : Nat) (h : n < 256) : n % 256 = n := by omega
theorem uns_step {f m : Nat} (h : 127 < m) (hf : 0 < f) : Cd.unsF (f + 1) m = UInt8.ofNat (m % 128 + 128) :: Cd.unsF f (m / 128) := by
 rw [Cd.unsF, if_neg (by omega)]
theorem uns_last {f m : Nat} (h : ¬ 127 < m) : Cd.unsF (f + 1) m = [UInt8.ofNat m] := by
 rw [Cd.unsF, if_pos (by omega)]
theorem uns_room {f m : Nat} (h : 127 < m) (hm : m < 2 ^ (7 * f + 1)) : 0 < f ∧ m / 128 < 2 ^ (7 * (f - 1) + 1) := by
 have hf : 0 < f := by
  rcases Nat.eq_zero_or_pos f with rfl | h0
  ·simp at hm; omega
  ·exact h0
 have hp : 2 ^ (7 * f + 1) = 128 * 2 ^ (7 * (f - 1) + 1) := by
  rw [show 7 * f + 1 = 7 + (7 * (f - 1) + 1) from by omega, Nat.pow_add]
 exact ⟨hf, by omega⟩
theorem uns_64 {pre : List UInt8} {f m : Nat} (hm : m < 2 ^ (7 * f + 1)) (hf : pre.length + f + 1 = 10) : (m : Int) ≤ 18446744073709551615 := by
 have : 2 ^ (7 * f + 1) ≤ 2 ^ 64 := Nat.pow_le_pow_right (by decide) (by omega)
 have : m < 2 ^ 64 := by omega
 omega
set_option maxHeartbeats 400000 in
theorem unsigned_spec (n : Nat) (hn : n < 18446744073709551616) (w : World) :
 Calls Tryz.prog 120 #[.int .u64 n] w fun e w' => e = .returned (.string ⟨(Cd.uns n).toArray⟩) ∧ Below w.heap.size w w' := by
 go_enter Tryz.func120, Tryz.ntmps120
 go_wp2
 go_loopw [0, 3] (fun x v wr => ∃ (pre : List UInt8) (f m : Nat), Cd.uns n = pre ++ Cd.unsF (f + 1) m ∧ x = .int .u64 m ∧ m < 2 ^ (7 * f + 1) ∧ pre.length + f + 1 = 10 ∧ wr.ownsRow w.heap.size 5 1 v pre.length (vals pre) ∧ Below w.heap.size w wr)
  (fun x _ _ => (intOf x).toNat)
 case atStart => exact ⟨[], 9, n, rfl, rfl, hn, rfl, World.ownsRow_nil _ _ _ _, Below.refl _ _⟩
 case round =>
  obtain ⟨pre, f, m, hu, rfl, hm, hf, hown, hbel⟩ := hrel
  have hm64 := uns_64 hm hf
  have HU := hide hu; clear hu
  have HF := hide hf; clear hf
  have HM := hide hm; clear hm
  have hsz := hbel.size
  have hpl : pre.length ≤ 9 := by have := HF.out; omega
  have b1 : (pre.length + 1) * 1 ≤ 140737488355328 := by omega
  have b2 : pre.length + 1 ≤ maxLen := by unfold maxLen; omega
  by_cases hlt : 127 < m
  ·go_wp2_with (at_builtin; go_must (refine append1 _ 76 5 (.int .u8 0) 1 w.heap.size Tryz.underlying76 info_u8c rfl rfl _ _ rfl _ _ _ _ _ (hown.alloc _) rfl rfl (one_new _ _ _) rfl b1 b2 (by simp; omega) ?_); intro v' w1 hown1 hg1)
   go_roundw
   case rel =>
    have hr := uns_room hlt HM.out
    refine ⟨pre ++ [UInt8.ofNat (m % 128 + 128)], f - 1, m / 128, ?_, by go_num, hr.2, ?_, ?_, ?_⟩
    ·rw [HU.out, uns_step hlt hr.1, show f - 1 + 1 = f from by omega]; simp
    ·have := HF.out; simp; omega
    ·rw [or128] at hown1
     simpa [vals] using hown1
    ·exact (hbel.alloc hsz _).grown hg1 (by simp; omega) (fun k hk => (hown.lt k hk).1)
   case measure => simp [intOf]; omega
  ·have hcv := fun (v' : Value) (w1 : World) (h : w1.ownsRow w.heap.size 5 1 v' (pre.length + 1) (vals pre ++ [Value.int IntKind.u8 (m : Int)])) => conv_own (P := Tryz.prog) 76 9 5 Tryz.underlying76 Tryz.underlying5 Tryz.underlying9 w1 w.heap.size v' _ (pre ++ [UInt8.ofNat m]) (by simpa [vals, show m % 256 = m from by omega] using h)
   go_wp2_with (at_builtin; go_must (refine append1 _ 76 5 (.int .u8 0) 1 w.heap.size Tryz.underlying76 info_u8c rfl rfl _ _ rfl _ _ _ _ _ (hown.alloc _) rfl rfl (one_new _ _ _) rfl b1 b2 (by simp; omega) ?_); intro v' w1 hown1 hg1; have hcv := hcv v' w1 hown1)
   go_ret
   refine ⟨ret_eq (str_eq ?_), (hbel.alloc hsz _).grown hg1 (by simp; omega) (fun k hk => (hown.lt k hk).1)⟩
   rw [HU.out, uns_last hlt]
set_option maxRecDepth 4000 in
set_option maxHeartbeats 400000 in
theorem unsigned_ref (n : Nat) (hn : n < 18446744073709551616) (w : World) :
 Calls Tryz.prog 125 #[.int .u64 n] w fun e w' => e = .returned (.string ⟨(Cd.uns n).toArray⟩) ∧ Below w.heap.size w w' := by
 go_enter Tryz.func125, Tryz.ntmps125
 go_wp2
 go_loopw [0, 3] (fun x v wr => ∃ (pre : List UInt8) (f m : Nat), Cd.uns n = pre ++ Cd.unsF (f + 1) m ∧ x = .int .u64 m ∧ m < 2 ^ (7 * f + 1) ∧ pre.length + f + 1 = 10 ∧ wr.ownsRow w.heap.size 5 1 v pre.length (vals pre) ∧ Below w.heap.size w wr)
  (fun x _ _ => (intOf x).toNat)
 case atStart =>
  refine ⟨[], 9, n, rfl, rfl, hn, rfl, ?_, (Below.refl _ _).alloc (Nat.le_refl _) _⟩
  exact World.ownsRow_lit w #[] 0 (Nat.le_refl _) (by decide) rfl
 case round =>
  obtain ⟨pre, f, m, hu, rfl, hm, hf, hown, hbel⟩ := hrel
  have hm64 := uns_64 hm hf
  have HU := hide hu; clear hu
  have HF := hide hf; clear hf
  have HM := hide hm; clear hm
  have hsz := hbel.size
  have hpl : pre.length ≤ 9 := by have := HF.out; omega
  have b1 : (pre.length + 1) * 1 ≤ 140737488355328 := by omega
  have b2 : pre.length + 1 ≤ maxLen := by unfold maxLen; omega
  by_cases hlt : 127 < m
  ·have hlt1 : (128 : Int) ≤ (m : Int) := by omega
   go_wp2_with (at_builtin; go_must (refine append1 _ 76 5 (.int .u8 0) 1 w.heap.size Tryz.underlying76 info_u8c rfl rfl _ _ rfl _ _ _ _ _ (hown.alloc _) rfl rfl (one_new _ _ _) rfl b1 b2 (by simp; omega) ?_); intro v' w1 hown1 hg1)
   go_roundw
   case rel =>
    have hr := uns_room hlt HM.out
    refine ⟨pre ++ [UInt8.ofNat (m % 128 + 128)], f - 1, m / 128, ?_, by go_num, hr.2, ?_, ?_, ?_⟩
    ·rw [HU.out, uns_step hlt hr.1, show f - 1 + 1 = f from by omega]; simp
    ·have := HF.out; simp; omega
    ·simpa [vals, u8_nat' (m % 128 + 128) (by omega)] using hown1
    ·exact (hbel.alloc hsz _).grown hg1 (by simp; omega) (fun k hk => (hown.lt k hk).1)
   case measure => simp [intOf]; omega
  ·have hlt1 : (m : Int) ≤ 127 := by omega
   have HL := hide hlt; clear hlt
   have hcv := fun (v' : Value) (w1 : World) (h : w1.ownsRow w.heap.size 5 1 v' (pre.length + 1) (vals pre ++ [Value.int IntKind.u8 (m : Int)])) => conv_own (P := Tryz.prog) 76 9 5 Tryz.underlying76 Tryz.underlying5 Tryz.underlying9 w1 w.heap.size v' _ (pre ++ [UInt8.ofNat m]) (by simpa [vals, show m % 256 = m from by omega] using h)
   go_wp2_with (at_builtin; go_must (refine append1 _ 76 5 (.int .u8 0) 1 w.heap.size Tryz.underlying76 info_u8c rfl rfl _ _ rfl _ _ _ _ _ (hown.alloc _) rfl rfl (one_new _ _ _) rfl b1 b2 (by simp; omega) ?_); intro v' w1 hown1 hg1; have hcv := hcv v' w1 hown1)
   go_ret
   refine ⟨ret_eq (str_eq ?_), (hbel.alloc hsz _).grown hg1 (by simp; omega) (fun k hk => (hown.lt k hk).1)⟩
   rw [HU.out, uns_last HL.out]
end Go.Proofs.YtjjpdnpbhdcpbaaGreat
namespace Go.Proofs.YtjjpdnpbhdcpbaaGreat
set_option linter.unusedVariables false
open Go.RowKit
theorem info_byte : (Tryz.prog.info? 5).map (fun i => (i.zero, i.size, i.bytes)) = some (some (.int .u8 0), 1, 1) := by kernel_rfl
theorem size_builder : (Tryz.prog.info? 134).map (fun i => i.size) = some 2 := by kernel_rfl
theorem cells_byte : Tryz.prog.cellsOf 5 = 1 := by kernel_rfl
theorem lies_builder : liesAt Tryz.prog Tryz.prog.depth 134 (2 / Tryz.prog.cellsOf 134) 0 134 1 = true := by kernel_rfl
def Bu (B b : Nat) (l : List UInt8) (w : World) : Prop := Lib.IsBuilderF 134 5 B b (vals l) w
theorem Bu.parts {B b : Nat} {l : List UInt8} {w : World} (h : Bu B b l w) : ∃ p, (p = .pointer none ∨ p = .pointer (some ⟨b, 0, none⟩)) ∧ Lib.BuilderAtF 134 5 B b p (vals l) w := by
 rcases h with h | h
 ·exact ⟨_, .inl rfl, h⟩
 ·exact ⟨_, .inr rfl, h⟩
theorem Bu.of_parts {B b : Nat} {l : List UInt8} {w : World} {p : Value} (hp : p = .pointer none ∨ p = .pointer (some ⟨b, 0, none⟩)) (h : Lib.BuilderAtF 134 5 B b p (vals l) w) : Bu B b l w := by
 rcases hp with rfl | rfl
 ·exact .inl h
 ·exact .inr h
theorem Bu.new (w : World) : Bu w.heap.size w.heap.size [] (w.alloc (.cells #[.pointer none, .slice none 0 0] 134)) :=
 Lib.IsBuilderF.of (Lib.fresh_isBuilder _ _ w)
theorem Bu.mod {S : Nat → Prop} {B b : Nat} {l : List UInt8} {w w' : World} (h : Bu B b l w) (hm : Mod S w w') (hs : ∀ k, B ≤ k → ¬ S k) : Bu B b l w' := by
 obtain ⟨p, hp, hB, v, hbk, hown, hne⟩ := h.parts
 refine Bu.of_parts hp ⟨hB, v, ?_, ?_, hne⟩
 ·exact (hm.block b (by
   rcases Nat.lt_or_ge b w.heap.size with h' | h'
   ·exact h'
   ·simp [Array.getElem?_eq_none h'] at hbk) (hs b hB)).trans hbk
 ·refine ⟨hown.1, ?_⟩
  rcases hown.2 with h2 | ⟨g, cap, cur, fz, rfl, hg, hh, r⟩
  ·exact .inl h2
  ·exact .inr ⟨g, cap, cur, fz, rfl, hg, (hm.block g (hown.lt g rfl).2 (hs g hg)).trans hh, r⟩
theorem Bu.below {B b : Nat} {l : List UInt8} {w w' : World} (h : Bu B b l w) (hb : Below w.heap.size w w') : Bu B b l w' := h.mod (Mod.of_below hb (fun _ => False)) (fun _ _ h => h)
set_option maxHeartbeats 400000 in
set_option maxRecDepth 20000 in
theorem copyCheck_spec (B b : Nat) (l : List UInt8) (w : World) (h : Bu B b l w) :
 Calls Tryz.prog 157 #[.pointer (some ⟨b, 0, none⟩)] w fun e w' => e = .returned (.tuple #[]) ∧ Lib.BuilderAtF 134 5 B b (.pointer (some ⟨b, 0, none⟩)) (vals l) w' ∧ Below B w w' := by
 obtain ⟨p, hp, hA⟩ := h.parts
 obtain ⟨j, hj, hjs⟩ := Option.map_eq_some_iff.1 size_builder
 rcases hp with rfl | rfl
 ·have hres := hA.used (.pointer (some ⟨b, 0, none⟩))
  have hBb := hA.1
  have h0 := hA.cell0
  have hsh := hA.shape
  have hf := hA.frozen0
  have k1 := Lib.run_to_unsafe (P := Tryz.prog) w ⟨b, 0, none⟩ Tryz.underlying132 Tryz.underlying198 hj (by rw [hjs]; decide) hsh (Nat.zero_lt_succ 1)
  have k2 := Lib.run_from_unsafe (P := Tryz.prog) w ⟨b, 0, none⟩ Tryz.underlying198 Tryz.underlying132 hj hsh lies_builder
  clear hA hsh h
  go_enter Tryz.func157, Tryz.ntmps157
  go_wp2
  rw [run_callFunc_extern Tryz.func184 (by kernel_rfl) (by kernel_rfl) (by kernel_rfl) (e := Extern.AbiNoEscape.same) (by kernel_rfl)]
  rw [Lib.run_noEscape]
  simp only [Result.andThen]
  rw [Oper.upon_value]
  go_wp2
  go_end0
  exact ⟨rfl, hres, (Below.refl B w).setCell (p := ⟨b, 0, none⟩) hBb _⟩
 ·have h0 := hA.cell0
  have k1 := Lib.run_neq_ptr_same (P := Tryz.prog) w ⟨b, 0, none⟩ Tryz.underlying132 hj
  have HA := Lib.hid hA; clear hA h
  go_enter Tryz.func157, Tryz.ntmps157
  go_wp2
  go_end0
  exact ⟨rfl, HA.out, Below.refl B w⟩
set_option maxHeartbeats 400000 in
set_option maxRecDepth 20000 in
theorem bu_write (B b : Nat) (l s : List UInt8) (w : World) (h : Bu B b l w) (hlen : l.length + s.length ≤ 140737488355328) (hBw : B ≤ w.heap.size) :
 Calls Tryz.prog 111 #[.pointer (some ⟨b, 0, none⟩), .string ⟨s.toArray⟩] w fun e w' => e = .returned (.tuple #[.int .i64 s.length, .nilIface]) ∧ Bu B b (l ++ s) w' ∧ Below B w w' := by
 obtain ⟨i0, hi, hz0, hz1, hz2⟩ := info_parts info_byte
 have hbs := bytes_size s
 go_enter Tryz.func111, Tryz.ntmps111
 go_wp2_with (go_at_call 157; refine (copyCheck_spec B b l _ h).mono ?_)
 rintro e w1 ⟨rfl, h1, hb1⟩
 obtain ⟨hB, v, hbk, hown, hne⟩ := h1
 have c0 : w1.cell? ⟨b, 0, none⟩ = some (.pointer (some ⟨b, 0, none⟩)) := by rw [Lib.cell_of_heap hbk]; rfl
 have c1 : w1.cell? ⟨b, 1, none⟩ = some v := by rw [Lib.cell_of_heap hbk]; rfl
 rw [vals_length] at hown
 have hsz := hb1.size
 have HS := Lib.hid hbs; clear hbs
 go_wp2_with (at_builtin; go_must (refine Lib.wpList_append_own_stringF _ rfl _ _ 76 9 rfl B 5 i0 Tryz.underlying76 Tryz.underlying9 hi hz0 hz1 hz2 _ _ _ rfl hown ⟨s.toArray⟩ rfl (by rw [HS.out]; unfold maxLen; omega) (by rw [HS.out]; omega) (by omega) ?_))
 intro v' w2 hown' hgrow _
 have hlt : b < w1.heap.size := by
  rcases Nat.lt_or_ge b w1.heap.size with h' | h'
  ·exact h'
  ·simp [Array.getElem?_eq_none h'] at hbk
 have hb2 : w2.heap[b]? = some (.cells #[.pointer (some ⟨b, 0, none⟩), v] 134 (0, 0)) := by
  rw [hgrow.block b hlt (fun e => hne e.symm)]
  exact hbk
 have d0 : w2.cell? ⟨b, 0, none⟩ = some (.pointer (some ⟨b, 0, none⟩)) := by rw [Lib.cell_of_heap hb2]; rfl
 have d1 : w2.cell? ⟨b, 1, none⟩ = some v := by rw [Lib.cell_of_heap hb2]; rfl
 have f1 : w2.frozen? ⟨b, 1, none⟩ = false := Lib.frozen_of_heap hb2 1
 obtain ⟨ao, n', cap, rfl⟩ : ∃ ao n' cap, v' = .slice ao n' cap := by
  rcases hown'.2 with ⟨hv, _⟩ | ⟨g, cap, cur, fz, hv, _⟩
  ·exact ⟨_, _, _, hv⟩
  ·exact ⟨_, _, _, hv⟩
 go_wp2
 go_ret2
 refine ⟨?_, ?_, ?_⟩
 ·refine ret_eq ?_
  simp
 ·refine Bu.of_parts (.inr rfl) (Lib.BuilderAtF.put (T := 134) (e := 5) hB hb2 (bs' := vals (l ++ s)) ?_ (by decide))
  simpa [vals, Lib.strCells] using hown'
 ·exact (hb1.grown hgrow (by omega) (fun k hk => (hown.lt k hk).1)).setCell (p := ⟨b, 1, none⟩) hB _
set_option maxHeartbeats 400000 in
set_option maxRecDepth 20000 in
theorem bu_string (B b : Nat) (l : List UInt8) (w : World) (h : Bu B b l w) (hBw : B ≤ w.heap.size) :
 Calls Tryz.prog 114 #[.pointer (some ⟨b, 0, none⟩)] w fun e w' => e = .returned (.string ⟨l.toArray⟩) ∧ Bu B b l w' ∧ Below B w w' := by
 obtain ⟨p, hp, hA⟩ := h.parts
 have hA' := hA
 obtain ⟨hB, v, hbk, hown, hne⟩ := hA'
 rw [vals_length] at hown
 have hown2 := hown
 obtain ⟨hxl, hcase⟩ := hown2
 by_cases hl0 : l = []
 ·subst hl0
  have hUS : ∀ q W, (Builtin.unsafeString_ #[179, 3] 9 #[.pointer q, .int .i64 0]).run Tryz.prog W = .ok (.string ⟨#[]⟩) W := fun q W => Lib.run_unsafeString_none (P := Tryz.prog) W _ _ _ q
  have hlt : b < w.heap.size := hA.lt
  rcases hcase with ⟨rfl, _⟩ | ⟨g, cap, cur, fz, rfl, hbg, hg, hfz, hnc, hcm, hcs, htake⟩
  ·have c1 : w.drew.cell? ⟨b, 1, none⟩ = some (.slice none 0 0) := by
    have : w.drew.heap[b]? = some (.cells #[p, .slice none 0 0] 134 (0, 0)) := hbk
    rw [Lib.cell_of_heap this]; rfl
   have hSD : (Builtin.unsafeSliceData_ #[76] 179 #[.slice none 0 0]).run Tryz.prog w.drew = .ok (.pointer none) w.drew := rfl
   have HB := Lib.hid hbk; clear hbk
   have HH := Lib.hid h; clear h
   clear hown hA hxl
   go_enter Tryz.func114, Tryz.ntmps114
   go_wp2
   go_region
   all_goals (go_wp2; go_ret; exact ⟨rfl, HH.out.mod (Mod.drew (Mod.refl (fun _ => False) w)) (fun _ _ h => h), Below.drew (Below.refl B w)⟩)
  ·by_cases hc0 : cap = 0
   ·subst hc0
    have c1 : w.drew.cell? ⟨b, 1, none⟩ = some (.slice (some ⟨g, 0, none⟩) 0 0) := by
     have : w.drew.heap[b]? = some (.cells #[p, .slice (some ⟨g, 0, none⟩) 0 0] 134 (0, 0)) := hbk
     rw [Lib.cell_of_heap this]; rfl
    have hSD : (Builtin.unsafeSliceData_ #[76] 179 #[.slice (some ⟨g, 0, none⟩) 0 0]).run Tryz.prog w.drew = .ok (.pointer (some ⟨w.drew.heap.size, 0, none⟩)) (w.drew.alloc (.view ⟨g, 0, none⟩ 5)) :=
     Lib.run_unsafeSliceData_zero w.drew _ _ 5 Tryz.underlying179 ⟨g, 0, none⟩ 0 (5, cur.size) (by have hg' : w.drew.heap[g]? = some (.cells cur 5 fz) := hg; simp [World.shape?, hg'])
    have c2 : (w.drew.alloc (.view ⟨g, 0, none⟩ 5)).cell? ⟨b, 1, none⟩ = some (.slice (some ⟨g, 0, none⟩) 0 0) := by
     have : (w.drew.alloc (.view ⟨g, 0, none⟩ 5)).heap[b]? = _ := (Lib.alloc_old w.drew _ b hlt).trans hbk
     rw [Lib.cell_of_heap this]; rfl
    have c3 : (w.alloc (.view ⟨g, 0, none⟩ 5)).drew.cell? ⟨b, 1, none⟩ = some (.slice (some ⟨g, 0, none⟩) 0 0) := c2
    have c0 : w.cell? ⟨b, 1, none⟩ = some (.slice (some ⟨g, 0, none⟩) 0 0) := c1
    have HB := Lib.hid hbk; clear hbk
    have HH := Lib.hid h; clear h
    clear hown hA hxl hg
    go_enter Tryz.func114, Tryz.ntmps114
    go_wp2
    go_region
    all_goals (go_wp2; go_ret; exact ⟨rfl, HH.out.mod ((Mod.drew (Mod.refl (fun _ => False) w)).alloc _) (fun _ _ h => h), (Below.drew (Below.refl B w)).alloc hBw _⟩)
   ·have c1 : w.drew.cell? ⟨b, 1, none⟩ = some (.slice (some ⟨g, 0, none⟩) 0 cap) := by
     have : w.drew.heap[b]? = some (.cells #[p, .slice (some ⟨g, 0, none⟩) 0 cap] 134 (0, 0)) := hbk
     rw [Lib.cell_of_heap this]; rfl
    have hSD : (Builtin.unsafeSliceData_ #[76] 179 #[.slice (some ⟨g, 0, none⟩) 0 cap]).run Tryz.prog w.drew = .ok (.pointer (some ⟨g, 0, none⟩)) w.drew :=
     Lib.run_unsafeSliceData_row _ _ _ _ _ _ hc0
    have HB := Lib.hid hbk; clear hbk
    have HH := Lib.hid h; clear h
    clear hown hA hxl hg hc0 htake hcs hfz
    go_enter Tryz.func114, Tryz.ntmps114
    go_wp2
    go_region
    all_goals (go_wp2; go_ret; exact ⟨rfl, HH.out.mod (Mod.drew (Mod.refl (fun _ => False) w)) (fun _ _ h => h), Below.drew (Below.refl B w)⟩)
 ·have hlen : l.length ≠ 0 := by simpa using hl0
  obtain ⟨g, cap, cur, fz, rfl, hbg, hg, hfz, hnc, hcm, hcs, htake⟩ : ∃ g cap cur fz, v = .slice (some ⟨g, 0, none⟩) l.length cap ∧ B ≤ g ∧ w.heap[g]? = some (.cells cur 5 fz) ∧ fz.2 ≤ l.length * 1 ∧ l.length ≤ cap ∧ cap ≤ maxLen ∧ cur.size = cap * 1 ∧ cur.toList.take (l.length * 1) = vals l := by
   rcases hcase with ⟨_, hz⟩ | ⟨g, cap, cur, fz, hv, r⟩
   ·exact absurd hz hlen
   ·exact ⟨g, cap, cur, fz, hv, r⟩
  have c1 : w.drew.cell? ⟨b, 1, none⟩ = some (.slice (some ⟨g, 0, none⟩) l.length cap) := by
   have : w.drew.heap[b]? = some (.cells #[p, .slice (some ⟨g, 0, none⟩) l.length cap] 134 (0, 0)) := hbk
   rw [Lib.cell_of_heap this]; rfl
  have hSD : (Builtin.unsafeSliceData_ #[76] 179 #[.slice (some ⟨g, 0, none⟩) l.length cap]).run Tryz.prog w.drew = .ok (.pointer (some ⟨g, 0, none⟩)) w.drew :=
   Lib.run_unsafeSliceData_row _ _ _ _ _ _ (by omega)
  have hUS : (Builtin.unsafeString_ #[179, 3] 9 #[.pointer (some ⟨g, 0, none⟩), .int .i64 l.length]).run Tryz.prog w.drew = .ok (.string ⟨l.toArray⟩) (w.drew.freeze ⟨g, 0, none⟩ l.length) := by
   refine Lib.run_unsafeString_row w.drew 179 3 9 5 Tryz.underlying179 cells_byte g cur.size (by have hg' : w.drew.heap[g]? = some (.cells cur 5 fz) := hg; simp [World.shape?, hg']) l hl0 (by omega) (by unfold maxLen at hcm; omega) ?_
   intro j x hx
   have := hown.cells (g := g) rfl j (.int .u8 x.toNat) (by simp [vals, hx])
   exact this
  have hkeep : Bu B b l (w.drew.freeze ⟨g, 0, none⟩ l.length) := by
   have hF := hA.drew.froze (g := g) (cap := cap) (by rw [vals_length]; exact c1)
   rw [vals_length] at hF
   exact Bu.of_parts hp hF
  have HK := Lib.hid hkeep; clear hkeep
  clear hown hA h hbk hg hfz hcm hcs htake hxl hl0 hne hcase hnc hlen
  go_enter Tryz.func114, Tryz.ntmps114
  go_wp2
  go_region
  all_goals (go_wp2; go_ret; exact ⟨rfl, HK.out, Lib.below_freeze (Below.drew (Below.refl B w)) (p := ⟨g, 0, none⟩) hbg _⟩)
end Go.Proofs.YtjjpdnpbhdcpbaaGreat
namespace Go.Proofs.YtjjpdnpbhdcpbaaGreat
set_option linter.unusedVariables false
open Go.RowKit
theorem uint_pos (n : Nat) (h1 : n < 9223372036854775808) (w : World) :
 Calls Tryz.prog 119 #[.int .i64 n] w fun e w' => e = .returned (.tuple #[.string ⟨(Cd.uns n).toArray⟩, .int .i64 0]) ∧ Below w.heap.size w w' := by
 have hb : (n : Int) ≤ 9223372036854775807 := by omega
 have hu := fun w => unsigned_spec n (by omega) w
 go_enter Tryz.func119, Tryz.ntmps119
 go_wp2_with (go_at_call 120; go_must (refine (hu _).mono ?_); rintro e w' ⟨rfl, hb1⟩)
 go_ret2
 exact ⟨rfl, hb1⟩
theorem ruint_pos (n : Nat) (h1 : n < 9223372036854775808) (w : World) :
 Calls Tryz.prog 124 #[.int .i64 n] w fun e w' => e = .returned (.tuple #[.string ⟨(Cd.uns n).toArray⟩, .int .i64 0]) ∧ Below w.heap.size w w' := by
 have hb : (n : Int) ≤ 9223372036854775807 := by omega
 have hu := fun w => unsigned_ref n (by omega) w
 go_enter Tryz.func124, Tryz.ntmps124
 go_wp2_with (go_at_call 125; go_must (refine (hu _).mono ?_); rintro e w' ⟨rfl, hb1⟩)
 go_ret2
 exact ⟨rfl, hb1⟩
set_option maxHeartbeats 400000 in
theorem text_spec (s : List UInt8) (hs : s.length ≤ 1099511627776) (w : World) :
 Calls Tryz.prog 69 #[.string ⟨s.toArray⟩] w fun e w' => e = .returned (.string ⟨(Cd.text s).toArray⟩) ∧ Below w.heap.size w w' := by
 have hu := fun w => unsigned_spec s.length (by omega) w
 have hl := Cd.uns_len s.length
 go_enter Tryz.func69, Tryz.ntmps69
 go_wp2_with (go_at_call 120; go_must (refine (hu _).mono ?_); rintro e w' ⟨rfl, hb1⟩)
 go_ret
 exact ⟨ret_eq (by simp [bytes_append, Cd.text]), hb1⟩
theorem text_len (s : List UInt8) : (Cd.text s).length = (Cd.uns s.length).length + s.length := by simp [Cd.text]
theorem body_take (L : List (List UInt8)) (k : Nat) (h : k < L.length) : Cd.body (L.take (k + 1)) = Cd.body (L.take k) ++ Cd.text L[k] := by
 rw [List.take_succ_eq_append_getElem h, Cd.body_append]; simp [Cd.body]
theorem body_take_le (L : List (List UInt8)) (k : Nat) : (Cd.body (L.take k)).length ≤ (Cd.body L).length := by
 have : Cd.body L = Cd.body (L.take k) ++ Cd.body (L.drop k) := by rw [← Cd.body_append, List.take_append_drop]
 rw [this]; simp
theorem cadd_spec (B b : Nat) (l s : List UInt8) (w : World) (h : Bu B b l w) (hlen : l.length + s.length ≤ 140737488355328) (hBw : B ≤ w.heap.size) :
 Calls Tryz.prog 162 #[.string ⟨s.toArray⟩, .pointer (some ⟨b, 0, none⟩)] w fun e w' => e = .returned (.tuple #[]) ∧ Bu B b (l ++ s) w' ∧ Below B w w' := by
 go_enter Tryz.func162, Tryz.ntmps162
 go_wp2_with (go_at_call 111; go_must (refine (bu_write B b l s _ h hlen hBw).mono ?_); rintro e w' ⟨rfl, hb1, hb2⟩)
 go_end0
 exact ⟨rfl, hb1, hb2⟩
set_option maxHeartbeats 1000000 in
theorem each_spec (B b : Nat) (A : Option Addr) (L : List (List UInt8)) (c : Nat) (acc : List UInt8) (w : World) (hR : Rd w A (strs L)) (hA : 0 < L.length → ∀ p, A = some p → p.block < B) (h : Bu B b acc w) (hBw : B ≤ w.heap.size)
 (hlen : acc.length + (Cd.body L).length ≤ 1099511627776) (hL : L.length ≤ 1099511627776) :
 Calls Tryz.prog 161 #[.slice A L.length c, .func (.func 69) #[] #[], .func (.func 162) #[] #[.pointer (some ⟨b, 0, none⟩)]] w fun e w' => e = .returned (.tuple #[]) ∧ Bu B b (acc ++ Cd.body L) w' ∧ Below B w w' := by
 go_enter Tryz.func161, Tryz.ntmps161
 go_wp2
 go_loopw [10, 7] (fun i _ wr => ∃ k : Nat, k ≤ L.length ∧ i = .int .i64 k ∧ Bu B b (acc ++ Cd.body (L.take k)) wr ∧ Below B w wr) (fun i _ _ => L.length - (intOf i).toNat)
 case atStart => exact ⟨0, Nat.zero_le _, rfl, by simpa [Cd.body] using h, Below.refl _ _⟩
 case round =>
  obtain ⟨k, hk, rfl, hbu, hbel⟩ := hrel
  by_cases hlt : k < L.length
  ·have hbt := body_take L k hlt
   have hle := body_take_le L (k + 1)
   rw [hbt] at hle
   simp only [List.length_append] at hle
   have htl := text_len L[k]
   obtain ⟨b0, off, rfl, hc⟩ : ∃ b0 off, A = some ⟨b0, off, none⟩ ∧ w.cell? ⟨b0, off + k, none⟩ = some (.string ⟨L[k].toArray⟩) := by
    rcases hR with hR | ⟨b0, off, hA', hc⟩
    ·have := congrArg List.length hR; rw [strs_length, List.length_nil] at this; omega
    ·exact ⟨b0, off, hA', by have := hc k (by simpa [strs] using hlt); rwa [strs_get] at this⟩
   have hc' : wr.cell? ⟨b0, off + k, none⟩ = some (.string ⟨L[k].toArray⟩) := (hbel.cell (p := ⟨b0, off + k, none⟩) (hA (by omega) ⟨b0, off, none⟩ rfl)).trans hc
   have ht := fun w => text_spec L[k] (by omega) w
   have hsz := hbel.size
   have ha := fun w1 (hb1 : Below wr.heap.size wr w1) => cadd_spec B b _ (Cd.text L[k]) w1 (hbu.below hb1) (by simp only [List.length_append]; omega) (by have := hb1.size; omega)
   have H1 := Lib.hid hbt; have H2 := Lib.hid hle; have H3 := Lib.hid htl
   clear hbt hle htl hc hR hA h
   go_wp2_with (first | (go_at_call 69; go_must (refine (ht _).mono ?_); rintro e w1 ⟨rfl, hb1⟩) | (go_at_call 162; go_must (refine (ha _ hb1).mono ?_); rintro e w2 ⟨rfl, hbu2, hb2⟩))
   go_roundw
   case rel => exact ⟨k + 1, by omega, by go_num, by rw [H1.out]; simpa using hbu2, (hbel.trans (hb1.mono (by omega))).trans hb2⟩
   case measure => simp [intOf]; omega
  ·obtain rfl : k = L.length := by omega
   go_wp2
   go_end0
   exact ⟨rfl, by simpa using hbu, hbel⟩
end Go.Proofs.YtjjpdnpbhdcpbaaGreat
namespace Go.Proofs.YtjjpdnpbhdcpbaaGreat
set_option linter.unusedVariables false
open Go.RowKit
set_option maxHeartbeats 1000000 in
theorem texts_spec (A : Option Addr) (L : List (List UInt8)) (c : Nat) (w : World) (hR : Rd w A (strs L))
 (hlen : (Cd.body L).length ≤ 1000000000000) (hL : L.length ≤ 1000000000000) :
 Calls Tryz.prog 118 #[.slice A L.length c] w fun e w' => e = .returned (.string ⟨(Cd.texts L).toArray⟩) ∧ Below w.heap.size w w' := by
 have hu := fun w => unsigned_spec L.length (by omega) w
 have hl := Cd.uns_len L.length
 have hbu0 := Bu.new w
 have hA : 0 < L.length → ∀ p, A = some p → p.block < w.heap.size := fun h0 p hp => by
  obtain ⟨q, hq, hlt⟩ := hR.lt (fun e => by have := congrArg List.length e; rw [strs_length] at this; simp at this; subst this; simp at h0)
  rw [hp] at hq; injection hq with hq; subst hq; exact hlt
 have HA := Lib.hid hA; clear hA
 go_enter Tryz.func118, Tryz.ntmps118
 go_wp2_with fail
 go_must (refine (hu _).mono ?_)
 rintro e w1 ⟨rfl, hb1⟩
 have hbel1 : Below w.heap.size w w1 := ((Below.refl _ w).alloc (Nat.le_refl _) _).trans (hb1.mono (by simp))
 have hbu1 := hbu0.below hb1
 have hs1 := hbel1.size
 go_wp2_with fail
 go_must (refine (bu_write _ _ _ (Cd.uns L.length) _ hbu1 (by simp; omega) (by omega)).mono ?_)
 rintro e w2 ⟨rfl, hbu2, hb2⟩
 have hs2 := hb2.size
 have hbel2 := hbel1.trans hb2
 go_wp2_with fail
 go_must (refine (each_spec w.heap.size w.heap.size A L c _ w2 ((hR.mod (Mod.of_below hbel2 (fun _ => False)) (fun _ _ h => h))) HA.out hbu2 (by omega) (by simp; omega) (by omega)).mono ?_)
 rintro e w3 ⟨rfl, hbu3, hb3⟩
 have hs3 := hb3.size
 go_wp2_with fail
 go_must (refine (bu_string _ _ _ _ hbu3 (by omega)).mono ?_)
 rintro e w4 ⟨rfl, hbu4, hb4⟩
 go_wp2
 go_ret
 exact ⟨ret_eq (by simp [Cd.texts]), (hbel2.trans hb3).trans hb4⟩
end Go.Proofs.YtjjpdnpbhdcpbaaGreat
namespace Go.Proofs.YtjjpdnpbhdcpbaaGreat
set_option linter.unusedVariables false
namespace Cd
theorem readUns_at (pre post : List UInt8) (n : Nat) (h : n < 2 ^ 64) : readUns (pre ++ (uns n ++ post)) pre.length = some (n, pre.length + (uns n).length) := by
 unfold readUns
 rw [List.drop_left, dec_uns n post h]
 rfl
theorem readUint_at (pre post : List UInt8) (n : Nat) (h : n < 2 ^ 63) : readUint (pre ++ (uns n ++ post)) pre.length = some (n, pre.length + (uns n).length) := by
 unfold readUint
 rw [readUns_at pre post n (by omega)]
 exact if_pos h
theorem readText_at (pre post s : List UInt8) (h : s.length < 2 ^ 63) : readText (pre ++ (text s ++ post)) pre.length = some (s, pre.length + (text s).length) := by
 unfold readText
 have e : pre ++ (text s ++ post) = pre ++ (uns s.length ++ (s ++ post)) := by simp [text]
 rw [e, readUint_at pre (s ++ post) s.length h]
 simp only []
 have e2 : (pre ++ (uns s.length ++ (s ++ post))).drop (pre.length + (uns s.length).length) = s ++ post := by
  rw [← List.append_assoc, ← List.length_append, List.drop_left]
 rw [if_pos (by simp; omega), e2]
 simp [text]
 omega
theorem readMany_at (post : List UInt8) : ∀ (L : List (List UInt8)) (pre : List UInt8), (∀ s ∈ L, s.length < 2 ^ 63) → readMany (pre ++ (body L ++ post)) L.length pre.length = some (L, pre.length + (body L).length)
 | [], pre, _ => by simp [readMany, body]
 | s :: L, pre, h => by
   have e : pre ++ (body (s :: L) ++ post) = pre ++ (text s ++ (body L ++ post)) := by simp [body_cons]
   rw [List.length_cons, readMany, e, readText_at pre (body L ++ post) s (h s (by simp))]
   simp only []
   have e2 : pre ++ (text s ++ (body L ++ post)) = (pre ++ text s) ++ (body L ++ post) := by simp
   rw [e2, ← List.length_append, readMany_at post L (pre ++ text s) (fun x hx => h x (by simp [hx]))]
   simp [body_cons]
   omega
theorem body_ge : ∀ L : List (List UInt8), L.length ≤ (body L).length
 | [] => by simp
 | s :: L => by
   have := uns_pos s.length
   have := body_ge L
   rw [body_cons]
   simp [text]
   omega
theorem readTexts_at (pre post : List UInt8) (L : List (List UInt8)) (h : ∀ s ∈ L, s.length < 2 ^ 63) (hL : L.length < 2 ^ 63) : readTexts (pre ++ (texts L ++ post)) pre.length = some (L, pre.length + (texts L).length) := by
 unfold readTexts
 have e : pre ++ (texts L ++ post) = pre ++ (uns L.length ++ (body L ++ post)) := by simp [texts]
 rw [e, readUint_at pre (body L ++ post) L.length hL]
 simp only []
 have := body_ge L
 rw [if_pos (by simp; omega)]
 have e2 : pre ++ (uns L.length ++ (body L ++ post)) = (pre ++ uns L.length) ++ (body L ++ post) := by simp
 rw [e2, ← List.length_append, readMany_at post L (pre ++ uns L.length) h]
 simp [texts]
 omega
end Cd
end Go.Proofs.YtjjpdnpbhdcpbaaGreat
