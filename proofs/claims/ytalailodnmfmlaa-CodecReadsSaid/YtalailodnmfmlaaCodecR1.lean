/-
  What the program's reader reads of a number: scan, size. Conditions: the offset lies in the string, the string has at most 2^40 bytes.
-/
import Derived.Test.YtalailodnmfmlaaProg
import Derived.Test.YtalailodnmfmlaaCodecMath
namespace Go.Proofs.Ytalailodnmfmlaa
set_option linter.unusedVariables false
open Go.RowKit

/-- the reader in block r: its string, its offset, its error -/
def Rr (w : World) (r : Nat) (s : List UInt8) (at_ : Nat) (e : Int) : Prop := Blk w r 71 #[.string ⟨s.toArray⟩, .int .i64 at_, .int .i64 e]
theorem Rr.c0 {w : World} {r : Nat} {s : List UInt8} {at_ : Nat} {e : Int} (h : Rr w r s at_ e) : w.cell? ⟨r, 0, none⟩ = some (.string ⟨s.toArray⟩) := by simpa using Blk.cell h 0
theorem Rr.c1 {w : World} {r : Nat} {s : List UInt8} {at_ : Nat} {e : Int} (h : Rr w r s at_ e) : w.cell? ⟨r, 1, none⟩ = some (.int .i64 at_) := by simpa using Blk.cell h 1
theorem Rr.c2 {w : World} {r : Nat} {s : List UInt8} {at_ : Nat} {e : Int} (h : Rr w r s at_ e) : w.cell? ⟨r, 2, none⟩ = some (.int .i64 e) := by simpa using Blk.cell h 2

/-- what scan answers -/
def ScanP (o : Option (Nat × Nat)) (e : Ending) : Prop :=
  match o with
  | some (n, next) => e = .returned (.tuple #[.int .u64 n, .int .i64 next, .bool true])
  | none => ∃ x y : Nat, x < 18446744073709551616 ∧ y ≤ 2199023255552 ∧ e = .returned (.tuple #[.int .u64 x, .int .i64 y, .bool false])

theorem pow7 (k : Nat) (hk : k ≤ 9) : 2 ^ (7 * k) ≤ 9223372036854775808 := by
  have : 2 ^ (7 * k) ≤ 2 ^ 63 := Nat.pow_le_pow_right (by decide) (by omega)
  exact this
theorem u8_and127 (x : Nat) (hx : x < 256) : bits BinOp.and IntKind.u8 (x : Int) 127 = ((x % 128 : Nat) : Int) := by
  have h : ∀ r : Fin 256, bits BinOp.and IntKind.u8 ((r.val : Nat) : Int) 127 = ((r.val % 128 : Nat) : Int) := by decide +kernel
  exact h ⟨x, hx⟩
theorem orStep (acc k x : Nat) (hacc : acc < 2 ^ (7 * k)) (hx : x < 256) (h : k ≤ 8 ∨ (k = 9 ∧ x ≤ 1)) :
    bits BinOp.or IntKind.u64 (acc : Int) (IntKind.u64.wrap (IntKind.u64.wrap (bits BinOp.and IntKind.u8 (x : Int) 127) * 2 ^ (7 * k))) = ((acc + 2 ^ (7 * k) * (x % 128) : Nat) : Int) := by
  rw [u8_and127 x hx]
  have hp := pow7 k (by omega)
  have hm : x % 128 * 2 ^ (7 * k) < 18446744073709551616 := by
    rcases h with h | ⟨rfl, h⟩
    · have h2 : 2 ^ (7 * k) ≤ 2 ^ 56 := Nat.pow_le_pow_right (by decide) (by omega)
      calc x % 128 * 2 ^ (7 * k) ≤ 128 * 2 ^ 56 := Nat.mul_le_mul (by omega) h2
        _ < 18446744073709551616 := by decide
    · have : x % 128 ≤ 1 := by omega
      calc x % 128 * 2 ^ (7 * 9) ≤ 1 * 2 ^ (7 * 9) := Nat.mul_le_mul_right _ this
        _ < 18446744073709551616 := by decide
  have e1 : IntKind.u64.wrap ((x % 128 : Nat) : Int) = ((x % 128 : Nat) : Int) := by rw [IntKind.wrap_u64]; omega
  have e2 : ((x % 128 : Nat) : Int) * 2 ^ (7 * k) = ((x % 128 * 2 ^ (7 * k) : Nat) : Int) := by simp
  have e3 : IntKind.u64.wrap ((x % 128 * 2 ^ (7 * k) : Nat) : Int) = ((x % 128 * 2 ^ (7 * k) : Nat) : Int) := by rw [IntKind.wrap_u64]; omega
  rw [e1, e2, e3, u64_or_nat acc _ (by omega) hm, Nat.or_comm, nat_join (7 * k) _ acc (by simp) hacc]
  congr 1
  rw [Nat.mul_comm, Nat.add_comm]

theorem scan_last {s r : List UInt8} {at_ k acc : Nat} {b : UInt8} (HD : Cd.dec (s.drop at_) = (Cd.decF (10 - k) k (s.drop (at_ + k))).map (fun q => (acc + 2 ^ (7 * k) * q.1, q.2 + k)))
    (HDR : s.drop (at_ + k) = b :: r) (hk : k ≤ 9) (h9 : ¬ (k = 9 ∧ 1 < b.toNat)) (hb : b.toNat < 128) (h0 : 0 < b.toNat ∨ k = 0) : Cd.readUns s at_ = some (acc + 2 ^ (7 * k) * (b.toNat % 128), at_ + k + 1) := by
  unfold Cd.readUns
  rw [HD, HDR, show 10 - k = (9 - k) + 1 from by omega, Cd.decF, if_neg h9, if_pos hb, if_pos h0]
  simp
  exact ⟨by rw [Nat.mod_eq_of_lt hb], by omega⟩
theorem scan_none {s r : List UInt8} {at_ k acc : Nat} {b : UInt8} (HD : Cd.dec (s.drop at_) = (Cd.decF (10 - k) k (s.drop (at_ + k))).map (fun q => (acc + 2 ^ (7 * k) * q.1, q.2 + k)))
    (HDR : s.drop (at_ + k) = b :: r) (hk : k ≤ 9) (h9 : (k = 9 ∧ 1 < b.toNat) ∨ (b.toNat = 0 ∧ 0 < k)) : Cd.readUns s at_ = none := by
  unfold Cd.readUns
  rw [HD, HDR, show 10 - k = (9 - k) + 1 from by omega, Cd.decF]
  rcases h9 with h9 | ⟨h9, hk0⟩
  · rw [if_pos h9]; rfl
  · rw [if_neg (by omega), if_pos (by omega), if_neg (by omega)]; rfl
theorem scan_end {s : List UInt8} {at_ k acc : Nat} (HD : Cd.dec (s.drop at_) = (Cd.decF (10 - k) k (s.drop (at_ + k))).map (fun q => (acc + 2 ^ (7 * k) * q.1, q.2 + k)))
    (hk : k ≤ 9) (hlt : ¬ at_ + k < s.length) : Cd.readUns s at_ = none := by
  unfold Cd.readUns
  rw [HD, List.drop_eq_nil_of_le (by omega), show 10 - k = (9 - k) + 1 from by omega, Cd.decF]; rfl
theorem scan_more {s : List UInt8} {at_ k acc : Nat} {b : UInt8} (HD : Cd.dec (s.drop at_) = (Cd.decF (10 - k) k (s.drop (at_ + k))).map (fun q => (acc + 2 ^ (7 * k) * q.1, q.2 + k)))
    (HDR : s.drop (at_ + k) = b :: s.drop (at_ + (k + 1))) (hk : k ≤ 8) (hb : ¬ b.toNat < 128) :
    Cd.dec (s.drop at_) = (Cd.decF (10 - (k + 1)) (k + 1) (s.drop (at_ + (k + 1)))).map (fun q => ((acc + 2 ^ (7 * k) * (b.toNat % 128)) + 2 ^ (7 * (k + 1)) * q.1, q.2 + (k + 1))) := by
  rw [HD, HDR, show 10 - k = (9 - k) + 1 from by omega, Cd.decF, if_neg (by omega), if_neg hb, show 10 - (k + 1) = 9 - k from by omega, Option.map_map]
  congr 1
  funext q
  have : 2 ^ (7 * (k + 1)) = 2 ^ (7 * k) * 128 := by rw [show 7 * (k + 1) = 7 * k + 7 from by omega, Nat.pow_add]
  simp only [Function.comp, this, Prod.mk.injEq]
  rw [Nat.mul_add, ← Nat.mul_assoc]
  omega
theorem scan_lt {acc k x : Nat} (h : acc < 2 ^ (7 * k)) : acc + 2 ^ (7 * k) * (x % 128) < 2 ^ (7 * (k + 1)) := by
  have : 2 ^ (7 * (k + 1)) = 2 ^ (7 * k) * 128 := by rw [show 7 * (k + 1) = 7 * k + 7 from by omega, Nat.pow_add]
  rw [this]
  have h2 : 2 ^ (7 * k) * (x % 128) ≤ 2 ^ (7 * k) * 127 := Nat.mul_le_mul_left _ (by omega)
  have h3 : 2 ^ (7 * k) * 128 = 2 ^ (7 * k) * 127 + 2 ^ (7 * k) := by omega
  omega

theorem scanP_some {s : List UInt8} {at_ n next : Nat} {x y : Int} (h : Cd.readUns s at_ = some (n, next)) (hx : x = n) (hy : y = next) : ScanP (Cd.readUns s at_) (.returned (.tuple #[.int .u64 x, .int .i64 y, .bool true])) := by
  subst hx; subst hy; rw [h]; exact rfl
theorem scanP_none {s : List UInt8} {at_ n next : Nat} {x y : Int} (h : Cd.readUns s at_ = none) (hx : x = n) (hy : y = next) (hn : n < 18446744073709551616) (hm : next ≤ 2199023255552) : ScanP (Cd.readUns s at_) (.returned (.tuple #[.int .u64 x, .int .i64 y, .bool false])) := by
  subst hx; subst hy; rw [h]; exact ⟨n, next, hn, hm, rfl⟩

set_option maxRecDepth 20000 in
set_option maxHeartbeats 1000000 in
theorem scan_spec (r : Nat) (s : List UInt8) (at_ : Nat) (w : World) (hc : w.cell? ⟨r, 0, none⟩ = some (.string ⟨s.toArray⟩)) (hs : s.length ≤ 1099511627776) (ha : at_ ≤ s.length) :
    Calls Try.prog 43 #[.pointer (some ⟨r, 0, none⟩), .int .i64 at_] w fun e w' => ScanP (Cd.readUns s at_) e ∧ w = w' := by
  go_enter Try.func43, Try.ntmps43
  go_wp2
  go_loop [1, 7, 8, 9] (fun p n sh _ => ∃ (k acc : Nat), k ≤ 9 ∧ at_ + k ≤ s.length ∧ p = .int .i64 (at_ + k : Nat) ∧ n = .int .u64 acc ∧ acc < 2 ^ (7 * k) ∧ sh = .int .i64 (7 * k : Nat) ∧
      Cd.dec (s.drop at_) = (Cd.decF (10 - k) k (s.drop (at_ + k))).map (fun q => (acc + 2 ^ (7 * k) * q.1, q.2 + k))) (fun _ _ sh _ => (70 - intOf sh).toNat)
  case atStart => exact ⟨0, 0, by omega, by simpa using ha, by simp, rfl, by simp, rfl, by simp [Cd.dec]⟩
  case round =>
    obtain ⟨k, acc, hk, hkl, rfl, rfl, hacc, rfl, hd⟩ := hrel
    have HD := Lib.hid hd; have HA := Lib.hid hacc
    clear hd hacc
    by_cases hlt : at_ + k < s.length
    · obtain ⟨b, hb, hdrop⟩ : ∃ b : UInt8, (∀ h, (⟨s.toArray⟩ : ByteArray)[at_ + k]'h = b) ∧ s.drop (at_ + k) = b :: s.drop (at_ + (k + 1)) :=
        ⟨s[at_ + k], fun h => rfl, by rw [List.drop_eq_getElem_cons hlt, Nat.add_assoc]⟩
      have hb255 : (b.toNat : Int) ≤ 255 := by have := Cd.u8_lt b; omega
      have HDR := Lib.hid hdrop; clear hdrop
      by_cases hk9 : k = 9
      · subst hk9
        go_wp2
        · have h1 : (1 : Int) < (b.toNat : Int) := by assumption
          go_ret3
          exact ⟨scanP_none (n := 0) (next := 0) (scan_none HD.out HDR.out (by omega) (.inl ⟨rfl, by omega⟩)) rfl rfl (by omega) (by omega), rfl⟩
        · have h1 : b.toNat = 0 := by assumption
          go_ret3
          have := orStep acc 9 0 HA.out (by omega) (.inr ⟨rfl, by omega⟩)
          exact ⟨scanP_none (n := acc + 2 ^ (7 * 9) * (0 % 128)) (next := at_ + 9 + 1) (scan_none HD.out HDR.out (by omega) (.inr ⟨h1, by omega⟩)) this (by go_num) (by have := HA.out; simp at this ⊢; omega) (by omega), rfl⟩
        · have h1 : (b.toNat : Int) ≤ 1 := by assumption
          have h2 : ¬ b.toNat = 0 := by assumption
          go_ret3
          have := orStep acc 9 b.toNat HA.out (by omega) (.inr ⟨rfl, by omega⟩)
          exact ⟨scanP_some (scan_last HD.out HDR.out (by omega) (by omega) (by omega) (.inl (by omega))) this (by go_num), rfl⟩
      · have hk8 : k ≤ 8 := by omega
        have hk9' : ((7 * (k : Int)) == 63) = false := by simp; omega
        clear hk9
        by_cases hk0 : k = 0
        · have hk0' : ((7 * (k : Int)) == 0) = true := by simp; omega
          have HK := Lib.hid hk0; clear hk0
          go_wp2
          · have h1 : b.toNat = 0 := by assumption
            go_ret3
            have := orStep acc k 0 HA.out (by omega) (.inl hk8)
            have h2 := scan_last HD.out HDR.out (by omega) (by omega) (by omega) (.inr HK.out)
            rw [h1] at h2
            exact ⟨scanP_some h2 this (by go_num), rfl⟩
          · go_ret3
            have := orStep acc k b.toNat HA.out (Cd.u8_lt b) (.inl hk8)
            exact ⟨scanP_some (scan_last HD.out HDR.out (by omega) (by omega) (by omega) (.inr HK.out)) this (by go_num), rfl⟩
          · go_round
            case rel => exact ⟨k + 1, acc + 2 ^ (7 * k) * (b.toNat % 128), by omega, by omega, by go_num, by rw [orStep acc k b.toNat HA.out (Cd.u8_lt b) (.inl hk8)], scan_lt HA.out, by go_num, scan_more HD.out HDR.out hk8 (by omega)⟩
            case measure => simp [intOf]; omega
        · have hk0' : ((7 * (k : Int)) == 0) = false := by simp; omega
          have HK := Lib.hid hk0; clear hk0
          go_wp2
          · have h1 : b.toNat = 0 := by assumption
            go_ret3
            have := orStep acc k 0 HA.out (by omega) (.inl hk8)
            have hp := pow7 k (by omega)
            exact ⟨scanP_none (n := acc + 2 ^ (7 * k) * (0 % 128)) (next := at_ + k + 1) (scan_none HD.out HDR.out (by omega) (.inr ⟨h1, by have := HK.out; omega⟩)) this (by go_num) (by have := HA.out; simp; omega) (by omega), rfl⟩
          · have h2 : ¬ b.toNat = 0 := by assumption
            go_ret3
            have := orStep acc k b.toNat HA.out (Cd.u8_lt b) (.inl hk8)
            exact ⟨scanP_some (scan_last HD.out HDR.out (by omega) (by omega) (by omega) (.inl (by omega))) this (by go_num), rfl⟩
          · go_round
            case rel => exact ⟨k + 1, acc + 2 ^ (7 * k) * (b.toNat % 128), by omega, by omega, by go_num, by rw [orStep acc k b.toNat HA.out (Cd.u8_lt b) (.inl hk8)], scan_lt HA.out, by go_num, scan_more HD.out HDR.out hk8 (by omega)⟩
            case measure => simp [intOf]; omega
    · have hlt' : s.length ≤ at_ + k := by omega
      go_wp2
      go_ret3
      exact ⟨scanP_none (n := 0) (next := 0) (scan_end HD.out (by omega) hlt) rfl rfl (by omega) (by omega), rfl⟩
end Go.Proofs.Ytalailodnmfmlaa
