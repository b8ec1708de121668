/-
  What the program's reader reads of a number: scan, size. Conditions: the offset lies in the string, the string has at most 2^40 bytes.
-/
import Derived.Test.YtjjpdnpbhdcpbaaGreatProg
import Derived.Test.YtjjpdnpbhdcpbaaGreatQCdA
import Derived.Laws.DeepNot64
namespace Go.Proofs.YtjjpdnpbhdcpbaaGreat
set_option linter.unusedVariables false
open Go.RowKit
def Rr (w : World) (r : Nat) (s : List UInt8) (at_ : Nat) (e : Int) : Prop := Blk w r 146 #[.string ⟨s.toArray⟩, .int .i64 at_, .int .i64 e]
theorem Rr.c0 {w : World} {r : Nat} {s : List UInt8} {at_ : Nat} {e : Int} (h : Rr w r s at_ e) : w.cell? ⟨r, 0, none⟩ = some (.string ⟨s.toArray⟩) := by simpa using Blk.cell h 0
theorem Rr.c1 {w : World} {r : Nat} {s : List UInt8} {at_ : Nat} {e : Int} (h : Rr w r s at_ e) : w.cell? ⟨r, 1, none⟩ = some (.int .i64 at_) := by simpa using Blk.cell h 1
theorem Rr.c2 {w : World} {r : Nat} {s : List UInt8} {at_ : Nat} {e : Int} (h : Rr w r s at_ e) : w.cell? ⟨r, 2, none⟩ = some (.int .i64 e) := by simpa using Blk.cell h 2
def ScanP (o : Option (Nat × Nat)) (e : Ending) : Prop :=
 match o with
 | some (n, next) => e = .returned (.tuple #[.int .u64 n, .int .i64 next, .bool true])
 | none => ∃ x y : Nat, x < 18446744073709551616 ∧ y ≤ 2199023255552 ∧ e = .returned (.tuple #[.int .u64 x, .int .i64 y, .bool false])
theorem pow7 (k : Nat) (hk : k ≤ 9) : 2 ^ (7 * k) ≤ 9223372036854775808 := by
 have : 2 ^ (7 * k) ≤ 2 ^ 63 := Nat.pow_le_pow_right (by decide) (by omega)
 exact this
theorem u8_and127 (x : Nat) (hx : x < 256) : bits BinOp.and IntKind.u8 (x : Int) 127 = ((x % 128 : Nat) : Int) := by
 have h : ∀ r : Fin 256, bits BinOp.and IntKind.u8 ((r.val : Nat) : Int) 127 = ((r.val % 128 : Nat) : Int) := by decide +kernel
 exact h ⟨x, hx⟩
theorem orStep (acc k x : Nat) (hacc : acc < 2 ^ (7 * k)) (hx : x < 256) (h : k ≤ 8 ∨ (k = 9 ∧ x ≤ 1)) :
 bits BinOp.or IntKind.u64 (acc : Int) (IntKind.u64.wrap (IntKind.u64.wrap (bits BinOp.and IntKind.u8 (x : Int) 127) * 2 ^ (7 * k))) = ((acc + 2 ^ (7 * k) * (x % 128) : Nat) : Int) := by
 rw [u8_and127 x hx]
 have hp := pow7 k (by omega)
 have hm : x % 128 * 2 ^ (7 * k) < 18446744073709551616 := by
  rcases h with h | ⟨rfl, h⟩
  ·have h2 : 2 ^ (7 * k) ≤ 2 ^ 56 := Nat.pow_le_pow_right (by decide) (by omega)
   calc x % 128 * 2 ^ (7 * k) ≤ 128 * 2 ^ 56 := Nat.mul_le_mul (by omega) h2
    _ < 18446744073709551616 := by decide
  ·have : x % 128 ≤ 1 := by omega
   calc x % 128 * 2 ^ (7 * 9) ≤ 1 * 2 ^ (7 * 9) := Nat.mul_le_mul_right _ this
    _ < 18446744073709551616 := by decide
 have e1 : IntKind.u64.wrap ((x % 128 : Nat) : Int) = ((x % 128 : Nat) : Int) := by rw [IntKind.wrap_u64]; omega
 have e2 : ((x % 128 : Nat) : Int) * 2 ^ (7 * k) = ((x % 128 * 2 ^ (7 * k) : Nat) : Int) := by simp
 have e3 : IntKind.u64.wrap ((x % 128 * 2 ^ (7 * k) : Nat) : Int) = ((x % 128 * 2 ^ (7 * k) : Nat) : Int) := by rw [IntKind.wrap_u64]; omega
 rw [e1, e2, e3, u64_or_nat acc _ (by omega) hm, Nat.or_comm, nat_join (7 * k) _ acc (by simp) hacc]
 congr 1
 rw [Nat.mul_comm, Nat.add_comm]
theorem scan_last {s r : List UInt8} {at_ k acc : Nat} {b : UInt8} (HD : Cd.dec (s.drop at_) = (Cd.decF (10 - k) k (s.drop (at_ + k))).map (fun q => (acc + 2 ^ (7 * k) * q.1, q.2 + k)))
 (HDR : s.drop (at_ + k) = b :: r) (hk : k ≤ 9) (h9 : ¬ (k = 9 ∧ 1 < b.toNat)) (hb : b.toNat < 128) (h0 : 0 < b.toNat ∨ k = 0) : Cd.readUns s at_ = some (acc + 2 ^ (7 * k) * (b.toNat % 128), at_ + k + 1) := by
 unfold Cd.readUns
 rw [HD, HDR, show 10 - k = (9 - k) + 1 from by omega, Cd.decF, if_neg h9, if_pos hb, if_pos h0]
 simp
 exact ⟨by rw [Nat.mod_eq_of_lt hb], by omega⟩
theorem scan_none {s r : List UInt8} {at_ k acc : Nat} {b : UInt8} (HD : Cd.dec (s.drop at_) = (Cd.decF (10 - k) k (s.drop (at_ + k))).map (fun q => (acc + 2 ^ (7 * k) * q.1, q.2 + k)))
 (HDR : s.drop (at_ + k) = b :: r) (hk : k ≤ 9) (h9 : (k = 9 ∧ 1 < b.toNat) ∨ (b.toNat = 0 ∧ 0 < k)) : Cd.readUns s at_ = none := by
 unfold Cd.readUns
 rw [HD, HDR, show 10 - k = (9 - k) + 1 from by omega, Cd.decF]
 rcases h9 with h9 | ⟨h9, hk0⟩
 ·rw [if_pos h9]; rfl
 ·rw [if_neg (by omega), if_pos (by omega), if_neg (by omega)]; rfl
theorem scan_end {s : List UInt8} {at_ k acc : Nat} (HD : Cd.dec (s.drop at_) = (Cd.decF (10 - k) k (s.drop (at_ + k))).map (fun q => (acc + 2 ^ (7 * k) * q.1, q.2 + k)))
 (hk : k ≤ 9) (hlt : ¬ at_ + k < s.length) : Cd.readUns s at_ = none := by
 unfold Cd.readUns
 rw [HD, List.drop_eq_nil_of_le (by omega), show 10 - k = (9 - k) + 1 from by omega, Cd.decF]; rfl
theorem scan_more {s : List UInt8} {at_ k acc : Nat} {b : UInt8} (HD : Cd.dec (s.drop at_) = (Cd.decF (10 - k) k (s.drop (at_ + k))).map (fun q => (acc + 2 ^ (7 * k) * q.1, q.2 + k)))
 (HDR : s.drop (at_ + k) = b :: s.drop (at_ + (k + 1))) (hk : k ≤ 8) (hb : ¬ b.toNat < 128) :
 Cd.dec (s.drop at_) = (Cd.decF (10 - (k + 1)) (k + 1) (s.drop (at_ + (k + 1)))).map (fun q => ((acc + 2 ^ (7 * k) * (b.toNat % 128)) + 2 ^ (7 * (k + 1)) * q.1, q.2 + (k + 1))) := by
 rw [HD, HDR, show 10 - k = (9 - k) + 1 from by omega, Cd.decF, if_neg (by omega), if_neg hb, show 10 - (k + 1) = 9 - k from by omega, Option.map_map]
 congr 1
 funext q
 have : 2 ^ (7 * (k + 1)) = 2 ^ (7 * k) * 128 := by rw [show 7 * (k + 1) = 7 * k + 7 from by omega, Nat.pow_add]
 simp only [Function.comp, this, Prod.mk.injEq]
 rw [Nat.mul_add, ← Nat.mul_assoc]
 omega
theorem scan_lt {acc k x : Nat} (h : acc < 2 ^ (7 * k)) : acc + 2 ^ (7 * k) * (x % 128) < 2 ^ (7 * (k + 1)) := by
 have : 2 ^ (7 * (k + 1)) = 2 ^ (7 * k) * 128 := by rw [show 7 * (k + 1) = 7 * k + 7 from by omega, Nat.pow_add]
 rw [this]
 have h2 : 2 ^ (7 * k) * (x % 128) ≤ 2 ^ (7 * k) * 127 := Nat.mul_le_mul_left _ (by omega)
 have h3 : 2 ^ (7 * k) * 128 = 2 ^ (7 * k) * 127 + 2 ^ (7 * k) := by omega
 omega
theorem scanP_some {s : List UInt8} {at_ n next : Nat} {x y : Int} (h : Cd.readUns s at_ = some (n, next)) (hx : x = n) (hy : y = next) : ScanP (Cd.readUns s at_) (.returned (.tuple #[.int .u64 x, .int .i64 y, .bool true])) := by
 subst hx; subst hy; rw [h]; exact rfl
theorem scanP_none {s : List UInt8} {at_ n next : Nat} {x y : Int} (h : Cd.readUns s at_ = none) (hx : x = n) (hy : y = next) (hn : n < 18446744073709551616) (hm : next ≤ 2199023255552) : ScanP (Cd.readUns s at_) (.returned (.tuple #[.int .u64 x, .int .i64 y, .bool false])) := by
 subst hx; subst hy; rw [h]; exact ⟨n, next, hn, hm, rfl⟩
set_option maxRecDepth 20000 in
set_option maxHeartbeats 1000000 in
theorem scan_spec (r : Nat) (s : List UInt8) (at_ : Nat) (w : World) (hc : w.cell? ⟨r, 0, none⟩ = some (.string ⟨s.toArray⟩)) (hs : s.length ≤ 1099511627776) (ha : at_ ≤ s.length) :
 Calls Tryz.prog 163 #[.pointer (some ⟨r, 0, none⟩), .int .i64 at_] w fun e w' => ScanP (Cd.readUns s at_) e ∧ w = w' := by
 go_enter Tryz.func163, Tryz.ntmps163
 go_wp2
 go_loop [1, 7, 8, 9] (fun p n sh _ => ∃ (k acc : Nat), k ≤ 9 ∧ at_ + k ≤ s.length ∧ p = .int .i64 (at_ + k : Nat) ∧ n = .int .u64 acc ∧ acc < 2 ^ (7 * k) ∧ sh = .int .i64 (7 * k : Nat) ∧
  Cd.dec (s.drop at_) = (Cd.decF (10 - k) k (s.drop (at_ + k))).map (fun q => (acc + 2 ^ (7 * k) * q.1, q.2 + k))) (fun _ _ sh _ => (70 - intOf sh).toNat)
 case atStart => exact ⟨0, 0, by omega, by simpa using ha, by simp, rfl, by simp, rfl, by simp [Cd.dec]⟩
 case round =>
  obtain ⟨k, acc, hk, hkl, rfl, rfl, hacc, rfl, hd⟩ := hrel
  have HD := Lib.hid hd; have HA := Lib.hid hacc
  clear hd hacc
  by_cases hlt : at_ + k < s.length
  ·obtain ⟨b, hb, hdrop⟩ : ∃ b : UInt8, (∀ h, (⟨s.toArray⟩ : ByteArray)[at_ + k]'h = b) ∧ s.drop (at_ + k) = b :: s.drop (at_ + (k + 1)) :=
    ⟨s[at_ + k], fun h => rfl, by rw [List.drop_eq_getElem_cons hlt, Nat.add_assoc]⟩
   have hb255 : (b.toNat : Int) ≤ 255 := by have := Cd.u8_lt b; omega
   have HDR := Lib.hid hdrop; clear hdrop
   by_cases hk9 : k = 9
   ·subst hk9
    go_wp2
    ·have h1 : (1 : Int) < (b.toNat : Int) := by assumption
     go_ret3
     exact ⟨scanP_none (n := 0) (next := 0) (scan_none HD.out HDR.out (by omega) (.inl ⟨rfl, by omega⟩)) rfl rfl (by omega) (by omega), rfl⟩
    ·have h1 : b.toNat = 0 := by assumption
     go_ret3
     have := orStep acc 9 0 HA.out (by omega) (.inr ⟨rfl, by omega⟩)
     exact ⟨scanP_none (n := acc + 2 ^ (7 * 9) * (0 % 128)) (next := at_ + 9 + 1) (scan_none HD.out HDR.out (by omega) (.inr ⟨h1, by omega⟩)) this (by go_num) (by have := HA.out; simp at this ⊢; omega) (by omega), rfl⟩
    ·have h1 : (b.toNat : Int) ≤ 1 := by assumption
     have h2 : ¬ b.toNat = 0 := by assumption
     go_ret3
     have := orStep acc 9 b.toNat HA.out (by omega) (.inr ⟨rfl, by omega⟩)
     exact ⟨scanP_some (scan_last HD.out HDR.out (by omega) (by omega) (by omega) (.inl (by omega))) this (by go_num), rfl⟩
   ·have hk8 : k ≤ 8 := by omega
    have hk9' : ((7 * (k : Int)) == 63) = false := by simp; omega
    clear hk9
    by_cases hk0 : k = 0
    ·have hk0' : ((7 * (k : Int)) == 0) = true := by simp; omega
     have HK := Lib.hid hk0; clear hk0
     go_wp2
     ·have h1 : b.toNat = 0 := by assumption
      go_ret3
      have := orStep acc k 0 HA.out (by omega) (.inl hk8)
      have h2 := scan_last HD.out HDR.out (by omega) (by omega) (by omega) (.inr HK.out)
      rw [h1] at h2
      exact ⟨scanP_some h2 this (by go_num), rfl⟩
     ·go_ret3
      have := orStep acc k b.toNat HA.out (Cd.u8_lt b) (.inl hk8)
      exact ⟨scanP_some (scan_last HD.out HDR.out (by omega) (by omega) (by omega) (.inr HK.out)) this (by go_num), rfl⟩
     ·go_round
      case rel => exact ⟨k + 1, acc + 2 ^ (7 * k) * (b.toNat % 128), by omega, by omega, by go_num, by rw [orStep acc k b.toNat HA.out (Cd.u8_lt b) (.inl hk8)], scan_lt HA.out, by go_num, scan_more HD.out HDR.out hk8 (by omega)⟩
      case measure => simp [intOf]; omega
    ·have hk0' : ((7 * (k : Int)) == 0) = false := by simp; omega
     have HK := Lib.hid hk0; clear hk0
     go_wp2
     ·have h1 : b.toNat = 0 := by assumption
      go_ret3
      have := orStep acc k 0 HA.out (by omega) (.inl hk8)
      have hp := pow7 k (by omega)
      exact ⟨scanP_none (n := acc + 2 ^ (7 * k) * (0 % 128)) (next := at_ + k + 1) (scan_none HD.out HDR.out (by omega) (.inr ⟨h1, by have := HK.out; omega⟩)) this (by go_num) (by have := HA.out; simp; omega) (by omega), rfl⟩
     ·have h2 : ¬ b.toNat = 0 := by assumption
      go_ret3
      have := orStep acc k b.toNat HA.out (Cd.u8_lt b) (.inl hk8)
      exact ⟨scanP_some (scan_last HD.out HDR.out (by omega) (by omega) (by omega) (.inl (by omega))) this (by go_num), rfl⟩
     ·go_round
      case rel => exact ⟨k + 1, acc + 2 ^ (7 * k) * (b.toNat % 128), by omega, by omega, by go_num, by rw [orStep acc k b.toNat HA.out (Cd.u8_lt b) (.inl hk8)], scan_lt HA.out, by go_num, scan_more HD.out HDR.out hk8 (by omega)⟩
      case measure => simp [intOf]; omega
  ·have hlt' : s.length ≤ at_ + k := by omega
   go_wp2
   go_ret3
   exact ⟨scanP_none (n := 0) (next := 0) (scan_end HD.out (by omega) hlt) rfl rfl (by omega) (by omega), rfl⟩
end Go.Proofs.YtjjpdnpbhdcpbaaGreat
namespace Go.Proofs.YtjjpdnpbhdcpbaaGreat
set_option linter.unusedVariables false
open Go.RowKit
def SizeP (o : Option (Nat × Nat)) (e : Ending) : Prop :=
 match o with
 | some (n, next) => e = .returned (.tuple #[.int .i64 n, .int .i64 next, .bool true])
 | none => ∃ x y : Int, e = .returned (.tuple #[.int .i64 x, .int .i64 y, .bool false])
theorem readUint_none {s : List UInt8} {at_ : Nat} (h : Cd.readUns s at_ = none) : Cd.readUint s at_ = none := by simp [Cd.readUint, h]
theorem readUint_big {s : List UInt8} {at_ n next : Nat} (h : Cd.readUns s at_ = some (n, next)) (hn : ¬ n < 2 ^ 63) : Cd.readUint s at_ = none := by simp [Cd.readUint, h]; omega
theorem readUint_some {s : List UInt8} {at_ n next : Nat} (h : Cd.readUns s at_ = some (n, next)) (hn : n < 2 ^ 63) : Cd.readUint s at_ = some (n, next) := by simp only [Cd.readUint, h]; rw [if_pos hn]
set_option maxRecDepth 20000 in
set_option maxHeartbeats 400000 in
theorem size_spec (r : Nat) (s : List UInt8) (at_ : Nat) (w : World) (hc : w.cell? ⟨r, 0, none⟩ = some (.string ⟨s.toArray⟩)) (hs : s.length ≤ 1099511627776) (ha : at_ ≤ s.length) :
 Calls Tryz.prog 129 #[.pointer (some ⟨r, 0, none⟩), .int .i64 at_] w fun e w' => SizeP (Cd.readUint s at_) e ∧ w = w' := by
 have hsc := scan_spec r s at_ w hc hs ha
 cases hu : Cd.readUns s at_ with
 | none =>
   rw [readUint_none hu]
   rw [hu] at hsc
   clear hu
   go_enter Tryz.func129, Tryz.ntmps129
   go_wp2_with fail
   refine hsc.mono ?_
   rintro e w' ⟨⟨x, y, hx, hy, rfl⟩, rfl⟩
   clear hsc
   go_wp2
   go_ret3
   exact ⟨⟨_, _, rfl⟩, rfl⟩
 | some q =>
   obtain ⟨n, next⟩ := q
   have hle := Cd.readUns_le hu ha
   by_cases hn : n < 2 ^ 63
   ·rw [readUint_some hu hn]
    rw [hu] at hsc
    clear hu
    have hn1 : (n : Int) ≤ 9223372036854775807 := by omega
    have hn2 : (n : Int) / 9223372036854775808 = 0 := by omega
    clear hle hn
    go_enter Tryz.func129, Tryz.ntmps129
    go_wp2_with fail
    refine hsc.mono ?_
    rintro e w' ⟨he, rfl⟩
    obtain rfl := he
    clear hsc
    go_wp2
    go_ret3
    exact ⟨rfl, rfl⟩
   ·rw [readUint_big hu hn]
    rw [hu] at hsc
    clear hu
    have hn2 : ((n : Int) / 9223372036854775808 == 0) = false := by simp; omega
    clear hle hn
    go_enter Tryz.func129, Tryz.ntmps129
    go_wp2_with fail
    refine hsc.mono ?_
    rintro e w' ⟨he, rfl⟩
    obtain rfl := he
    clear hsc
    go_wp2
    go_ret3
    exact ⟨⟨_, _, rfl⟩, rfl⟩
def TextP (o : Option (List UInt8 × Nat)) (e : Ending) : Prop :=
 match o with
 | some (x, next) => e = .returned (.tuple #[.string ⟨x.toArray⟩, .int .i64 next, .bool true])
 | none => ∃ (y : Int), e = .returned (.tuple #[.string ⟨#[]⟩, .int .i64 y, .bool false])
theorem readText_none {s : List UInt8} {at_ : Nat} (h : Cd.readUint s at_ = none) : Cd.readText s at_ = none := by simp [Cd.readText, h]
theorem readText_big {s : List UInt8} {at_ n next : Nat} (h : Cd.readUint s at_ = some (n, next)) (hn : ¬ n ≤ s.length - next) : Cd.readText s at_ = none := by simp only [Cd.readText, h]; rw [if_neg hn]
theorem readText_some {s : List UInt8} {at_ n next : Nat} (h : Cd.readUint s at_ = some (n, next)) (hn : n ≤ s.length - next) : Cd.readText s at_ = some ((s.drop next).take n, next + n) := by simp only [Cd.readText, h]; rw [if_pos hn]
theorem bytes_extract (s : List UInt8) (a b : Nat) : (⟨s.toArray⟩ : ByteArray).extract a b = ⟨((s.drop a).take (b - a)).toArray⟩ := by
 apply ByteArray.ext
 simp [List.extract_eq_take_drop]
set_option maxRecDepth 20000 in
set_option maxHeartbeats 400000 in
theorem rtext_spec (r : Nat) (s : List UInt8) (at_ : Nat) (w : World) (hc : w.cell? ⟨r, 0, none⟩ = some (.string ⟨s.toArray⟩)) (hs : s.length ≤ 1099511627776) (ha : at_ ≤ s.length) :
 Calls Tryz.prog 127 #[.pointer (some ⟨r, 0, none⟩), .int .i64 at_] w fun e w' => TextP (Cd.readText s at_) e ∧ w = w' := by
 have hsc := size_spec r s at_ w hc hs ha
 cases hu : Cd.readUint s at_ with
 | none =>
   rw [readText_none hu]
   rw [hu] at hsc
   clear hu
   go_enter Tryz.func127, Tryz.ntmps127
   go_wp2_with fail
   refine hsc.mono ?_
   rintro e w' ⟨⟨x, y, rfl⟩, rfl⟩
   clear hsc
   go_wp2
   go_ret3
   exact ⟨⟨_, rfl⟩, rfl⟩
 | some q =>
   obtain ⟨n, next⟩ := q
   obtain ⟨hle1, hle2, hle3⟩ := Cd.readUint_le hu ha
   have hle4 : (n : Int) ≤ 9223372036854775807 := by omega
   by_cases hn : n ≤ s.length - next
   ·rw [readText_some hu hn]
    rw [hu] at hsc
    clear hu hle3
    have hn2 : (n : Int) ≤ (s.length : Int) - (next : Int) := by omega
    have hex := bytes_extract s next (next + n)
    clear hn
    go_enter Tryz.func127, Tryz.ntmps127
    go_wp2_with fail
    refine hsc.mono ?_
    rintro e w' ⟨he, rfl⟩
    obtain rfl := he
    clear hsc
    go_wp2
    go_ret3
    refine ⟨?_, rfl⟩
    show Ending.returned _ = Ending.returned _
    simp [bytes_extract]
   ·rw [readText_big hu hn]
    rw [hu] at hsc
    clear hu hle3
    have hn2 : (s.length : Int) - (next : Int) < (n : Int) := by omega
    clear hn
    go_enter Tryz.func127, Tryz.ntmps127
    go_wp2_with fail
    refine hsc.mono ?_
    rintro e w' ⟨he, rfl⟩
    obtain rfl := he
    clear hsc
    go_wp2
    go_ret3
    exact ⟨⟨_, rfl⟩, rfl⟩
end Go.Proofs.YtjjpdnpbhdcpbaaGreat
namespace Go.Proofs.YtjjpdnpbhdcpbaaGreat
set_option linter.unusedVariables false
open Go.RowKit
theorem Rr.at1 {w : World} {r : Nat} {s : List UInt8} {at_ next : Nat} {e : Int} (h : Rr w r s at_ e) : Rr (w.setCell ⟨r, 1, none⟩ (.int .i64 next)) r s next e := by
 have := Blk.set_ h 1 (.int .i64 next)
 simpa [Rr] using this
theorem Rr.at2 {w : World} {r : Nat} {s : List UInt8} {at_ : Nat} {e e' : Int} (h : Rr w r s at_ e) : Rr (w.setCell ⟨r, 2, none⟩ (.int .i64 e')) r s at_ e' := by
 have := Blk.set_ h 2 (.int .i64 e')
 simpa [Rr] using this
theorem Rr.mod {S : Nat → Prop} {w w' : World} {r : Nat} {s : List UInt8} {at_ : Nat} {e : Int} (h : Rr w r s at_ e) (hm : Mod S w w') (hs : ¬ S r) : Rr w' r s at_ e := Blk.mod h hm hs
theorem Rr.below {w w' : World} {r : Nat} {s : List UInt8} {at_ : Nat} {e : Int} (h : Rr w r s at_ e) (hb : Below w.heap.size w w') : Rr w' r s at_ e := Blk.below h hb
def uintR (s : List UInt8) (at_ : Nat) (e : Int) : Int × Nat × Int := if e ≠ 0 then (0, at_, e) else match Cd.readUint s at_ with
 | some (n, next) => (n, next, 0)
 | none => (0, at_, 9)
def countR (s : List UInt8) (at_ : Nat) (e most : Int) : Int × Nat × Int := if e ≠ 0 then (0, at_, e) else match Cd.readCount s at_ most with
 | some (n, next) => (n, next, 0)
 | none => (0, at_, 9)
def textR (s : List UInt8) (at_ : Nat) (e : Int) : List UInt8 × Nat × Int := if e ≠ 0 then ([], at_, e) else match Cd.readText s at_ with
 | some (n, next) => (n, next, 0)
 | none => ([], at_, 9)
theorem uintT_no (r : Nat) (s : List UInt8) (at_ : Nat) (e : Int)  (w : World) (h : Rr w r s at_ e) (he : e ≠ 0) :
 Calls Tryz.prog 128 #[.pointer (some ⟨r, 0, none⟩), .func (.func 129) #[.pointer (some ⟨r, 0, none⟩)] #[]] w fun e' w' => e' = .returned (.int .i64 0) ∧ w = w' := by
 have c2 := h.c2
 have h2 : (e == 0) = false := by simpa using he
 have h3 : (e != 0) = true := by simpa using he
 clear he h
 go_enter Tryz.func128, Tryz.ntmps128
 go_wp2
 go_ret
 exact ⟨rfl, rfl⟩
set_option maxHeartbeats 400000 in
theorem uintT_ok (r : Nat) (s : List UInt8) (at_ : Nat)  (w : World) (h : Rr w r s at_ 0)  (x : Int) (next : Nat) (hf : ∀ w, w.cell? ⟨r, 0, none⟩ = some (.string ⟨s.toArray⟩) → Calls Tryz.prog 129 #[.pointer (some ⟨r, 0, none⟩), .int .i64 at_] w fun e w' => e = .returned (.tuple #[.int .i64 x, .int .i64 next, .bool true]) ∧ w = w') :
 Calls Tryz.prog 128 #[.pointer (some ⟨r, 0, none⟩), .func (.func 129) #[.pointer (some ⟨r, 0, none⟩)] #[]] w fun e' w' => e' = .returned (.int .i64 x) ∧ Rr w' r s next 0 ∧ Mod (fun k => k = r) w w' := by
 have c1 := h.c1
 have c2 := h.c2
 have f1 : w.frozen? ⟨r, 1, none⟩ = false := Blk.frozen h 1
 have HH := Lib.hid h; clear h
 go_enter Tryz.func128, Tryz.ntmps128
 go_wp2_with fail
 refine (hf _ HH.out.c0).mono ?_
 rintro e w' ⟨rfl, rfl⟩
 clear hf
 go_wp2
 go_ret
 exact ⟨rfl, HH.out.at1, mod_set w r 1 _⟩
set_option maxHeartbeats 400000 in
theorem uintT_bad (r : Nat) (s : List UInt8) (at_ : Nat)  (w : World) (h : Rr w r s at_ 0)  (hf : ∀ w, w.cell? ⟨r, 0, none⟩ = some (.string ⟨s.toArray⟩) → Calls Tryz.prog 129 #[.pointer (some ⟨r, 0, none⟩), .int .i64 at_] w fun e w' => (∃ (x : Int) (y : Int), e = .returned (.tuple #[.int .i64 x, .int .i64 y, .bool false])) ∧ w = w') :
 Calls Tryz.prog 128 #[.pointer (some ⟨r, 0, none⟩), .func (.func 129) #[.pointer (some ⟨r, 0, none⟩)] #[]] w fun e' w' => e' = .returned (.int .i64 0) ∧ Rr w' r s at_ 9 ∧ Mod (fun k => k = r) w w' := by
 have c1 := h.c1
 have c2 := h.c2
 have f1 : w.frozen? ⟨r, 2, none⟩ = false := Blk.frozen h 2
 have HH := Lib.hid h; clear h
 go_enter Tryz.func128, Tryz.ntmps128
 go_wp2_with fail
 refine (hf _ HH.out.c0).mono ?_
 rintro e w' ⟨⟨x, y, rfl⟩, rfl⟩
 clear hf
 go_wp2
 go_ret
 exact ⟨rfl, HH.out.at2, mod_set w r 2 _⟩
theorem textT_no (r : Nat) (s : List UInt8) (at_ : Nat) (e : Int)  (w : World) (h : Rr w r s at_ e) (he : e ≠ 0) :
 Calls Tryz.prog 126 #[.pointer (some ⟨r, 0, none⟩), .func (.func 127) #[.pointer (some ⟨r, 0, none⟩)] #[]] w fun e' w' => e' = .returned (.string ⟨#[]⟩) ∧ w = w' := by
 have c2 := h.c2
 have h2 : (e == 0) = false := by simpa using he
 have h3 : (e != 0) = true := by simpa using he
 clear he h
 go_enter Tryz.func126, Tryz.ntmps126
 go_wp2
 go_ret
 exact ⟨rfl, rfl⟩
set_option maxHeartbeats 400000 in
theorem textT_ok (r : Nat) (s : List UInt8) (at_ : Nat)  (w : World) (h : Rr w r s at_ 0)  (x : List UInt8) (next : Nat) (hf : ∀ w, w.cell? ⟨r, 0, none⟩ = some (.string ⟨s.toArray⟩) → Calls Tryz.prog 127 #[.pointer (some ⟨r, 0, none⟩), .int .i64 at_] w fun e w' => e = .returned (.tuple #[.string ⟨x.toArray⟩, .int .i64 next, .bool true]) ∧ w = w') :
 Calls Tryz.prog 126 #[.pointer (some ⟨r, 0, none⟩), .func (.func 127) #[.pointer (some ⟨r, 0, none⟩)] #[]] w fun e' w' => e' = .returned (.string ⟨x.toArray⟩) ∧ Rr w' r s next 0 ∧ Mod (fun k => k = r) w w' := by
 have c1 := h.c1
 have c2 := h.c2
 have f1 : w.frozen? ⟨r, 1, none⟩ = false := Blk.frozen h 1
 have HH := Lib.hid h; clear h
 go_enter Tryz.func126, Tryz.ntmps126
 go_wp2_with fail
 refine (hf _ HH.out.c0).mono ?_
 rintro e w' ⟨rfl, rfl⟩
 clear hf
 go_wp2
 go_ret
 exact ⟨rfl, HH.out.at1, mod_set w r 1 _⟩
set_option maxHeartbeats 400000 in
theorem textT_bad (r : Nat) (s : List UInt8) (at_ : Nat)  (w : World) (h : Rr w r s at_ 0)  (hf : ∀ w, w.cell? ⟨r, 0, none⟩ = some (.string ⟨s.toArray⟩) → Calls Tryz.prog 127 #[.pointer (some ⟨r, 0, none⟩), .int .i64 at_] w fun e w' => (∃  (y : Int), e = .returned (.tuple #[.string ⟨#[]⟩, .int .i64 y, .bool false])) ∧ w = w') :
 Calls Tryz.prog 126 #[.pointer (some ⟨r, 0, none⟩), .func (.func 127) #[.pointer (some ⟨r, 0, none⟩)] #[]] w fun e' w' => e' = .returned (.string ⟨#[]⟩) ∧ Rr w' r s at_ 9 ∧ Mod (fun k => k = r) w w' := by
 have c1 := h.c1
 have c2 := h.c2
 have f1 : w.frozen? ⟨r, 2, none⟩ = false := Blk.frozen h 2
 have HH := Lib.hid h; clear h
 go_enter Tryz.func126, Tryz.ntmps126
 go_wp2_with fail
 refine (hf _ HH.out.c0).mono ?_
 rintro e w' ⟨⟨ y, rfl⟩, rfl⟩
 clear hf
 go_wp2
 go_ret
 exact ⟨rfl, HH.out.at2, mod_set w r 2 _⟩
theorem countT_no (r : Nat) (s : List UInt8) (at_ : Nat) (e : Int) (g m : Nat) (most : Int) (w : World) (h : Rr w r s at_ e) (he : e ≠ 0) :
 Calls Tryz.prog 128 #[.pointer (some ⟨r, 0, none⟩), .func (.func 131) #[] #[.pointer (some ⟨g, 0, none⟩), .pointer (some ⟨m, 0, none⟩)]] w fun e' w' => e' = .returned (.int .i64 0) ∧ w = w' := by
 have c2 := h.c2
 have h2 : (e == 0) = false := by simpa using he
 have h3 : (e != 0) = true := by simpa using he
 clear he h
 go_enter Tryz.func128, Tryz.ntmps128
 go_wp2
 go_ret
 exact ⟨rfl, rfl⟩
set_option maxHeartbeats 400000 in
theorem countT_ok (r : Nat) (s : List UInt8) (at_ : Nat) (g m : Nat) (most : Int) (w : World) (h : Rr w r s at_ 0) (hg : w.cell? ⟨g, 0, none⟩ = some (.pointer (some ⟨r, 0, none⟩))) (hm : w.cell? ⟨m, 0, none⟩ = some (.int .i64 most)) (x : Int) (next : Nat) (hf : ∀ w, w.cell? ⟨r, 0, none⟩ = some (.string ⟨s.toArray⟩) → w.cell? ⟨g, 0, none⟩ = some (.pointer (some ⟨r, 0, none⟩)) → w.cell? ⟨m, 0, none⟩ = some (.int .i64 most) → Calls Tryz.prog 131 #[.int .i64 at_, .pointer (some ⟨g, 0, none⟩), .pointer (some ⟨m, 0, none⟩)] w fun e w' => e = .returned (.tuple #[.int .i64 x, .int .i64 next, .bool true]) ∧ ∃ n, w' = w.drewN n) :
 Calls Tryz.prog 128 #[.pointer (some ⟨r, 0, none⟩), .func (.func 131) #[] #[.pointer (some ⟨g, 0, none⟩), .pointer (some ⟨m, 0, none⟩)]] w fun e' w' => e' = .returned (.int .i64 x) ∧ Rr w' r s next 0 ∧ Mod (fun k => k = r) w w' := by
 have c1 := h.c1
 have c2 := h.c2
 have f1 : w.frozen? ⟨r, 1, none⟩ = false := Blk.frozen h 1
 have HH := Lib.hid h; clear h
 go_enter Tryz.func128, Tryz.ntmps128
 go_wp2_with fail
 refine (hf _ HH.out.c0 hg hm).mono ?_
 rintro e w' ⟨rfl, n, rfl⟩
 clear hf
 go_wp2
 go_ret
 exact ⟨rfl, Rr.at1 (w := w.drewN n) HH.out, mod_setN w n r 1 _⟩
set_option maxHeartbeats 400000 in
theorem countT_bad (r : Nat) (s : List UInt8) (at_ : Nat) (g m : Nat) (most : Int) (w : World) (h : Rr w r s at_ 0) (hg : w.cell? ⟨g, 0, none⟩ = some (.pointer (some ⟨r, 0, none⟩))) (hm : w.cell? ⟨m, 0, none⟩ = some (.int .i64 most)) (hf : ∀ w, w.cell? ⟨r, 0, none⟩ = some (.string ⟨s.toArray⟩) → w.cell? ⟨g, 0, none⟩ = some (.pointer (some ⟨r, 0, none⟩)) → w.cell? ⟨m, 0, none⟩ = some (.int .i64 most) → Calls Tryz.prog 131 #[.int .i64 at_, .pointer (some ⟨g, 0, none⟩), .pointer (some ⟨m, 0, none⟩)] w fun e w' => (∃ (x : Int) (y : Int), e = .returned (.tuple #[.int .i64 x, .int .i64 y, .bool false])) ∧ ∃ n, w' = w.drewN n) :
 Calls Tryz.prog 128 #[.pointer (some ⟨r, 0, none⟩), .func (.func 131) #[] #[.pointer (some ⟨g, 0, none⟩), .pointer (some ⟨m, 0, none⟩)]] w fun e' w' => e' = .returned (.int .i64 0) ∧ Rr w' r s at_ 9 ∧ Mod (fun k => k = r) w w' := by
 have c1 := h.c1
 have c2 := h.c2
 have f1 : w.frozen? ⟨r, 2, none⟩ = false := Blk.frozen h 2
 have HH := Lib.hid h; clear h
 go_enter Tryz.func128, Tryz.ntmps128
 go_wp2_with fail
 refine (hf _ HH.out.c0 hg hm).mono ?_
 rintro e w' ⟨⟨x, y, rfl⟩, n, rfl⟩
 clear hf
 go_wp2
 go_ret
 exact ⟨rfl, Rr.at2 (w := w.drewN n) HH.out, mod_setN w n r 2 _⟩
end Go.Proofs.YtjjpdnpbhdcpbaaGreat
namespace Go.Proofs.YtjjpdnpbhdcpbaaGreat
set_option linter.unusedVariables false
open Go.RowKit
set_option maxRecDepth 20000 in
set_option maxHeartbeats 400000 in
theorem count1_ok (r g m : Nat) (s : List UInt8) (at_ n next : Nat) (most : Int) (w : World) (hc : w.cell? ⟨r, 0, none⟩ = some (.string ⟨s.toArray⟩)) (hg : w.cell? ⟨g, 0, none⟩ = some (.pointer (some ⟨r, 0, none⟩))) (hm : w.cell? ⟨m, 0, none⟩ = some (.int .i64 most)) (hs : s.length ≤ 1099511627776) (ha : at_ ≤ s.length)
 (hu : Cd.readUint s at_ = some (n, next)) (t : Bool) (ht : decide ((n : Int) ≤ most) = t) :
 Calls Tryz.prog 131 #[.int .i64 at_, .pointer (some ⟨g, 0, none⟩), .pointer (some ⟨m, 0, none⟩)] w fun e w' => e = .returned (.tuple #[.int .i64 n, .int .i64 next, .bool t]) ∧ ∃ k, w' = w.drewN k := by
 have hsc := size_spec r s at_ w hc hs ha
 rw [hu] at hsc
 clear hu
 go_enter Tryz.func131, Tryz.ntmps131
 go_wp2_with fail
 refine hsc.mono ?_
 rintro e w' ⟨he, rfl⟩
 obtain rfl := he
 clear hsc
 go_wp2
 go_quiet (fail)
 go_wp2
 go_ret3
 exact ⟨rfl, _, rfl⟩
set_option maxRecDepth 20000 in
set_option maxHeartbeats 400000 in
theorem count1_bad (r g m : Nat) (s : List UInt8) (at_ : Nat) (most : Int) (w : World) (hc : w.cell? ⟨r, 0, none⟩ = some (.string ⟨s.toArray⟩)) (hg : w.cell? ⟨g, 0, none⟩ = some (.pointer (some ⟨r, 0, none⟩))) (hm : w.cell? ⟨m, 0, none⟩ = some (.int .i64 most)) (hs : s.length ≤ 1099511627776) (ha : at_ ≤ s.length)
 (hu : Cd.readUint s at_ = none) :
 Calls Tryz.prog 131 #[.int .i64 at_, .pointer (some ⟨g, 0, none⟩), .pointer (some ⟨m, 0, none⟩)] w fun e w' => (∃ x y : Int, e = .returned (.tuple #[.int .i64 x, .int .i64 y, .bool false])) ∧ ∃ k, w' = w.drewN k := by
 have hsc := size_spec r s at_ w hc hs ha
 rw [hu] at hsc
 clear hu
 go_enter Tryz.func131, Tryz.ntmps131
 go_wp2_with fail
 refine hsc.mono ?_
 rintro e w' ⟨⟨x, y, rfl⟩, rfl⟩
 clear hsc
 go_wp2
 go_quiet (fail)
 go_wp2
 go_ret3
 exact ⟨⟨_, _, rfl⟩, _, rfl⟩
theorem newReader_spec (s : List UInt8) (w : World) :
 Calls Tryz.prog 73 #[.string ⟨s.toArray⟩] w fun e w' => e = .returned (.pointer (some ⟨w.heap.size, 0, none⟩)) ∧ Rr w' w.heap.size s 0 0 ∧ Below w.heap.size w w' := by
 go_enter Tryz.func73, Tryz.ntmps73
 go_wp2
 go_ret
 exact ⟨rfl, Blk.new w _ _, (Below.refl _ w).alloc (Nat.le_refl _) _⟩
theorem error_spec (r : Nat) (s : List UInt8) (at_ : Nat) (e : Int) (w : World) (h : Rr w r s at_ e) :
 Calls Tryz.prog 78 #[.pointer (some ⟨r, 0, none⟩)] w fun e' w' => e' = .returned (.int .i64 e) ∧ w = w' := by
 have c2 := h.c2
 clear h
 go_enter Tryz.func78, Tryz.ntmps78
 go_wp2
 go_ret
 exact ⟨rfl, rfl⟩
def endR (s : List UInt8) (at_ : Nat) (e : Int) : Int := if e = 0 ∧ at_ < s.length then 9 else e
theorem end_spec (r : Nat) (s : List UInt8) (at_ : Nat) (e : Int) (w : World) (h : Rr w r s at_ e) :
 Calls Tryz.prog 79 #[.pointer (some ⟨r, 0, none⟩)] w fun e' w' => e' = .returned (.int .i64 (endR s at_ e)) ∧ ∃ k, w' = w.drewN k := by
 have c0 := h.c0
 have c1 := h.c1
 have c2 := h.c2
 clear h
 by_cases he : e = 0
 ·subst he
  by_cases hl : at_ < s.length
  ·have hx : endR s at_ 0 = 9 := if_pos ⟨rfl, hl⟩
   rw [hx]
   have hl' : decide ((at_ : Int) < (s.length : Int)) = true := by simpa using hl
   have hl2 : (at_ : Int) < (s.length : Int) := by omega
   clear hl hx
   go_enter Tryz.func79, Tryz.ntmps79
   go_wp2
   go_quiet (fail)
   go_wp2
   go_ret
   exact ⟨rfl, _, rfl⟩
  ·have hx : endR s at_ 0 = 0 := if_neg (by omega)
   rw [hx]
   have hl' : decide ((at_ : Int) < (s.length : Int)) = false := by simpa using hl
   have hl2 : (s.length : Int) ≤ (at_ : Int) := by omega
   clear hl hx
   go_enter Tryz.func79, Tryz.ntmps79
   go_wp2
   go_quiet (fail)
   go_wp2
   go_ret
   exact ⟨rfl, _, rfl⟩
 ·have hx : endR s at_ e = e := if_neg (by omega)
  rw [hx]
  have h2 : (e == 0) = false := by simpa using he
  clear he hx
  go_enter Tryz.func79, Tryz.ntmps79
  go_wp2
  go_quiet (fail)
  go_wp2
  go_ret
  exact ⟨rfl, _, rfl⟩
theorem readCount_none {s : List UInt8} {at_ : Nat} {m : Int} (h : Cd.readUint s at_ = none) : Cd.readCount s at_ m = none := by simp [Cd.readCount, h]
theorem readCount_some {s : List UInt8} {at_ n next : Nat} {m : Int} (h : Cd.readUint s at_ = some (n, next)) (hm : (n : Int) ≤ m) : Cd.readCount s at_ m = some (n, next) := by simp only [Cd.readCount, h]; rw [if_pos hm]
theorem readCount_big {s : List UInt8} {at_ n next : Nat} {m : Int} (h : Cd.readUint s at_ = some (n, next)) (hm : ¬ (n : Int) ≤ m) : Cd.readCount s at_ m = none := by simp only [Cd.readCount, h]; rw [if_neg hm]
def MethP (r : Nat) (s : List UInt8) (v : Value) (next : Nat) (e : Int) (w : World) (e' : Ending) (w' : World) : Prop :=
 e' = .returned v ∧ Rr w' r s next e ∧ Mod (fun k => k = r) w w'
theorem MethP.same {r : Nat} {s : List UInt8} {v : Value} {at_ : Nat} {e : Int} {w : World} (h : Rr w r s at_ e) : MethP r s v at_ e w (.returned v) w := ⟨rfl, h, Mod.refl _ w⟩
theorem uintT_spec (r : Nat) (s : List UInt8) (at_ : Nat) (e : Int) (w : World) (h : Rr w r s at_ e) (hs : s.length ≤ 1099511627776) (ha : at_ ≤ s.length) :
 Calls Tryz.prog 128 #[.pointer (some ⟨r, 0, none⟩), .func (.func 129) #[.pointer (some ⟨r, 0, none⟩)] #[]] w (MethP r s (.int .i64 (uintR s at_ e).1) (uintR s at_ e).2.1 (uintR s at_ e).2.2 w) := by
 unfold uintR
 by_cases he : e = 0
 ·subst he
  rw [if_neg (by simp)]
  cases hu : Cd.readUint s at_ with
  | none => exact uintT_bad r s at_ w h fun w1 hc => (size_spec r s at_ w1 hc hs ha).mono fun e' w' ⟨a, b⟩ => by rw [hu] at a; exact ⟨a, b⟩
  | some q => exact uintT_ok r s at_ w h q.1 q.2 fun w1 hc => (size_spec r s at_ w1 hc hs ha).mono fun e' w' ⟨a, b⟩ => by rw [hu] at a; exact ⟨a, b⟩
 ·rw [if_pos he]
  exact (uintT_no r s at_ e w h he).mono fun e' w' ⟨a, b⟩ => by subst a; subst b; exact .same h
theorem textT_spec (r : Nat) (s : List UInt8) (at_ : Nat) (e : Int) (w : World) (h : Rr w r s at_ e) (hs : s.length ≤ 1099511627776) (ha : at_ ≤ s.length) :
 Calls Tryz.prog 126 #[.pointer (some ⟨r, 0, none⟩), .func (.func 127) #[.pointer (some ⟨r, 0, none⟩)] #[]] w (MethP r s (.string ⟨(textR s at_ e).1.toArray⟩) (textR s at_ e).2.1 (textR s at_ e).2.2 w) := by
 unfold textR
 by_cases he : e = 0
 ·subst he
  rw [if_neg (by simp)]
  cases hu : Cd.readText s at_ with
  | none => exact textT_bad r s at_ w h fun w1 hc => (rtext_spec r s at_ w1 hc hs ha).mono fun e' w' ⟨a, b⟩ => by rw [hu] at a; exact ⟨a, b⟩
  | some q => exact textT_ok r s at_ w h q.1 q.2 fun w1 hc => (rtext_spec r s at_ w1 hc hs ha).mono fun e' w' ⟨a, b⟩ => by rw [hu] at a; exact ⟨a, b⟩
 ·rw [if_pos he]
  exact (textT_no r s at_ e w h he).mono fun e' w' ⟨a, b⟩ => by subst a; subst b; exact .same h
theorem countT_spec (r g m : Nat) (s : List UInt8) (at_ : Nat) (e most : Int) (w : World) (h : Rr w r s at_ e) (hg : w.cell? ⟨g, 0, none⟩ = some (.pointer (some ⟨r, 0, none⟩))) (hm : w.cell? ⟨m, 0, none⟩ = some (.int .i64 most)) (hs : s.length ≤ 1099511627776) (ha : at_ ≤ s.length) :
 Calls Tryz.prog 128 #[.pointer (some ⟨r, 0, none⟩), .func (.func 131) #[] #[.pointer (some ⟨g, 0, none⟩), .pointer (some ⟨m, 0, none⟩)]] w (MethP r s (.int .i64 (countR s at_ e most).1) (countR s at_ e most).2.1 (countR s at_ e most).2.2 w) := by
 unfold countR
 by_cases he : e = 0
 ·subst he
  rw [if_neg (by simp)]
  cases hu : Cd.readUint s at_ with
  | none => rw [readCount_none hu]; exact countT_bad r s at_ g m most w h hg hm fun w1 hc hg1 hm1 => count1_bad r g m s at_ most w1 hc hg1 hm1 hs ha hu
  | some q =>
    by_cases hq : (q.1 : Int) ≤ most
    ·rw [readCount_some hu hq]; exact countT_ok r s at_ g m most w h hg hm _ q.2 fun w1 hc hg1 hm1 => count1_ok r g m s at_ q.1 q.2 most w1 hc hg1 hm1 hs ha hu true (by simpa using hq)
    ·rw [readCount_big hu hq]
     exact countT_bad r s at_ g m most w h hg hm fun w1 hc hg1 hm1 => (count1_ok r g m s at_ q.1 q.2 most w1 hc hg1 hm1 hs ha hu false (by simpa using hq)).mono fun e' w' ⟨a, b⟩ => ⟨⟨_, _, a⟩, b⟩
 ·rw [if_pos he]
  exact (countT_no r s at_ e g m most w h he).mono fun e' w' ⟨a, b⟩ => by subst a; subst b; exact .same h
theorem ruint_spec (r : Nat) (s : List UInt8) (at_ : Nat) (e : Int) (w : World) (h : Rr w r s at_ e) (hs : s.length ≤ 1099511627776) (ha : at_ ≤ s.length) :
 Calls Tryz.prog 75 #[.pointer (some ⟨r, 0, none⟩)] w (MethP r s (.int .i64 (uintR s at_ e).1) (uintR s at_ e).2.1 (uintR s at_ e).2.2 w) := by
 have ht := uintT_spec r s at_ e w h hs ha
 clear h
 go_enter Tryz.func75, Tryz.ntmps75
 go_wp2_with fail
 refine ht.mono ?_
 rintro e' w' ⟨rfl, h1, h2⟩
 go_wp2
 go_ret
 exact ⟨rfl, h1, h2⟩
theorem rtextm_spec (r : Nat) (s : List UInt8) (at_ : Nat) (e : Int) (w : World) (h : Rr w r s at_ e) (hs : s.length ≤ 1099511627776) (ha : at_ ≤ s.length) :
 Calls Tryz.prog 74 #[.pointer (some ⟨r, 0, none⟩)] w (MethP r s (.string ⟨(textR s at_ e).1.toArray⟩) (textR s at_ e).2.1 (textR s at_ e).2.2 w) := by
 have ht := textT_spec r s at_ e w h hs ha
 clear h
 go_enter Tryz.func74, Tryz.ntmps74
 go_wp2_with fail
 refine ht.mono ?_
 rintro e' w' ⟨rfl, h1, h2⟩
 go_wp2
 go_ret
 exact ⟨rfl, h1, h2⟩
theorem mod_alloc_first {S : Nat → Prop} {w w' : World} (o : Obj) (h : Mod S (w.alloc o) w') : Mod S w w' :=
 ((Mod.refl S w).alloc o).trans' h (fun _ _ h => h)
theorem rcount_spec (r : Nat) (s : List UInt8) (at_ : Nat) (e most : Int) (w : World) (h : Rr w r s at_ e) (hs : s.length ≤ 1099511627776) (ha : at_ ≤ s.length) :
 Calls Tryz.prog 77 #[.pointer (some ⟨r, 0, none⟩), .int .i64 most] w (MethP r s (.int .i64 (countR s at_ e most).1) (countR s at_ e most).2.1 (countR s at_ e most).2.2 w) := by
 have ht := fun o1 o2 hg hm => countT_spec r w.heap.size (w.heap.size + 1) s at_ e most ((w.alloc o1).alloc o2) (Blk.alloc (Blk.alloc h _) _) hg hm hs ha
 clear h
 go_enter Tryz.func77, Tryz.ntmps77
 go_wp2_with fail
 refine (ht _ _ ?_ ?_).mono ?_
 ·exact below_cell ((Below.refl _ _).alloc (Nat.le_refl _) _) (one_new _ _ _)
 ·simp
 ·rintro e' w' ⟨rfl, h1, h2⟩
  go_wp2
  go_ret
  exact ⟨rfl, h1, mod_alloc_first _ (mod_alloc_first _ h2)⟩
end Go.Proofs.YtjjpdnpbhdcpbaaGreat
namespace Go.Proofs.YtjjpdnpbhdcpbaaGreat
set_option linter.unusedVariables false
open Go.RowKit
theorem info_strc : (Tryz.prog.info? 9).map (fun i => (i.zero, i.size, i.bytes)) = some (some (.string ⟨#[]⟩), 1, 16) := by kernel_rfl
def joinM (pre : List (List UInt8)) : Option (List (List UInt8) × Nat) → Option (List (List UInt8) × Nat)
 | some (r, e) => some (pre ++ r, e)
 | none => none
theorem joinM_step {s x : List UInt8} {k at_ next : Nat} {pre : List (List UInt8)} (h : Cd.readText s at_ = some (x, next)) : joinM pre (Cd.readMany s (k + 1) at_) = joinM (pre ++ [x]) (Cd.readMany s k next) := by
 simp only [Cd.readMany, h]
 cases Cd.readMany s k next with
 | none => rfl
 | some q => simp [joinM]
theorem joinM_bad {s : List UInt8} {k at_ : Nat} {pre : List (List UInt8)} (h : Cd.readText s at_ = none) : joinM pre (Cd.readMany s (k + 1) at_) = none := by
 simp only [Cd.readMany, h]; rfl
theorem joinM_nil (o : Option (List (List UInt8) × Nat)) : joinM [] o = o := by cases o <;> simp [joinM]
def TextsP (B : Nat) (o : Option (List (List UInt8) × Nat)) (e : Ending) (w' : World) : Prop :=
 match o with
 | some (L, next) => ∃ v, e = .returned (.tuple #[v, .int .i64 next, .bool true]) ∧ w'.ownsRow B 9 1 v L.length (strs L)
 | none => ∃ y : Int, e = .returned (.tuple #[.slice none 0 0, .int .i64 y, .bool false])
theorem readTexts_none {s : List UInt8} {at_ : Nat} (h : Cd.readUint s at_ = none) : Cd.readTexts s at_ = none := by simp [Cd.readTexts, h]
theorem readTexts_big {s : List UInt8} {at_ n next : Nat} (h : Cd.readUint s at_ = some (n, next)) (hn : ¬ n ≤ s.length - next) : Cd.readTexts s at_ = none := by simp only [Cd.readTexts, h]; rw [if_neg hn]
theorem readTexts_some {s : List UInt8} {at_ n next : Nat} (h : Cd.readUint s at_ = some (n, next)) (hn : n ≤ s.length - next) : Cd.readTexts s at_ = Cd.readMany s n next := by simp only [Cd.readTexts, h]; rw [if_pos hn]
theorem made_strs (n : Nat) : (madeCells #[Value.string ⟨#[]⟩] n).toList = strs [] ++ List.replicate n (.string ⟨#[]⟩) :=
 toList_madeCells_one _ n
theorem set_strs {pre : List (List UInt8)} {x : List UInt8} {n k : Nat} (hk : pre.length = k) (hn : k < n) :
 (strs pre ++ List.replicate (n - k) (Value.string ⟨#[]⟩)).set k (.string ⟨x.toArray⟩) = strs (pre ++ [x]) ++ List.replicate (n - (k + 1)) (Value.string ⟨#[]⟩) := by
 subst hk
 rw [List.set_append_right _ _ (by simp [strs])]
 have : n - pre.length = (n - (pre.length + 1)) + 1 := by omega
 rw [this, List.replicate_succ]
 simp [strs]
set_option maxRecDepth 20000 in
set_option maxHeartbeats 1000000 in
theorem texts1_spec (r g : Nat) (s : List UInt8) (at_ : Nat) (w : World) (hc : w.cell? ⟨r, 0, none⟩ = some (.string ⟨s.toArray⟩)) (hg : w.cell? ⟨g, 0, none⟩ = some (.pointer (some ⟨r, 0, none⟩))) (hs : s.length ≤ 1099511627776) (ha : at_ ≤ s.length) :
 Calls Tryz.prog 165 #[.int .i64 at_, .pointer (some ⟨g, 0, none⟩)] w fun e w' => TextsP w.heap.size (Cd.readTexts s at_) e w' ∧ Below w.heap.size w w' := by
 have hsc := size_spec r s at_ w hc hs ha
 cases hu : Cd.readUint s at_ with
 | none =>
   rw [readTexts_none hu]
   rw [hu] at hsc
   clear hu
   go_enter Tryz.func165, Tryz.ntmps165
   go_wp2_with fail
   refine hsc.mono ?_
   rintro e w' ⟨⟨x, y, rfl⟩, rfl⟩
   clear hsc
   go_wp2
   go_ret3
   exact ⟨⟨_, rfl⟩, Below.refl _ _⟩
 | some q =>
   obtain ⟨n, next⟩ := q
   obtain ⟨hle1, hle2, hle3⟩ := Cd.readUint_le hu ha
   have hle4 : (n : Int) ≤ 9223372036854775807 := by omega
   by_cases hn : n ≤ s.length - next
   ·rw [readTexts_some hu hn]
    rw [hu] at hsc
    clear hu hle3
    have hn2 : (n : Int) ≤ (s.length : Int) - (next : Int) := by omega
    obtain ⟨i0, hi, hz0, hz1, hz2⟩ := info_parts info_strc
    go_enter Tryz.func165, Tryz.ntmps165
    go_wp2_with fail
    refine hsc.mono ?_
    rintro e w' ⟨he, rfl⟩
    obtain rfl := he
    clear hsc
    go_wp2_with (at_make; go_must (refine wpList_make_full _ rfl _ _ 27 rfl w.heap.size 9 i0 (.string ⟨#[]⟩) 1 Tryz.underlying27 hi hz0 hz1 .i64 .i64 _ _ n rfl rfl rfl rfl (by rw [hz2]; omega) (by unfold maxLen; omega) (Nat.le_refl _) ?_))
    intro w1 hown1 hg1
    have hb1 : Below w.heap.size w w1 := (Below.refl _ w).grown hg1 (Nat.le_refl _) (fun k hk => by cases hk)
    have hr0 : r < w.heap.size := World.block_lt_of_cell? w ⟨r, 0, none⟩ hc
    have hg0 : g < w.heap.size := World.block_lt_of_cell? w ⟨g, 0, none⟩ hg
    rw [made_strs] at hown1
    clear hg1 hi hz0 hz1 hz2
    go_wp2
    go_loopw [34, 0, 7, 9] (fun i a _ _ wr => ∃ (k p : Nat) (pre : List (List UInt8)), k ≤ n ∧ pre.length = k ∧ i = .int .i64 k ∧ a = .int .i64 p ∧ p ≤ s.length ∧ Cd.readMany s n next = joinM pre (Cd.readMany s (n - k) p) ∧
     wr.ownsRow w.heap.size 9 1 (.slice (some ⟨w.heap.size, 0, none⟩) n n) n (strs pre ++ List.replicate (n - k) (.string ⟨#[]⟩)) ∧ Below w.heap.size w wr) (fun i _ _ _ _ => n - (intOf i).toNat)
    case atStart => exact ⟨0, next, [], Nat.zero_le _, rfl, rfl, rfl, hle2, (joinM_nil _).symm, hown1, hb1⟩
    case round =>
     obtain ⟨k, p, pre, hk, hpre, rfl, rfl, hp, hj, hown, hbel⟩ := hrel
     have c0 : wr.cell? ⟨r, 0, none⟩ = some (.string ⟨s.toArray⟩) := (hbel.cell (p := ⟨r, 0, none⟩) hr0).trans hc
     have cg : wr.cell? ⟨g, 0, none⟩ = some (.pointer (some ⟨r, 0, none⟩)) := (hbel.cell (p := ⟨g, 0, none⟩) hg0).trans hg
     have HJ := Lib.hid hj; have HP := Lib.hid hpre; have HC := Lib.hid hc; have HG := Lib.hid hg; have HO := Lib.hid hown; have HO1 := Lib.hid hown1
     clear hj hpre hc hg hown hown1
     by_cases hlt : k < n
     ·have htx := rtext_spec r s p wr c0 hs hp
      have hcell : wr.cell? ⟨w.heap.size, k, none⟩ = some (.string ⟨#[]⟩) := by
       rw [HO.out.cellAt k (by omega), List.getElem?_append_right (by simp [strs, HP.out])]
       simp [strs, HP.out, List.getElem?_replicate]; omega
      have hfz : wr.frozen? ⟨w.heap.size, k, none⟩ = false := HO.out.frozenAt k
      cases hrt : Cd.readText s p with
      | none =>
        rw [hrt] at htx
        have HR := Lib.hid hrt; clear hrt
        go_wp2_with fail
        refine htx.mono ?_
        rintro e w' ⟨⟨y, rfl⟩, rfl⟩
        clear htx
        go_wp2
        go_ret3
        refine ⟨?_, hbel.setCell (p := ⟨w.heap.size, k, none⟩) (Nat.le_refl _) _⟩
        rw [HJ.out, show n - k = (n - k - 1) + 1 from by omega, joinM_bad HR.out]
        exact ⟨_, rfl⟩
      | some q =>
        obtain ⟨x, p'⟩ := q
        have hle := Cd.readText_le hrt hp
        rw [hrt] at htx
        have HR := Lib.hid hrt; clear hrt
        go_wp2_with fail
        refine htx.mono ?_
        rintro e w' ⟨he, rfl⟩
        obtain rfl := he
        clear htx
        go_wp2
        go_roundw
        case rel =>
         refine ⟨k + 1, p', pre ++ [x], by omega, by simp [HP.out], by go_num, rfl, hle.2.1, ?_, ?_, hbel.setCell (p := ⟨w.heap.size, k, none⟩) (Nat.le_refl _) _⟩
         ·rw [HJ.out, show n - k = (n - (k + 1)) + 1 from by omega, joinM_step HR.out]
         ·have := (HO.out.stored k (.string ⟨x.toArray⟩)).1
          rwa [set_strs HP.out hlt] at this
        case measure => simp [intOf]; omega
     ·have hkn : n ≤ k := by omega
      go_wp2
      go_ret3
      refine ⟨?_, hbel⟩
      obtain rfl : k = n := by omega
      rw [HJ.out, Nat.sub_self]
      have hO := HO.out
      rw [Nat.sub_self] at hO
      simp only [List.replicate_zero, List.append_nil] at hO
      have hj2 : joinM pre (Cd.readMany s 0 p) = some (pre, p) := by simp [Cd.readMany, joinM]
      rw [hj2]
      exact ⟨_, rfl, by simpa [HP.out] using hO⟩
   ·rw [readTexts_big hu hn]
    rw [hu] at hsc
    clear hu hle3
    have hn2 : (s.length : Int) - (next : Int) < (n : Int) := by omega
    clear hn
    go_enter Tryz.func165, Tryz.ntmps165
    go_wp2_with fail
    refine hsc.mono ?_
    rintro e w' ⟨he, rfl⟩
    obtain rfl := he
    clear hsc
    go_wp2
    go_ret3
    exact ⟨⟨_, rfl⟩, Below.refl _ _⟩
def textsR (s : List UInt8) (at_ : Nat) (e : Int) : List (List UInt8) × Nat × Int := if e ≠ 0 then ([], at_, e) else match Cd.readTexts s at_ with
 | some (n, next) => (n, next, 0)
 | none => ([], at_, 9)
theorem textsT_no (r g : Nat) (s : List UInt8) (at_ : Nat) (e : Int) (w : World) (h : Rr w r s at_ e) (he : e ≠ 0) :
 Calls Tryz.prog 164 #[.pointer (some ⟨r, 0, none⟩), .func (.func 165) #[] #[.pointer (some ⟨g, 0, none⟩)]] w fun e' w' => e' = .returned (.slice none 0 0) ∧ w = w' := by
 have c2 := h.c2
 have h2 : (e == 0) = false := by simpa using he
 have h3 : (e != 0) = true := by simpa using he
 clear he h
 go_enter Tryz.func164, Tryz.ntmps164
 go_wp2
 go_ret
 exact ⟨rfl, rfl⟩
set_option maxHeartbeats 400000 in
theorem textsT_ok (r g : Nat) (s : List UInt8) (at_ : Nat) (w : World) (h : Rr w r s at_ 0) (hg : w.cell? ⟨g, 0, none⟩ = some (.pointer (some ⟨r, 0, none⟩))) (hs : s.length ≤ 1099511627776) (ha : at_ ≤ s.length)
 (L : List (List UInt8)) (next : Nat) (hu : Cd.readTexts s at_ = some (L, next)) :
 Calls Tryz.prog 164 #[.pointer (some ⟨r, 0, none⟩), .func (.func 165) #[] #[.pointer (some ⟨g, 0, none⟩)]] w fun e' w' =>
  (∃ v, e' = .returned v ∧ w'.ownsRow w.heap.size 9 1 v L.length (strs L)) ∧ Rr w' r s next 0 ∧ Mod (fun k => k = r) w w' := by
 have c1 := h.c1
 have c2 := h.c2
 have hf := texts1_spec r g s at_ w h.c0 hg hs ha
 rw [hu] at hf
 have HH := Lib.hid h; clear h hu hg
 go_enter Tryz.func164, Tryz.ntmps164
 go_wp2_with fail
 refine hf.mono ?_
 rintro e w' ⟨⟨v, rfl, hown⟩, hb⟩
 have h1 := HH.out.below hb
 have f1 : w'.frozen? ⟨r, 1, none⟩ = false := Blk.frozen h1 1
 have d1 := h1.c1
 have H1 := Lib.hid h1; have HB := Lib.hid hb; have HO := Lib.hid hown
 clear hf h1 hb hown
 go_wp2
 go_ret
 refine ⟨⟨_, rfl, ?_⟩, H1.out.at1, (Mod.of_below HB.out _).trans (mod_set w' r 1 _)⟩
 exact (mod_set w' r 1 _).owns HO.out (fun k hk e => by have := (HO.out.lt k hk).1; have := Blk.lt HH.out; omega)
set_option maxHeartbeats 400000 in
theorem textsT_bad (r g : Nat) (s : List UInt8) (at_ : Nat) (w : World) (h : Rr w r s at_ 0) (hg : w.cell? ⟨g, 0, none⟩ = some (.pointer (some ⟨r, 0, none⟩))) (hs : s.length ≤ 1099511627776) (ha : at_ ≤ s.length)
 (hu : Cd.readTexts s at_ = none) :
 Calls Tryz.prog 164 #[.pointer (some ⟨r, 0, none⟩), .func (.func 165) #[] #[.pointer (some ⟨g, 0, none⟩)]] w fun e' w' =>
  e' = .returned (.slice none 0 0) ∧ Rr w' r s at_ 9 ∧ Mod (fun k => k = r) w w' := by
 have c1 := h.c1
 have c2 := h.c2
 have hf := texts1_spec r g s at_ w h.c0 hg hs ha
 rw [hu] at hf
 have HH := Lib.hid h; clear h hu hg
 go_enter Tryz.func164, Tryz.ntmps164
 go_wp2_with fail
 refine hf.mono ?_
 rintro e w' ⟨⟨y, rfl⟩, hb⟩
 have h1 := HH.out.below hb
 have f1 : w'.frozen? ⟨r, 2, none⟩ = false := Blk.frozen h1 2
 have d2 := h1.c2
 have H1 := Lib.hid h1; have HB := Lib.hid hb
 clear hf h1 hb
 go_wp2
 go_ret
 exact ⟨rfl, H1.out.at2, (Mod.of_below HB.out _).trans (mod_set w' r 2 _)⟩
def MethT (r B : Nat) (s : List UInt8) (L : List (List UInt8)) (next : Nat) (e : Int) (w : World) (e' : Ending) (w' : World) : Prop :=
 ∃ v, e' = .returned v ∧ w'.ownsRow B 9 1 v L.length (strs L) ∧ Rr w' r s next e ∧ Mod (fun k => k = r) w w'
theorem textsT_spec (r g : Nat) (s : List UInt8) (at_ : Nat) (e : Int) (w : World) (h : Rr w r s at_ e) (hg : w.cell? ⟨g, 0, none⟩ = some (.pointer (some ⟨r, 0, none⟩))) (hs : s.length ≤ 1099511627776) (ha : at_ ≤ s.length) :
 Calls Tryz.prog 164 #[.pointer (some ⟨r, 0, none⟩), .func (.func 165) #[] #[.pointer (some ⟨g, 0, none⟩)]] w (MethT r w.heap.size s (textsR s at_ e).1 (textsR s at_ e).2.1 (textsR s at_ e).2.2 w) := by
 unfold textsR
 by_cases he : e = 0
 ·subst he
  rw [if_neg (by simp)]
  cases hu : Cd.readTexts s at_ with
  | none => exact (textsT_bad r g s at_ w h hg hs ha hu).mono fun e' w' ⟨a, b, c⟩ => ⟨_, a, World.ownsRow_nil _ _ _ _, b, c⟩
  | some q => exact (textsT_ok r g s at_ w h hg hs ha q.1 q.2 hu).mono fun e' w' ⟨⟨v, a, o⟩, b, c⟩ => ⟨v, a, o, b, c⟩
 ·rw [if_pos he]
  exact (textsT_no r g s at_ e w h he).mono fun e' w' ⟨a, b⟩ => by subst a; subst b; exact ⟨_, rfl, World.ownsRow_nil _ _ _ _, h, Mod.refl _ w⟩
theorem rtexts_spec (r : Nat) (s : List UInt8) (at_ : Nat) (e : Int) (w : World) (h : Rr w r s at_ e) (hs : s.length ≤ 1099511627776) (ha : at_ ≤ s.length) :
 Calls Tryz.prog 130 #[.pointer (some ⟨r, 0, none⟩)] w (MethT r w.heap.size s (textsR s at_ e).1 (textsR s at_ e).2.1 (textsR s at_ e).2.2 w) := by
 have ht := fun o hg => textsT_spec r w.heap.size s at_ e (w.alloc o) (Blk.alloc h _) hg hs ha
 clear h
 go_enter Tryz.func130, Tryz.ntmps130
 go_wp2_with fail
 refine (ht _ (one_new _ _ _)).mono ?_
 rintro e' w' ⟨v, rfl, h0, h1, h2⟩
 clear ht
 go_wp2
 go_ret
 refine ⟨_, rfl, owns_base h0 (fun k hk => ?_), h1, mod_alloc_first _ h2⟩
 have := (h0.lt k hk).1
 simp at this
 omega
theorem uintR_le {s : List UInt8} {at_ : Nat} {e : Int} (ha : at_ ≤ s.length) : (uintR s at_ e).2.1 ≤ s.length := by
 unfold uintR
 split
 ·exact ha
 ·cases h : Cd.readUint s at_ with
  | none => exact ha
  | some q => exact (Cd.readUint_le h ha).2.1
theorem countR_le {s : List UInt8} {at_ : Nat} {e m : Int} (ha : at_ ≤ s.length) : (countR s at_ e m).2.1 ≤ s.length := by
 unfold countR
 split
 ·exact ha
 ·cases h : Cd.readUint s at_ with
  | none => rw [readCount_none h]; exact ha
  | some q =>
    by_cases hq : (q.1 : Int) ≤ m
    ·rw [readCount_some h hq]; exact (Cd.readUint_le h ha).2.1
    ·rw [readCount_big h hq]; exact ha
theorem textR_le {s : List UInt8} {at_ : Nat} {e : Int} (ha : at_ ≤ s.length) : (textR s at_ e).2.1 ≤ s.length := by
 unfold textR
 split
 ·exact ha
 ·cases h : Cd.readText s at_ with
  | none => exact ha
  | some q => exact (Cd.readText_le h ha).2.1
theorem textsR_le {s : List UInt8} {at_ : Nat} {e : Int} (ha : at_ ≤ s.length) : (textsR s at_ e).2.1 ≤ s.length := by
 unfold textsR
 split
 ·exact ha
 ·cases h : Cd.readTexts s at_ with
  | none => exact ha
  | some q =>
    cases hu : Cd.readUint s at_ with
    | none => rw [readTexts_none hu] at h; cases h
    | some p =>
      by_cases hp : p.1 ≤ s.length - p.2
      ·rw [readTexts_some hu hp] at h
       exact (Cd.readMany_le h (Cd.readUint_le hu ha).2.1).2.1
      ·rw [readTexts_big hu hp] at h; cases h
end Go.Proofs.YtjjpdnpbhdcpbaaGreat
namespace Go.Proofs.YtjjpdnpbhdcpbaaGreat
set_option linter.unusedVariables false
open Go.RowKit
end Go.Proofs.YtjjpdnpbhdcpbaaGreat
namespace Go.Proofs.YtjjpdnpbhdcpbaaGreat
set_option linter.unusedVariables false
open Go.RowKit
end Go.Proofs.YtjjpdnpbhdcpbaaGreat
