/-
  What the reference reads: readUnsigned, ReadUint, ReadInt, ReadText, ReadTexts. Conditions: the offset lies in the string, the string has at most 2^40 bytes.
-/
import Derived.Test.YtalailodnmfmlaaCodecR5
namespace Go.Proofs.Ytalailodnmfmlaa
set_option linter.unusedVariables false
open Go.RowKit

theorem addStep (acc k x : Nat) (hacc : acc < 2 ^ (7 * k)) (h : k ≤ 8 ∨ (k = 9 ∧ x ≤ 1)) :
    IntKind.u64.wrap ((acc : Int) + IntKind.u64.wrap ((x : Int) % 128 * 2 ^ (7 * k))) = ((acc + 2 ^ (7 * k) * (x % 128) : Nat) : Int) := by
  have hp := pow7 k (by omega)
  have hm : x % 128 * 2 ^ (7 * k) ≤ 9223372036854775808 := by
    rcases h with h | ⟨rfl, h⟩
    · have h2 : 2 ^ (7 * k) ≤ 2 ^ 56 := Nat.pow_le_pow_right (by decide) (by omega)
      calc x % 128 * 2 ^ (7 * k) ≤ 128 * 2 ^ 56 := Nat.mul_le_mul (by omega) h2
        _ ≤ 9223372036854775808 := by decide
    · have : x % 128 ≤ 1 := by omega
      calc x % 128 * 2 ^ (7 * 9) ≤ 1 * 2 ^ (7 * 9) := Nat.mul_le_mul_right _ this
        _ ≤ 9223372036854775808 := by decide
  have e2 : (x : Int) % 128 * 2 ^ (7 * k) = ((x % 128 * 2 ^ (7 * k) : Nat) : Int) := by simp
  rw [e2, IntKind.wrap_u64, IntKind.wrap_u64, Nat.mul_comm (2 ^ (7 * k))]
  omega

theorem addStep9 (acc x : Nat) (hacc : acc < 2 ^ (7 * 9)) (h : x ≤ 1) :
    IntKind.u64.wrap ((acc : Int) + (x : Int) % 128 * 9223372036854775808) = ((acc + 2 ^ (7 * 9) * (x % 128) : Nat) : Int) := by
  simp at hacc
  rw [IntKind.wrap_u64, show (2 : Nat) ^ (7 * 9) = 9223372036854775808 from rfl]
  omega
theorem scanP_some' {s : List UInt8} {at_ n next : Nat} {x y : Int} {t : Bool} (h : Cd.readUns s at_ = some (n, next)) (hx : x = n) (hy : y = next) (ht : t = true) : ScanP (Cd.readUns s at_) (.returned (.tuple #[.int .u64 x, .int .i64 y, .bool t])) := by
  subst ht; exact scanP_some h hx hy
theorem scanP_none' {s : List UInt8} {at_ n next : Nat} {x y : Int} {t : Bool} (h : Cd.readUns s at_ = none) (hx : x = n) (hy : y = next) (ht : t = false) (hn : n < 18446744073709551616) (hm : next ≤ 2199023255552) : ScanP (Cd.readUns s at_) (.returned (.tuple #[.int .u64 x, .int .i64 y, .bool t])) := by
  subst ht; exact scanP_none h hx hy hn hm

set_option maxRecDepth 20000 in
set_option maxHeartbeats 1000000 in
theorem readUns_ref (s : List UInt8) (at_ : Nat) (w : World) (hs : s.length ≤ 1099511627776) (ha : at_ ≤ s.length) :
    Calls Try.prog 55 #[.string ⟨s.toArray⟩, .int .i64 at_] w fun e w' => ScanP (Cd.readUns s at_) e ∧ w = w' := by
  go_enter Try.func55, Try.ntmps55
  go_wp2
  go_loop [7, 8, 9] (fun n i _ => ∃ (k acc : Nat), k ≤ 9 ∧ at_ + k ≤ s.length ∧ i = .int .i64 (k : Nat) ∧ n = .int .u64 acc ∧ acc < 2 ^ (7 * k) ∧
      Cd.dec (s.drop at_) = (Cd.decF (10 - k) k (s.drop (at_ + k))).map (fun q => (acc + 2 ^ (7 * k) * q.1, q.2 + k))) (fun _ i _ => (10 - intOf i).toNat)
  case atStart => exact ⟨0, 0, by omega, by simpa using ha, rfl, rfl, by simp, by simp [Cd.dec]⟩
  case round =>
    obtain ⟨k, acc, hk, hkl, rfl, rfl, hacc, hd⟩ := hrel
    have HD := Lib.hid hd; have HA := Lib.hid hacc
    clear hd hacc
    have hsum0 : (0 : Int) ≤ (at_ : Int) + (k : Int) := by omega
    by_cases hlt : at_ + k < s.length
    · obtain ⟨b, hb, hdrop⟩ : ∃ b : UInt8, (∀ h, (⟨s.toArray⟩ : ByteArray)[at_ + k]'h = b) ∧ s.drop (at_ + k) = b :: s.drop (at_ + (k + 1)) :=
        ⟨s[at_ + k], fun h => rfl, by rw [List.drop_eq_getElem_cons hlt, Nat.add_assoc]⟩
      have hb255 : (b.toNat : Int) ≤ 255 := by have := Cd.u8_lt b; omega
      have HDR := Lib.hid hdrop; clear hdrop
      have hltI : (at_ : Int) + (k : Int) < (s.length : Int) := by omega
      by_cases hk9 : k = 9
      · subst hk9
        go_wp2
        · have h1 : (1 : Int) < (b.toNat : Int) := by assumption
          go_ret3
          exact ⟨scanP_none (n := 0) (next := 0) (scan_none HD.out HDR.out (by omega) (.inl ⟨rfl, by omega⟩)) rfl rfl (by omega) (by omega), rfl⟩
        · have h1 : (b.toNat : Int) ≤ 1 := by assumption
          go_ret3
          have := addStep9 acc b.toNat HA.out (by omega)
          refine ⟨?_, rfl⟩
          by_cases h0 : b.toNat = 0
          · exact scanP_none' (n := acc + 2 ^ (7 * 9) * (b.toNat % 128)) (next := at_ + 9 + 1) (scan_none HD.out HDR.out (by omega) (.inr ⟨h0, by omega⟩)) this (by go_num) (by simp [h0]) (by have := HA.out; simp [h0] at this ⊢; omega) (by omega)
          · exact scanP_some' (scan_last HD.out HDR.out (by omega) (by omega) (by omega) (.inl (by omega))) this (by go_num) (by simp [h0])
      · have hk8 : k ≤ 8 := by omega
        have hk9' : ((k : Int) == 9) = false := by simp; omega
        clear hk9
        by_cases hk0 : k = 0
        · have hk0' : ((k : Int) == 0) = true := by simp; omega
          have HK := Lib.hid hk0; clear hk0
          go_wp2
          · go_ret3
            exact ⟨scanP_some (scan_last HD.out HDR.out (by omega) (by omega) (by omega) (.inr HK.out)) (addStep acc k b.toNat HA.out (.inl hk8)) (by go_num), rfl⟩
          · go_round
            case rel => exact ⟨k + 1, acc + 2 ^ (7 * k) * (b.toNat % 128), by omega, by omega, by go_num, by rw [addStep acc k b.toNat HA.out (.inl hk8)], scan_lt HA.out, scan_more HD.out HDR.out hk8 (by omega)⟩
            case measure => simp [intOf]; omega
        · have hk0' : ((k : Int) == 0) = false := by simp; omega
          have HK := Lib.hid hk0; clear hk0
          go_wp2
          · go_ret3
            have := addStep acc k b.toNat HA.out (.inl hk8)
            have hp := pow7 k (by omega)
            refine ⟨?_, rfl⟩
            by_cases h0 : b.toNat = 0
            · exact scanP_none' (n := acc + 2 ^ (7 * k) * (b.toNat % 128)) (next := at_ + k + 1) (scan_none HD.out HDR.out (by omega) (.inr ⟨h0, by have := HK.out; omega⟩)) this (by go_num) (by simp [h0]) (by have := HA.out; simp [h0]; omega) (by omega)
            · exact scanP_some' (scan_last HD.out HDR.out (by omega) (by omega) (by omega) (.inl (by omega))) this (by go_num) (by simp [h0])
          · go_round
            case rel => exact ⟨k + 1, acc + 2 ^ (7 * k) * (b.toNat % 128), by omega, by omega, by go_num, by rw [addStep acc k b.toNat HA.out (.inl hk8)], scan_lt HA.out, scan_more HD.out HDR.out hk8 (by omega)⟩
            case measure => simp [intOf]; omega
    · have hlt' : (s.length : Int) ≤ (at_ : Int) + (k : Int) := by omega
      have HL := Lib.hid hlt; clear hlt
      go_wp2
      go_ret3
      exact ⟨scanP_none (n := 0) (next := 0) (scan_end HD.out (by omega) HL.out) rfl rfl (by omega) (by omega), rfl⟩

/-- the reference's answers are zero where nothing is read -/
def SizeZ (o : Option (Nat × Nat)) (e : Ending) : Prop :=
  match o with
  | some (n, next) => e = .returned (.tuple #[.int .i64 n, .int .i64 next, .bool true])
  | none => e = .returned (.tuple #[.int .i64 0, .int .i64 0, .bool false])
set_option maxRecDepth 20000 in
set_option maxHeartbeats 400000 in
theorem readUint_ref (s : List UInt8) (at_ : Nat) (w : World) (hs : s.length ≤ 1099511627776) (ha : at_ ≤ s.length) :
    Calls Try.prog 48 #[.string ⟨s.toArray⟩, .int .i64 at_] w fun e w' => SizeZ (Cd.readUint s at_) e ∧ w = w' := by
  have hsc := readUns_ref s at_ w hs ha
  cases hu : Cd.readUns s at_ with
  | none =>
    rw [readUint_none hu]
    rw [hu] at hsc
    clear hu
    go_enter Try.func48, Try.ntmps48
    go_wp2_with fail
    refine hsc.mono ?_
    rintro e w' ⟨⟨x, y, hx, hy, rfl⟩, rfl⟩
    clear hsc
    go_wp2
    go_ret3
    exact ⟨rfl, rfl⟩
  | some q =>
    obtain ⟨n, next⟩ := q
    have hle := Cd.readUns_le hu ha
    by_cases hn : n < 2 ^ 63
    · rw [readUint_some hu hn]
      rw [hu] at hsc
      clear hu
      have hn1 : (n : Int) ≤ 9223372036854775807 := by omega
      clear hle hn
      go_enter Try.func48, Try.ntmps48
      go_wp2_with fail
      refine hsc.mono ?_
      rintro e w' ⟨he, rfl⟩
      obtain rfl := he
      clear hsc
      go_wp2
      go_ret3
      exact ⟨rfl, rfl⟩
    · rw [readUint_big hu hn]
      rw [hu] at hsc
      clear hu
      have hn2 : (9223372036854775807 : Int) < (n : Int) := by omega
      clear hle hn
      go_enter Try.func48, Try.ntmps48
      go_wp2_with fail
      refine hsc.mono ?_
      rintro e w' ⟨he, rfl⟩
      obtain rfl := he
      clear hsc
      go_wp2
      go_ret3
      exact ⟨rfl, rfl⟩

def IntZ (o : Option (Int × Nat)) (e : Ending) : Prop :=
  match o with
  | some (n, next) => e = .returned (.tuple #[.int .i64 n, .int .i64 next, .bool true])
  | none => e = .returned (.tuple #[.int .i64 0, .int .i64 0, .bool false])
set_option maxRecDepth 20000 in
set_option maxHeartbeats 400000 in
theorem readInt_ref (s : List UInt8) (at_ : Nat) (w : World) (hs : s.length ≤ 1099511627776) (ha : at_ ≤ s.length) :
    Calls Try.prog 49 #[.string ⟨s.toArray⟩, .int .i64 at_] w fun e w' => IntZ (Cd.readInt s at_) e ∧ w = w' := by
  have hsc := readUns_ref s at_ w hs ha
  cases hu : Cd.readUns s at_ with
  | none =>
    rw [readInt_none hu]
    rw [hu] at hsc
    clear hu
    go_enter Try.func49, Try.ntmps49
    go_wp2_with fail
    refine hsc.mono ?_
    rintro e w' ⟨⟨x, y, hx, hy, rfl⟩, rfl⟩
    clear hsc
    go_wp2
    go_ret3
    exact ⟨rfl, rfl⟩
  | some q =>
    obtain ⟨n, next⟩ := q
    have hle := Cd.readUns_le hu ha
    rw [readInt_some hu]
    rw [hu] at hsc
    clear hu
    have hn1 : (n : Int) ≤ 18446744073709551615 := by omega
    clear hle
    by_cases hp : n % 2 = 0
    · have hz : Cd.unzig n = ((n / 2 : Nat) : Int) := by unfold Cd.unzig; rw [if_pos hp]
      rw [hz]
      have hp1 : ((n : Int) % 2 == 0) = true := by simp; omega
      clear hp hz
      go_enter Try.func49, Try.ntmps49
      go_wp2_with fail
      refine hsc.mono ?_
      rintro e w' ⟨he, rfl⟩
      obtain rfl := he
      clear hsc
      go_wp2
      go_ret3
      exact ⟨rfl, rfl⟩
    · have hz : Cd.unzig n = -((n / 2 : Nat) : Int) - 1 := by unfold Cd.unzig; rw [if_neg hp]
      rw [hz]
      have hp1 : ((n : Int) % 2 == 0) = false := by simp; omega
      clear hp hz
      go_enter Try.func49, Try.ntmps49
      go_wp2_with fail
      refine hsc.mono ?_
      rintro e w' ⟨he, rfl⟩
      obtain rfl := he
      clear hsc
      go_wp2
      go_ret3
      exact ⟨rfl, rfl⟩

def TextZ (o : Option (List UInt8 × Nat)) (e : Ending) : Prop :=
  match o with
  | some (x, next) => e = .returned (.tuple #[.string ⟨x.toArray⟩, .int .i64 next, .bool true])
  | none => e = .returned (.tuple #[.string ⟨#[]⟩, .int .i64 0, .bool false])
set_option maxRecDepth 20000 in
set_option maxHeartbeats 400000 in
theorem readText_ref (s : List UInt8) (at_ : Nat) (w : World) (hs : s.length ≤ 1099511627776) (ha : at_ ≤ s.length) :
    Calls Try.prog 50 #[.string ⟨s.toArray⟩, .int .i64 at_] w fun e w' => TextZ (Cd.readText s at_) e ∧ w = w' := by
  have hsc := readUint_ref s at_ w hs ha
  cases hu : Cd.readUint s at_ with
  | none =>
    rw [readText_none hu]
    rw [hu] at hsc
    clear hu
    go_enter Try.func50, Try.ntmps50
    go_wp2_with fail
    refine hsc.mono ?_
    rintro e w' ⟨he, rfl⟩
    obtain rfl := he
    clear hsc
    go_wp2
    go_ret3
    exact ⟨rfl, rfl⟩
  | some q =>
    obtain ⟨n, next⟩ := q
    obtain ⟨hle1, hle2, hle3⟩ := Cd.readUint_le hu ha
    have hle4 : (n : Int) ≤ 9223372036854775807 := by omega
    by_cases hn : n ≤ s.length - next
    · rw [readText_some hu hn]
      rw [hu] at hsc
      clear hu hle3
      have hn2 : (n : Int) ≤ (s.length : Int) - (next : Int) := by omega
      clear hn
      go_enter Try.func50, Try.ntmps50
      go_wp2_with fail
      refine hsc.mono ?_
      rintro e w' ⟨he, rfl⟩
      obtain rfl := he
      clear hsc
      go_wp2
      go_ret3
      refine ⟨?_, rfl⟩
      show Ending.returned _ = Ending.returned _
      simp [bytes_extract]
    · rw [readText_big hu hn]
      rw [hu] at hsc
      clear hu hle3
      have hn2 : (s.length : Int) - (next : Int) < (n : Int) := by omega
      clear hn
      go_enter Try.func50, Try.ntmps50
      go_wp2_with fail
      refine hsc.mono ?_
      rintro e w' ⟨he, rfl⟩
      obtain rfl := he
      clear hsc
      go_wp2
      go_ret3
      exact ⟨rfl, rfl⟩
end Go.Proofs.Ytalailodnmfmlaa
