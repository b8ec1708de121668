/-
  What the program's reader reads of a number: scan, size. Conditions: the offset lies in the string, the string has at most 2^40 bytes.
-/
import Derived.Test.YtjjpdnpbhdcpbaaGreatQCdB
import Derived.Test.YtjjpdnpbhdcpbaaGreatProg
import Derived.Test.YtjjpdnpbhdcpbaaGreatBPa
import Derived.Test.YtjjpdnpbhdcpbaaGreatQCdA
import Derived.Laws.DeepNot64
namespace Go.Proofs.YtjjpdnpbhdcpbaaGreat
set_option linter.unusedVariables false
open Go.RowKit
end Go.Proofs.YtjjpdnpbhdcpbaaGreat
namespace Go.Proofs.YtjjpdnpbhdcpbaaGreat
set_option linter.unusedVariables false
open Go.RowKit
end Go.Proofs.YtjjpdnpbhdcpbaaGreat
namespace Go.Proofs.YtjjpdnpbhdcpbaaGreat
set_option linter.unusedVariables false
open Go.RowKit
end Go.Proofs.YtjjpdnpbhdcpbaaGreat
namespace Go.Proofs.YtjjpdnpbhdcpbaaGreat
set_option linter.unusedVariables false
open Go.RowKit
end Go.Proofs.YtjjpdnpbhdcpbaaGreat
namespace Go.Proofs.YtjjpdnpbhdcpbaaGreat
set_option linter.unusedVariables false
open Go.RowKit
end Go.Proofs.YtjjpdnpbhdcpbaaGreat
namespace Go.Proofs.YtjjpdnpbhdcpbaaGreat
set_option linter.unusedVariables false
open Go.RowKit
theorem addStep (acc k x : Nat) (hacc : acc < 2 ^ (7 * k)) (h : k ≤ 8 ∨ (k = 9 ∧ x ≤ 1)) :
 IntKind.u64.wrap ((acc : Int) + IntKind.u64.wrap ((x : Int) % 128 * 2 ^ (7 * k))) = ((acc + 2 ^ (7 * k) * (x % 128) : Nat) : Int) := by
 have hp := pow7 k (by omega)
 have hm : x % 128 * 2 ^ (7 * k) ≤ 9223372036854775808 := by
  rcases h with h | ⟨rfl, h⟩
  ·have h2 : 2 ^ (7 * k) ≤ 2 ^ 56 := Nat.pow_le_pow_right (by decide) (by omega)
   calc x % 128 * 2 ^ (7 * k) ≤ 128 * 2 ^ 56 := Nat.mul_le_mul (by omega) h2
    _ ≤ 9223372036854775808 := by decide
  ·have : x % 128 ≤ 1 := by omega
   calc x % 128 * 2 ^ (7 * 9) ≤ 1 * 2 ^ (7 * 9) := Nat.mul_le_mul_right _ this
    _ ≤ 9223372036854775808 := by decide
 have e2 : (x : Int) % 128 * 2 ^ (7 * k) = ((x % 128 * 2 ^ (7 * k) : Nat) : Int) := by simp
 rw [e2, IntKind.wrap_u64, IntKind.wrap_u64, Nat.mul_comm (2 ^ (7 * k))]
 omega
theorem addStep9 (acc x : Nat) (hacc : acc < 2 ^ (7 * 9)) (h : x ≤ 1) :
 IntKind.u64.wrap ((acc : Int) + (x : Int) % 128 * 9223372036854775808) = ((acc + 2 ^ (7 * 9) * (x % 128) : Nat) : Int) := by
 simp at hacc
 rw [IntKind.wrap_u64, show (2 : Nat) ^ (7 * 9) = 9223372036854775808 from rfl]
 omega
theorem scanP_some' {s : List UInt8} {at_ n next : Nat} {x y : Int} {t : Bool} (h : Cd.readUns s at_ = some (n, next)) (hx : x = n) (hy : y = next) (ht : t = true) : ScanP (Cd.readUns s at_) (.returned (.tuple #[.int .u64 x, .int .i64 y, .bool t])) := by
 subst ht; exact scanP_some h hx hy
theorem scanP_none' {s : List UInt8} {at_ n next : Nat} {x y : Int} {t : Bool} (h : Cd.readUns s at_ = none) (hx : x = n) (hy : y = next) (ht : t = false) (hn : n < 18446744073709551616) (hm : next ≤ 2199023255552) : ScanP (Cd.readUns s at_) (.returned (.tuple #[.int .u64 x, .int .i64 y, .bool t])) := by
 subst ht; exact scanP_none h hx hy hn hm
set_option maxRecDepth 20000 in
set_option maxHeartbeats 1000000 in
theorem readUns_ref (s : List UInt8) (at_ : Nat) (w : World) (hs : s.length ≤ 1099511627776) (ha : at_ ≤ s.length) :
 Calls Tryz.prog 132 #[.string ⟨s.toArray⟩, .int .i64 at_] w fun e w' => ScanP (Cd.readUns s at_) e ∧ w = w' := by
 go_enter Tryz.func132, Tryz.ntmps132
 go_wp2
 go_loop [7, 8, 9] (fun n i _ => ∃ (k acc : Nat), k ≤ 9 ∧ at_ + k ≤ s.length ∧ i = .int .i64 (k : Nat) ∧ n = .int .u64 acc ∧ acc < 2 ^ (7 * k) ∧
  Cd.dec (s.drop at_) = (Cd.decF (10 - k) k (s.drop (at_ + k))).map (fun q => (acc + 2 ^ (7 * k) * q.1, q.2 + k))) (fun _ i _ => (10 - intOf i).toNat)
 case atStart => exact ⟨0, 0, by omega, by simpa using ha, rfl, rfl, by simp, by simp [Cd.dec]⟩
 case round =>
  obtain ⟨k, acc, hk, hkl, rfl, rfl, hacc, hd⟩ := hrel
  have HD := Lib.hid hd; have HA := Lib.hid hacc
  clear hd hacc
  have hsum0 : (0 : Int) ≤ (at_ : Int) + (k : Int) := by omega
  by_cases hlt : at_ + k < s.length
  ·obtain ⟨b, hb, hdrop⟩ : ∃ b : UInt8, (∀ h, (⟨s.toArray⟩ : ByteArray)[at_ + k]'h = b) ∧ s.drop (at_ + k) = b :: s.drop (at_ + (k + 1)) :=
    ⟨s[at_ + k], fun h => rfl, by rw [List.drop_eq_getElem_cons hlt, Nat.add_assoc]⟩
   have hb255 : (b.toNat : Int) ≤ 255 := by have := Cd.u8_lt b; omega
   have HDR := Lib.hid hdrop; clear hdrop
   have hltI : (at_ : Int) + (k : Int) < (s.length : Int) := by omega
   by_cases hk9 : k = 9
   ·subst hk9
    go_wp2
    ·have h1 : (1 : Int) < (b.toNat : Int) := by assumption
     go_ret3
     exact ⟨scanP_none (n := 0) (next := 0) (scan_none HD.out HDR.out (by omega) (.inl ⟨rfl, by omega⟩)) rfl rfl (by omega) (by omega), rfl⟩
    ·have h1 : (b.toNat : Int) ≤ 1 := by assumption
     go_ret3
     have := addStep9 acc b.toNat HA.out (by omega)
     refine ⟨?_, rfl⟩
     by_cases h0 : b.toNat = 0
     ·exact scanP_none' (n := acc + 2 ^ (7 * 9) * (b.toNat % 128)) (next := at_ + 9 + 1) (scan_none HD.out HDR.out (by omega) (.inr ⟨h0, by omega⟩)) this (by go_num) (by simp [h0]) (by have := HA.out; simp [h0] at this ⊢; omega) (by omega)
     ·exact scanP_some' (scan_last HD.out HDR.out (by omega) (by omega) (by omega) (.inl (by omega))) this (by go_num) (by simp [h0])
   ·have hk8 : k ≤ 8 := by omega
    have hk9' : ((k : Int) == 9) = false := by simp; omega
    clear hk9
    by_cases hk0 : k = 0
    ·have hk0' : ((k : Int) == 0) = true := by simp; omega
     have HK := Lib.hid hk0; clear hk0
     go_wp2
     ·go_ret3
      exact ⟨scanP_some (scan_last HD.out HDR.out (by omega) (by omega) (by omega) (.inr HK.out)) (addStep acc k b.toNat HA.out (.inl hk8)) (by go_num), rfl⟩
     ·go_round
      case rel => exact ⟨k + 1, acc + 2 ^ (7 * k) * (b.toNat % 128), by omega, by omega, by go_num, by rw [addStep acc k b.toNat HA.out (.inl hk8)], scan_lt HA.out, scan_more HD.out HDR.out hk8 (by omega)⟩
      case measure => simp [intOf]; omega
    ·have hk0' : ((k : Int) == 0) = false := by simp; omega
     have HK := Lib.hid hk0; clear hk0
     go_wp2
     ·go_ret3
      have := addStep acc k b.toNat HA.out (.inl hk8)
      have hp := pow7 k (by omega)
      refine ⟨?_, rfl⟩
      by_cases h0 : b.toNat = 0
      ·exact scanP_none' (n := acc + 2 ^ (7 * k) * (b.toNat % 128)) (next := at_ + k + 1) (scan_none HD.out HDR.out (by omega) (.inr ⟨h0, by have := HK.out; omega⟩)) this (by go_num) (by simp [h0]) (by have := HA.out; simp [h0]; omega) (by omega)
      ·exact scanP_some' (scan_last HD.out HDR.out (by omega) (by omega) (by omega) (.inl (by omega))) this (by go_num) (by simp [h0])
     ·go_round
      case rel => exact ⟨k + 1, acc + 2 ^ (7 * k) * (b.toNat % 128), by omega, by omega, by go_num, by rw [addStep acc k b.toNat HA.out (.inl hk8)], scan_lt HA.out, scan_more HD.out HDR.out hk8 (by omega)⟩
      case measure => simp [intOf]; omega
  ·have hlt' : (s.length : Int) ≤ (at_ : Int) + (k : Int) := by omega
   have HL := Lib.hid hlt; clear hlt
   go_wp2
   go_ret3
   exact ⟨scanP_none (n := 0) (next := 0) (scan_end HD.out (by omega) HL.out) rfl rfl (by omega) (by omega), rfl⟩
def SizeZ (o : Option (Nat × Nat)) (e : Ending) : Prop :=
 match o with
 | some (n, next) => e = .returned (.tuple #[.int .i64 n, .int .i64 next, .bool true])
 | none => e = .returned (.tuple #[.int .i64 0, .int .i64 0, .bool false])
set_option maxRecDepth 20000 in
set_option maxHeartbeats 400000 in
theorem readUint_ref (s : List UInt8) (at_ : Nat) (w : World) (hs : s.length ≤ 1099511627776) (ha : at_ ≤ s.length) :
 Calls Tryz.prog 81 #[.string ⟨s.toArray⟩, .int .i64 at_] w fun e w' => SizeZ (Cd.readUint s at_) e ∧ w = w' := by
 have hsc := readUns_ref s at_ w hs ha
 cases hu : Cd.readUns s at_ with
 | none =>
   rw [readUint_none hu]
   rw [hu] at hsc
   clear hu
   go_enter Tryz.func81, Tryz.ntmps81
   go_wp2_with fail
   refine hsc.mono ?_
   rintro e w' ⟨⟨x, y, hx, hy, rfl⟩, rfl⟩
   clear hsc
   go_wp2
   go_ret3
   exact ⟨rfl, rfl⟩
 | some q =>
   obtain ⟨n, next⟩ := q
   have hle := Cd.readUns_le hu ha
   by_cases hn : n < 2 ^ 63
   ·rw [readUint_some hu hn]
    rw [hu] at hsc
    clear hu
    have hn1 : (n : Int) ≤ 9223372036854775807 := by omega
    clear hle hn
    go_enter Tryz.func81, Tryz.ntmps81
    go_wp2_with fail
    refine hsc.mono ?_
    rintro e w' ⟨he, rfl⟩
    obtain rfl := he
    clear hsc
    go_wp2
    go_ret3
    exact ⟨rfl, rfl⟩
   ·rw [readUint_big hu hn]
    rw [hu] at hsc
    clear hu
    have hn2 : (9223372036854775807 : Int) < (n : Int) := by omega
    clear hle hn
    go_enter Tryz.func81, Tryz.ntmps81
    go_wp2_with fail
    refine hsc.mono ?_
    rintro e w' ⟨he, rfl⟩
    obtain rfl := he
    clear hsc
    go_wp2
    go_ret3
    exact ⟨rfl, rfl⟩
def TextZ (o : Option (List UInt8 × Nat)) (e : Ending) : Prop :=
 match o with
 | some (x, next) => e = .returned (.tuple #[.string ⟨x.toArray⟩, .int .i64 next, .bool true])
 | none => e = .returned (.tuple #[.string ⟨#[]⟩, .int .i64 0, .bool false])
set_option maxRecDepth 20000 in
set_option maxHeartbeats 400000 in
theorem readText_ref (s : List UInt8) (at_ : Nat) (w : World) (hs : s.length ≤ 1099511627776) (ha : at_ ≤ s.length) :
 Calls Tryz.prog 80 #[.string ⟨s.toArray⟩, .int .i64 at_] w fun e w' => TextZ (Cd.readText s at_) e ∧ w = w' := by
 have hsc := readUint_ref s at_ w hs ha
 cases hu : Cd.readUint s at_ with
 | none =>
   rw [readText_none hu]
   rw [hu] at hsc
   clear hu
   go_enter Tryz.func80, Tryz.ntmps80
   go_wp2_with fail
   refine hsc.mono ?_
   rintro e w' ⟨he, rfl⟩
   obtain rfl := he
   clear hsc
   go_wp2
   go_ret3
   exact ⟨rfl, rfl⟩
 | some q =>
   obtain ⟨n, next⟩ := q
   obtain ⟨hle1, hle2, hle3⟩ := Cd.readUint_le hu ha
   have hle4 : (n : Int) ≤ 9223372036854775807 := by omega
   by_cases hn : n ≤ s.length - next
   ·rw [readText_some hu hn]
    rw [hu] at hsc
    clear hu hle3
    have hn2 : (n : Int) ≤ (s.length : Int) - (next : Int) := by omega
    clear hn
    go_enter Tryz.func80, Tryz.ntmps80
    go_wp2_with fail
    refine hsc.mono ?_
    rintro e w' ⟨he, rfl⟩
    obtain rfl := he
    clear hsc
    go_wp2
    go_ret3
    refine ⟨?_, rfl⟩
    show Ending.returned _ = Ending.returned _
    simp [bytes_extract]
   ·rw [readText_big hu hn]
    rw [hu] at hsc
    clear hu hle3
    have hn2 : (s.length : Int) - (next : Int) < (n : Int) := by omega
    clear hn
    go_enter Tryz.func80, Tryz.ntmps80
    go_wp2_with fail
    refine hsc.mono ?_
    rintro e w' ⟨he, rfl⟩
    obtain rfl := he
    clear hsc
    go_wp2
    go_ret3
    exact ⟨rfl, rfl⟩
end Go.Proofs.YtjjpdnpbhdcpbaaGreat
namespace Go.Proofs.YtjjpdnpbhdcpbaaGreat
set_option linter.unusedVariables false
open Go.RowKit
def TextsZ (B : Nat) (o : Option (List (List UInt8) × Nat)) (e : Ending) (w' : World) : Prop :=
 match o with
 | some (L, next) => ∃ v, e = .returned (.tuple #[v, .int .i64 next, .bool true]) ∧ w'.ownsRow B 9 1 v L.length (strs L)
 | none => e = .returned (.tuple #[.slice none 0 0, .int .i64 0, .bool false])
set_option maxRecDepth 20000 in
set_option maxHeartbeats 1000000 in
theorem readTexts_ref (s : List UInt8) (at_ : Nat) (w : World) (hs : s.length ≤ 1099511627776) (ha : at_ ≤ s.length) :
 Calls Tryz.prog 133 #[.string ⟨s.toArray⟩, .int .i64 at_] w fun e w' => TextsZ w.heap.size (Cd.readTexts s at_) e w' ∧ Below w.heap.size w w' := by
 have hsc := readUint_ref s at_ w hs ha
 cases hu : Cd.readUint s at_ with
 | none =>
   rw [readTexts_none hu]
   rw [hu] at hsc
   clear hu
   go_enter Tryz.func133, Tryz.ntmps133
   go_wp2_with fail
   refine hsc.mono ?_
   rintro e w' ⟨he, rfl⟩
   obtain rfl := he
   clear hsc
   go_wp2
   go_ret3
   exact ⟨rfl, Below.refl _ _⟩
 | some q =>
   obtain ⟨n, next⟩ := q
   obtain ⟨hle1, hle2, hle3⟩ := Cd.readUint_le hu ha
   have hle4 : (n : Int) ≤ 9223372036854775807 := by omega
   by_cases hn : n ≤ s.length - next
   ·rw [readTexts_some hu hn]
    rw [hu] at hsc
    clear hu hle3
    have hn2 : (n : Int) ≤ (s.length : Int) - (next : Int) := by omega
    go_enter Tryz.func133, Tryz.ntmps133
    go_wp2_with fail
    refine hsc.mono ?_
    rintro e w' ⟨he, rfl⟩
    obtain rfl := he
    clear hsc
    go_wp2
    go_loopw [11, 8, 10, 12, 13, 14] (fun i a v _ _ _ wr => ∃ (k p : Nat) (pre : List (List UInt8)), k ≤ n ∧ pre.length = k ∧ i = .int .i64 k ∧ a = .int .i64 p ∧ p ≤ s.length ∧ Cd.readMany s n next = joinM pre (Cd.readMany s (n - k) p) ∧
     wr.ownsRow w.heap.size 9 1 v k (strs pre) ∧ Below w.heap.size w wr) (fun i _ _ _ _ _ _ => n - (intOf i).toNat)
    case atStart => exact ⟨0, next, [], Nat.zero_le _, rfl, rfl, rfl, hle2, (joinM_nil _).symm, World.ownsRow_lit w #[] 0 (Nat.le_refl _) (by decide) rfl, (Below.refl _ _).alloc (Nat.le_refl _) _⟩
    case round =>
     obtain ⟨k, p, pre, hk, hpre, rfl, rfl, hp, hj, hown, hbel⟩ := hrel
     have HJ := Lib.hid hj; have HP := Lib.hid hpre; have HO := Lib.hid hown
     clear hj hpre hown
     have hsz := hbel.size
     by_cases hlt : k < n
     ·have htx := readText_ref s p wr hs hp
      cases hrt : Cd.readText s p with
      | none =>
        rw [hrt] at htx
        have HR := Lib.hid hrt; clear hrt
        go_wp2_with fail
        refine htx.mono ?_
        rintro e w' ⟨he, rfl⟩
        obtain rfl := he
        clear htx
        go_wp2
        go_ret3
        refine ⟨?_, hbel⟩
        rw [HJ.out, show n - k = (n - k - 1) + 1 from by omega, joinM_bad HR.out]
        exact rfl
      | some q =>
        obtain ⟨x, p'⟩ := q
        have hle := Cd.readText_le hrt hp
        rw [hrt] at htx
        have HR := Lib.hid hrt; clear hrt
        have b1 : (k + 1) * 16 ≤ 140737488355328 := by omega
        have b2 : k + 1 ≤ maxLen := by unfold maxLen; omega
        go_wp2_with fail
        refine htx.mono ?_
        rintro e w' ⟨he, rfl⟩
        obtain rfl := he
        clear htx
        go_wp2_with (at_builtin; go_must (refine append1 _ 27 9 (.string ⟨#[]⟩) 16 w.heap.size Tryz.underlying27 info_strc rfl rfl _ _ rfl _ _ _ _ _ (HO.out.alloc _) rfl rfl (one_new _ _ _) rfl b1 b2 (by simp; omega) ?_); intro v' w1 hown1 hg1)
        go_roundw
        case rel =>
         refine ⟨k + 1, p', pre ++ [x], by omega, by simp [HP.out], by go_num, rfl, hle.2.1, ?_, ?_, (hbel.alloc hsz _).grown hg1 (by simp; omega) (fun k hk => (HO.out.lt k hk).1)⟩
         ·rw [HJ.out, show n - k = (n - (k + 1)) + 1 from by omega, joinM_step HR.out]
         ·simpa [strs] using hown1
        case measure => simp [intOf]; omega
     ·have hkn : (n : Int) ≤ (k : Int) := by omega
      go_wp2
      go_ret3
      refine ⟨?_, hbel⟩
      obtain rfl : k = n := by omega
      rw [HJ.out, Nat.sub_self]
      have hj2 : joinM pre (Cd.readMany s 0 p) = some (pre, p) := by simp [Cd.readMany, joinM]
      rw [hj2]
      exact ⟨_, rfl, by simpa [HP.out] using HO.out⟩
   ·rw [readTexts_big hu hn]
    rw [hu] at hsc
    clear hu hle3
    have hn2 : (s.length : Int) - (next : Int) < (n : Int) := by omega
    clear hn
    go_enter Tryz.func133, Tryz.ntmps133
    go_wp2_with fail
    refine hsc.mono ?_
    rintro e w' ⟨he, rfl⟩
    obtain rfl := he
    clear hsc
    go_wp2
    go_ret3
    exact ⟨rfl, Below.refl _ _⟩
end Go.Proofs.YtjjpdnpbhdcpbaaGreat
