/-
  What the program's reader reads: size, text, and the take of a number, of a string. Conditions: the offset lies in the string, the string has at most 2^40 bytes.
-/
import Derived.Test.YtalailodnmfmlaaCodecR1
namespace Go.Proofs.Ytalailodnmfmlaa
set_option linter.unusedVariables false
open Go.RowKit

def SizeP (o : Option (Nat × Nat)) (e : Ending) : Prop :=
  match o with
  | some (n, next) => e = .returned (.tuple #[.int .i64 n, .int .i64 next, .bool true])
  | none => ∃ x y : Int, e = .returned (.tuple #[.int .i64 x, .int .i64 y, .bool false])

theorem readUint_none {s : List UInt8} {at_ : Nat} (h : Cd.readUns s at_ = none) : Cd.readUint s at_ = none := by simp [Cd.readUint, h]
theorem readUint_big {s : List UInt8} {at_ n next : Nat} (h : Cd.readUns s at_ = some (n, next)) (hn : ¬ n < 2 ^ 63) : Cd.readUint s at_ = none := by simp [Cd.readUint, h]; omega
theorem readUint_some {s : List UInt8} {at_ n next : Nat} (h : Cd.readUns s at_ = some (n, next)) (hn : n < 2 ^ 63) : Cd.readUint s at_ = some (n, next) := by simp only [Cd.readUint, h]; rw [if_pos hn]

set_option maxRecDepth 20000 in
set_option maxHeartbeats 400000 in
theorem size_spec (r : Nat) (s : List UInt8) (at_ : Nat) (w : World) (hc : w.cell? ⟨r, 0, none⟩ = some (.string ⟨s.toArray⟩)) (hs : s.length ≤ 1099511627776) (ha : at_ ≤ s.length) :
    Calls Try.prog 41 #[.pointer (some ⟨r, 0, none⟩), .int .i64 at_] w fun e w' => SizeP (Cd.readUint s at_) e ∧ w = w' := by
  have hsc := scan_spec r s at_ w hc hs ha
  cases hu : Cd.readUns s at_ with
  | none =>
    rw [readUint_none hu]
    rw [hu] at hsc
    clear hu
    go_enter Try.func41, Try.ntmps41
    go_wp2_with fail
    refine hsc.mono ?_
    rintro e w' ⟨⟨x, y, hx, hy, rfl⟩, rfl⟩
    clear hsc
    go_wp2
    go_ret3
    exact ⟨⟨_, _, rfl⟩, rfl⟩
  | some q =>
    obtain ⟨n, next⟩ := q
    have hle := Cd.readUns_le hu ha
    by_cases hn : n < 2 ^ 63
    · rw [readUint_some hu hn]
      rw [hu] at hsc
      clear hu
      have hn1 : (n : Int) ≤ 9223372036854775807 := by omega
      have hn2 : (n : Int) / 9223372036854775808 = 0 := by omega
      clear hle hn
      go_enter Try.func41, Try.ntmps41
      go_wp2_with fail
      refine hsc.mono ?_
      rintro e w' ⟨he, rfl⟩
      obtain rfl := he
      clear hsc
      go_wp2
      go_ret3
      exact ⟨rfl, rfl⟩
    · rw [readUint_big hu hn]
      rw [hu] at hsc
      clear hu
      have hn2 : ((n : Int) / 9223372036854775808 == 0) = false := by simp; omega
      clear hle hn
      go_enter Try.func41, Try.ntmps41
      go_wp2_with fail
      refine hsc.mono ?_
      rintro e w' ⟨he, rfl⟩
      obtain rfl := he
      clear hsc
      go_wp2
      go_ret3
      exact ⟨⟨_, _, rfl⟩, rfl⟩

def TextP (o : Option (List UInt8 × Nat)) (e : Ending) : Prop :=
  match o with
  | some (x, next) => e = .returned (.tuple #[.string ⟨x.toArray⟩, .int .i64 next, .bool true])
  | none => ∃ (y : Int), e = .returned (.tuple #[.string ⟨#[]⟩, .int .i64 y, .bool false])

theorem readText_none {s : List UInt8} {at_ : Nat} (h : Cd.readUint s at_ = none) : Cd.readText s at_ = none := by simp [Cd.readText, h]
theorem readText_big {s : List UInt8} {at_ n next : Nat} (h : Cd.readUint s at_ = some (n, next)) (hn : ¬ n ≤ s.length - next) : Cd.readText s at_ = none := by simp only [Cd.readText, h]; rw [if_neg hn]
theorem readText_some {s : List UInt8} {at_ n next : Nat} (h : Cd.readUint s at_ = some (n, next)) (hn : n ≤ s.length - next) : Cd.readText s at_ = some ((s.drop next).take n, next + n) := by simp only [Cd.readText, h]; rw [if_pos hn]

theorem bytes_extract (s : List UInt8) (a b : Nat) : (⟨s.toArray⟩ : ByteArray).extract a b = ⟨((s.drop a).take (b - a)).toArray⟩ := by
  apply ByteArray.ext
  simp [List.extract_eq_take_drop]

set_option maxRecDepth 20000 in
set_option maxHeartbeats 400000 in
theorem rtext_spec (r : Nat) (s : List UInt8) (at_ : Nat) (w : World) (hc : w.cell? ⟨r, 0, none⟩ = some (.string ⟨s.toArray⟩)) (hs : s.length ≤ 1099511627776) (ha : at_ ≤ s.length) :
    Calls Try.prog 45 #[.pointer (some ⟨r, 0, none⟩), .int .i64 at_] w fun e w' => TextP (Cd.readText s at_) e ∧ w = w' := by
  have hsc := size_spec r s at_ w hc hs ha
  cases hu : Cd.readUint s at_ with
  | none =>
    rw [readText_none hu]
    rw [hu] at hsc
    clear hu
    go_enter Try.func45, Try.ntmps45
    go_wp2_with fail
    refine hsc.mono ?_
    rintro e w' ⟨⟨x, y, rfl⟩, rfl⟩
    clear hsc
    go_wp2
    go_ret3
    exact ⟨⟨_, rfl⟩, rfl⟩
  | some q =>
    obtain ⟨n, next⟩ := q
    obtain ⟨hle1, hle2, hle3⟩ := Cd.readUint_le hu ha
    have hle4 : (n : Int) ≤ 9223372036854775807 := by omega
    by_cases hn : n ≤ s.length - next
    · rw [readText_some hu hn]
      rw [hu] at hsc
      clear hu hle3
      have hn2 : (n : Int) ≤ (s.length : Int) - (next : Int) := by omega
      have hex := bytes_extract s next (next + n)
      clear hn
      go_enter Try.func45, Try.ntmps45
      go_wp2_with fail
      refine hsc.mono ?_
      rintro e w' ⟨he, rfl⟩
      obtain rfl := he
      clear hsc
      go_wp2
      go_ret3
      refine ⟨?_, rfl⟩
      show Ending.returned _ = Ending.returned _
      simp [bytes_extract]
    · rw [readText_big hu hn]
      rw [hu] at hsc
      clear hu hle3
      have hn2 : (s.length : Int) - (next : Int) < (n : Int) := by omega
      clear hn
      go_enter Try.func45, Try.ntmps45
      go_wp2_with fail
      refine hsc.mono ?_
      rintro e w' ⟨he, rfl⟩
      obtain rfl := he
      clear hsc
      go_wp2
      go_ret3
      exact ⟨⟨_, rfl⟩, rfl⟩
end Go.Proofs.Ytalailodnmfmlaa
