/-
  modcertref02.Same at two results that are equal. Conditions: the lists are short enough for their length to be an int.
-/
import Derived.Test.YtalailodnmfmlaaCodecRes
namespace Go.Proofs.Ytalailodnmfmlaa
set_option linter.unusedVariables false
open Go.RowKit

set_option maxRecDepth 20000 in
set_option maxHeartbeats 1000000 in
theorem same_spec (A B : Option Addr) (n e : Int) (t : List UInt8) (L : List (List UInt8)) (c d : Nat) (w : World) (hA : Rd w A (strs L)) (hB : Rd w B (strs L)) (hl : L.length ≤ 9223372036854775807) :
    Calls Try.prog 29 #[.agg #[.int .i64 n, .string ⟨t.toArray⟩, .slice A L.length c, .int .i64 e], .agg #[.int .i64 n, .string ⟨t.toArray⟩, .slice B L.length d, .int .i64 e]] w fun e' w' => e' = .returned (.bool true) ∧ Below w.heap.size w w' := by
  go_enter Try.func29, Try.ntmps29
  go_wp2
  go_loopw [5] (fun i wr => ∃ k : Nat, k ≤ L.length ∧ i = .int .i64 k ∧ Blk wr w.heap.size 47 #[.int .i64 n, .string ⟨t.toArray⟩, .slice A L.length c, .int .i64 e] ∧ Blk wr (w.heap.size + 1) 47 #[.int .i64 n, .string ⟨t.toArray⟩, .slice B L.length d, .int .i64 e] ∧ Below w.heap.size w wr) (fun i _ => L.length - (intOf i).toNat)
  case atStart => exact ⟨0, Nat.zero_le _, rfl, (Blk.new w _ _).alloc _, by simpa using Blk.new (w.alloc _) 47 #[.int .i64 n, .string ⟨t.toArray⟩, .slice B L.length d, .int .i64 e], ((Below.refl _ w).alloc (Nat.le_refl _) _).alloc (by simp) _⟩
  case round =>
    obtain ⟨k, hk, rfl, b1, b2, bel⟩ := hrel
    have c2 := b1.cell 2
    have d2 := b2.cell 2
    simp at c2 d2
    by_cases hlt : k < L.length
    · obtain ⟨b, off, rfl, hc⟩ := (hA.below bel).str hlt
      obtain ⟨b', off', rfl, hc'⟩ := (hB.below bel).str hlt
      have hi0 : (0 : Int) ≤ (k : Int) := by omega
      have hi1 : (k : Int) < (L.length : Int) := by omega
      have H := Lib.hid (And.intro b1 (And.intro b2 bel))
      clear b1 b2 bel hA hB
      go_wp2
      go_quiet (fail)
      go_wp2
      go_roundw
      case rel => exact ⟨k + 1, by omega, by go_num, H.out.1, H.out.2.1, (below_up H.out.2.2 (below_drewN _ _))⟩
      case measure => simp [intOf]; omega
    · obtain rfl : k = L.length := by omega
      go_wp2
      go_ret
      exact ⟨rfl, bel⟩
end Go.Proofs.Ytalailodnmfmlaa
