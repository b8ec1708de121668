/-
  What the program and the reference write: Uint, Int, Text, Texts give Cd.uns, Cd.int, Cd.text, Cd.texts. Conditions: lengths below 2^40.
-/
import Derived.Test.YtalailodnmfmlaaCodecW1
import Derived.Test.YtalailodnmfmlaaBuild
namespace Go.Proofs.Ytalailodnmfmlaa
set_option linter.unusedVariables false
open Go.RowKit

theorem uint_neg (n : Int) (h0 : n < 0) (w : World) :
    Calls Try.prog 12 #[.int .i64 n] w fun e w' => e = .returned (.tuple #[.string ⟨#[]⟩, .int .i64 2]) ∧ w = w' := by
  go_enter Try.func12, Try.ntmps12
  go_wp2
  go_ret2
  exact ⟨rfl, rfl⟩
theorem uint_pos (n : Nat) (h1 : n < 9223372036854775808) (w : World) :
    Calls Try.prog 12 #[.int .i64 n] w fun e w' => e = .returned (.tuple #[.string ⟨(Cd.uns n).toArray⟩, .int .i64 0]) ∧ Below w.heap.size w w' := by
  have hb : (n : Int) ≤ 9223372036854775807 := by omega
  have hu := fun w => unsigned_spec n (by omega) w
  go_enter Try.func12, Try.ntmps12
  go_wp2_with (go_at_call 36; go_must (refine (hu _).mono ?_); rintro e w' ⟨rfl, hb1⟩)
  go_ret2
  exact ⟨rfl, hb1⟩
theorem ruint_neg (n : Int) (h0 : n < 0) (w : World) :
    Calls Try.prog 13 #[.int .i64 n] w fun e w' => e = .returned (.tuple #[.string ⟨#[]⟩, .int .i64 2]) ∧ w = w' := by
  go_enter Try.func13, Try.ntmps13
  go_wp2
  go_ret2
  exact ⟨rfl, rfl⟩
theorem ruint_pos (n : Nat) (h1 : n < 9223372036854775808) (w : World) :
    Calls Try.prog 13 #[.int .i64 n] w fun e w' => e = .returned (.tuple #[.string ⟨(Cd.uns n).toArray⟩, .int .i64 0]) ∧ Below w.heap.size w w' := by
  have hb : (n : Int) ≤ 9223372036854775807 := by omega
  have hu := fun w => unsigned_ref n (by omega) w
  go_enter Try.func13, Try.ntmps13
  go_wp2_with (go_at_call 37; go_must (refine (hu _).mono ?_); rintro e w' ⟨rfl, hb1⟩)
  go_ret2
  exact ⟨rfl, hb1⟩

set_option maxHeartbeats 400000 in
theorem text_spec (s : List UInt8) (hs : s.length ≤ 1099511627776) (w : World) :
    Calls Try.prog 16 #[.string ⟨s.toArray⟩] w fun e w' => e = .returned (.string ⟨(Cd.text s).toArray⟩) ∧ Below w.heap.size w w' := by
  have hu := fun w => unsigned_spec s.length (by omega) w
  have hl := Cd.uns_len s.length
  go_enter Try.func16, Try.ntmps16
  go_wp2_with (go_at_call 36; go_must (refine (hu _).mono ?_); rintro e w' ⟨rfl, hb1⟩)
  go_ret
  exact ⟨ret_eq (by simp [bytes_append, Cd.text]), hb1⟩
set_option maxHeartbeats 400000 in
theorem text_ref (s : List UInt8) (hs : s.length ≤ 1099511627776) (w : World) :
    Calls Try.prog 17 #[.string ⟨s.toArray⟩] w fun e w' => e = .returned (.string ⟨(Cd.text s).toArray⟩) ∧ Below w.heap.size w w' := by
  have hu := fun w => unsigned_ref s.length (by omega) w
  have hl := Cd.uns_len s.length
  go_enter Try.func17, Try.ntmps17
  go_wp2_with (go_at_call 37; go_must (refine (hu _).mono ?_); rintro e w' ⟨rfl, hb1⟩)
  go_ret
  exact ⟨ret_eq (by simp [bytes_append, Cd.text]), hb1⟩

theorem text_len (s : List UInt8) : (Cd.text s).length = (Cd.uns s.length).length + s.length := by simp [Cd.text]
theorem body_take (L : List (List UInt8)) (k : Nat) (h : k < L.length) : Cd.body (L.take (k + 1)) = Cd.body (L.take k) ++ Cd.text L[k] := by
  rw [List.take_succ_eq_append_getElem h, Cd.body_append]; simp [Cd.body]
theorem body_take_le (L : List (List UInt8)) (k : Nat) : (Cd.body (L.take k)).length ≤ (Cd.body L).length := by
  have : Cd.body L = Cd.body (L.take k) ++ Cd.body (L.drop k) := by rw [← Cd.body_append, List.take_append_drop]
  rw [this]; simp

theorem add_spec (B b : Nat) (l s : List UInt8) (w : World) (h : Bu B b l w) (hlen : l.length + s.length ≤ 140737488355328) (hBw : B ≤ w.heap.size) :
    Calls Try.prog 39 #[.string ⟨s.toArray⟩, .pointer (some ⟨b, 0, none⟩)] w fun e w' => e = .returned (.tuple #[]) ∧ Bu B b (l ++ s) w' ∧ Below B w w' := by
  go_enter Try.func39, Try.ntmps39
  go_wp2_with (go_at_call 34; go_must (refine (bu_write B b l s _ h hlen hBw).mono ?_); rintro e w' ⟨rfl, hb1, hb2⟩)
  go_end0
  exact ⟨rfl, hb1, hb2⟩

set_option maxHeartbeats 1000000 in
theorem each_spec (B b : Nat) (A : Option Addr) (L : List (List UInt8)) (c : Nat) (acc : List UInt8) (w : World) (hR : Rd w A (strs L)) (hA : 0 < L.length → ∀ p, A = some p → p.block < B) (h : Bu B b acc w) (hBw : B ≤ w.heap.size)
    (hlen : acc.length + (Cd.body L).length ≤ 1099511627776) (hL : L.length ≤ 1099511627776) :
    Calls Try.prog 38 #[.slice A L.length c, .func (.func 16) #[] #[], .func (.func 39) #[] #[.pointer (some ⟨b, 0, none⟩)]] w fun e w' => e = .returned (.tuple #[]) ∧ Bu B b (acc ++ Cd.body L) w' ∧ Below B w w' := by
  go_enter Try.func38, Try.ntmps38
  go_wp2
  go_loopw [10, 7] (fun i _ wr => ∃ k : Nat, k ≤ L.length ∧ i = .int .i64 k ∧ Bu B b (acc ++ Cd.body (L.take k)) wr ∧ Below B w wr) (fun i _ _ => L.length - (intOf i).toNat)
  case atStart => exact ⟨0, Nat.zero_le _, rfl, by simpa [Cd.body] using h, Below.refl _ _⟩
  case round =>
    obtain ⟨k, hk, rfl, hbu, hbel⟩ := hrel
    by_cases hlt : k < L.length
    · have hbt := body_take L k hlt
      have hle := body_take_le L (k + 1)
      rw [hbt] at hle
      simp only [List.length_append] at hle
      have htl := text_len L[k]
      obtain ⟨b0, off, rfl, hc⟩ : ∃ b0 off, A = some ⟨b0, off, none⟩ ∧ w.cell? ⟨b0, off + k, none⟩ = some (.string ⟨L[k].toArray⟩) := by
        rcases hR with hR | ⟨b0, off, hA', hc⟩
        · have := congrArg List.length hR; rw [strs_length, List.length_nil] at this; omega
        · exact ⟨b0, off, hA', by have := hc k (by simpa [strs] using hlt); rwa [strs_get] at this⟩
      have hc' : wr.cell? ⟨b0, off + k, none⟩ = some (.string ⟨L[k].toArray⟩) := (hbel.cell (p := ⟨b0, off + k, none⟩) (hA (by omega) ⟨b0, off, none⟩ rfl)).trans hc
      have ht := fun w => text_spec L[k] (by omega) w
      have hsz := hbel.size
      have ha := fun w1 (hb1 : Below wr.heap.size wr w1) => add_spec B b _ (Cd.text L[k]) w1 (hbu.below hb1) (by simp only [List.length_append]; omega) (by have := hb1.size; omega)
      have H1 := Lib.hid hbt; have H2 := Lib.hid hle; have H3 := Lib.hid htl
      clear hbt hle htl hc hR hA h
      go_wp2_with (first | (go_at_call 16; go_must (refine (ht _).mono ?_); rintro e w1 ⟨rfl, hb1⟩) | (go_at_call 39; go_must (refine (ha _ hb1).mono ?_); rintro e w2 ⟨rfl, hbu2, hb2⟩))
      go_roundw
      case rel => exact ⟨k + 1, by omega, by go_num, by rw [H1.out]; simpa using hbu2, (hbel.trans (hb1.mono (by omega))).trans hb2⟩
      case measure => simp [intOf]; omega
    · obtain rfl : k = L.length := by omega
      go_wp2
      go_end0
      exact ⟨rfl, by simpa using hbu, hbel⟩
end Go.Proofs.Ytalailodnmfmlaa
