/-
  Few of the first reference; slices.Equal, slices.Clone, strings.HasPrefix at strings. Conditions: lengths within the reach of the form.
-/
import Derived.Test.YtolgldgabhhmaaaProg
import Derived.Test.YtolgldgabhhmaaaKit
namespace Go.Proofs.Ytolgldgabhhmaaa
set_option linter.unusedVariables false
open Go.RowKit

theorem drewN_drewN (w : World) (a b : Nat) : (w.drewN a).drewN b = w.drewN (a + b) := by simp [World.drewN, Nat.add_assoc]
theorem bytes_cut (s : List UInt8) (a b : Nat) : (⟨s.toArray⟩ : ByteArray).extract a b = ⟨((s.drop a).take (b - a)).toArray⟩ := by
  apply ByteArray.ext
  simp [List.extract_eq_take_drop]
/-- bytes together, one for each string besides -/
def weight (L : List (List UInt8)) : Nat := L.length + (L.map List.length).sum
theorem weight_take (L : List (List UInt8)) (k : Nat) (h : k < L.length) : ((L.take (k + 1)).map List.length).sum = ((L.take k).map List.length).sum + L[k].length := by
  rw [List.take_succ_eq_append_getElem h, List.map_append, List.sum_append]
  simp only [List.map_cons, List.map_nil, List.sum_cons, List.sum_nil, Nat.add_zero]
theorem weight_take_le (L : List (List UInt8)) (k : Nat) : ((L.take k).map List.length).sum ≤ (L.map List.length).sum := by
  have : (L.map List.length).sum = ((L.take k).map List.length).sum + ((L.drop k).map List.length).sum := by
    rw [← List.sum_append, ← List.map_append, List.take_append_drop]
  omega
theorem Rd.str {w : World} {A : Option Addr} {L : List (List UInt8)} (h : Rd w A (strs L)) {k : Nat} (hk : k < L.length) : ∃ b off, A = some ⟨b, off, none⟩ ∧ w.cell? ⟨b, off + k, none⟩ = some (.string ⟨L[k].toArray⟩) := by
  rcases h with h | ⟨b0, off, hA', hc⟩
  · have := congrArg List.length h; rw [strs_length, List.length_nil] at this; omega
  · exact ⟨b0, off, hA', by have := hc k (by simpa [strs] using hk); rwa [strs_get] at this⟩

set_option maxHeartbeats 400000 in
theorem few_spec (A : Option Addr) (L : List (List UInt8)) (c : Nat) (most : Int) (w : World) (hR : Rd w A (strs L)) (hb : weight L ≤ 9223372036854775807) :
    Calls Try.prog 13 #[.slice A L.length c, .int .i64 most] w fun e w' => e = .returned (.bool (decide ((weight L : Int) ≤ most))) ∧ w = w' := by
  go_enter Try.func13, Try.ntmps13
  go_wp2
  go_loop [5, 6] (fun n i => ∃ k : Nat, k ≤ L.length ∧ i = .int .i64 k ∧ n = .int .i64 ((L.length + ((L.take k).map List.length).sum : Nat) : Int)) (fun _ i => L.length - (intOf i).toNat)
  case atStart => exact ⟨0, Nat.zero_le _, rfl, by simp⟩
  case round =>
    obtain ⟨k, hk, rfl, rfl⟩ := hrel
    by_cases hlt : k < L.length
    · obtain ⟨b, off, rfl, hc⟩ := hR.str hlt
      have ht := weight_take L k hlt
      have hle := weight_take_le L (k + 1)
      have hb1 : ((L.take k).map List.length).sum + L[k].length + L.length ≤ 9223372036854775807 := by unfold weight at hb; omega
      obtain ⟨m, hm⟩ : ∃ m, ((L.take k).map List.length).sum = m := ⟨_, rfl⟩
      rw [hm] at hb1 ht
      rw [hm]
      have HT := Lib.hid ht; have HM := Lib.hid hm
      clear ht hm hle hb
      go_wp2
      go_round
      case rel => exact ⟨k + 1, by omega, by go_num, by rw [HT.out]; go_num⟩
      case measure => simp [intOf]; omega
    · obtain rfl : k = L.length := by omega
      go_wp2
      go_ret
      refine ⟨ret_eq (congrArg Value.bool (decide_eq_decide.2 ?_)), rfl⟩
      simp [weight]


theorem prefix_iff (s p : List UInt8) : (p.isPrefixOf s) = (decide (p.length ≤ s.length) && decide (s.take p.length = p)) := by
  rw [Bool.eq_iff_iff]
  simp only [List.isPrefixOf_iff_prefix, Bool.and_eq_true, decide_eq_true_eq]
  constructor
  · rintro ⟨r, rfl⟩; simp
  · rintro ⟨_, h⟩; exact ⟨s.drop p.length, by
      have := List.take_append_drop p.length s
      rwa [h] at this⟩
set_option maxHeartbeats 400000 in
theorem liteprefix_spec (s p : List UInt8) (hs : s.length ≤ 9223372036854775807) (hp : p.length ≤ 9223372036854775807) (w : World) :
    Calls Try.prog 57 #[.string ⟨s.toArray⟩, .string ⟨p.toArray⟩] w fun e w' => e = .returned (.bool (p.isPrefixOf s)) ∧ w = w' := by
  rw [prefix_iff]
  by_cases hl : p.length ≤ s.length
  · have h1 : decide ((p.length : Int) ≤ (s.length : Int)) = true := by simp; omega
    have h2 : (p.length : Int) ≤ (s.length : Int) := by omega
    have hd : decide (p.length ≤ s.length) = true := by simpa using hl
    rw [hd]
    clear hl hd
    go_enter Try.func57, Try.ntmps57
    go_wp2
    go_ret
    refine ⟨ret_eq (congrArg Value.bool ?_), rfl⟩
    rw [bytes_cut, ByteArray.toList_mk]
    simp only [List.drop_zero, Nat.sub_zero, Bool.true_and]
    exact Bool.eq_iff_iff.2 (by simp)
  · have h1 : decide ((p.length : Int) ≤ (s.length : Int)) = false := by simp; omega
    have h2 : (s.length : Int) < (p.length : Int) := by omega
    have hd : decide (p.length ≤ s.length) = false := by simpa using hl
    rw [hd]
    clear hl hd
    go_enter Try.func57, Try.ntmps57
    go_wp2
    go_ret
    exact ⟨ret_eq (congrArg Value.bool (by simp)), rfl⟩
theorem hasprefix_spec (s p : List UInt8) (hs : s.length ≤ 9223372036854775807) (hp : p.length ≤ 9223372036854775807) (w : World) :
    Calls Try.prog 49 #[.string ⟨s.toArray⟩, .string ⟨p.toArray⟩] w fun e w' => e = .returned (.bool (p.isPrefixOf s)) ∧ w = w' := by
  have h := liteprefix_spec s p hs hp w
  go_enter Try.func49, Try.ntmps49
  go_wp2_with fail
  refine h.mono ?_
  rintro e w' ⟨rfl, rfl⟩
  go_wp2
  go_ret
  exact ⟨rfl, rfl⟩
end Go.Proofs.Ytolgldgabhhmaaa
