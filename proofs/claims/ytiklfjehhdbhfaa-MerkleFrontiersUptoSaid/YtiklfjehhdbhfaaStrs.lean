/-
  Few of the first reference; slices.Equal, slices.Clone, strings.HasPrefix at strings. Conditions: lengths within the reach of the form.
-/
import Derived.Test.YtiklfjehhdbhfaaProg
import Derived.Test.YtiklfjehhdbhfaaKit
namespace Go.Proofs.Ytiklfjehhdbhfaa
set_option linter.unusedVariables false
open Go.RowKit

theorem drewN_drewN (w : World) (a b : Nat) : (w.drewN a).drewN b = w.drewN (a + b) := by simp [World.drewN, Nat.add_assoc]
theorem bytes_cut (s : List UInt8) (a b : Nat) : (⟨s.toArray⟩ : ByteArray).extract a b = ⟨((s.drop a).take (b - a)).toArray⟩ := by
  apply ByteArray.ext
  simp [List.extract_eq_take_drop]
/-- bytes together, one for each string besides -/
def weight (L : List (List UInt8)) : Nat := L.length + (L.map List.length).sum
theorem weight_take (L : List (List UInt8)) (k : Nat) (h : k < L.length) : ((L.take (k + 1)).map List.length).sum = ((L.take k).map List.length).sum + L[k].length := by
  rw [List.take_succ_eq_append_getElem h, List.map_append, List.sum_append]
  simp only [List.map_cons, List.map_nil, List.sum_cons, List.sum_nil, Nat.add_zero]
theorem weight_take_le (L : List (List UInt8)) (k : Nat) : ((L.take k).map List.length).sum ≤ (L.map List.length).sum := by
  have : (L.map List.length).sum = ((L.take k).map List.length).sum + ((L.drop k).map List.length).sum := by
    rw [← List.sum_append, ← List.map_append, List.take_append_drop]
  omega
theorem Rd.str {w : World} {A : Option Addr} {L : List (List UInt8)} (h : Rd w A (strs L)) {k : Nat} (hk : k < L.length) : ∃ b off, A = some ⟨b, off, none⟩ ∧ w.cell? ⟨b, off + k, none⟩ = some (.string ⟨L[k].toArray⟩) := by
  rcases h with h | ⟨b0, off, hA', hc⟩
  · have := congrArg List.length h; rw [strs_length, List.length_nil] at this; omega
  · exact ⟨b0, off, hA', by have := hc k (by simpa [strs] using hk); rwa [strs_get] at this⟩


set_option maxHeartbeats 400000 in
/-- slices.Equal at strings -/
theorem equal_spec (A B : Option Addr) (L M : List (List UInt8)) (c d : Nat) (w : World) (hA : Rd w A (strs L)) (hB : Rd w B (strs M)) (hl : L.length ≤ 9223372036854775807) (hm : M.length ≤ 9223372036854775807) :
    Calls Try.prog 21 #[.slice A L.length c, .slice B M.length d] w fun e w' => e = .returned (.bool (decide (L = M))) ∧ ∃ k, w' = w.drewN k := by
  by_cases hlen : L.length = M.length
  · have hne : ((L.length : Int) != (M.length : Int)) = false := by simp [hlen]
    go_enter Try.func21, Try.ntmps21
    have HL := Lib.hid hlen; clear hlen
    go_wp2
    go_loopw [13, 5] (fun i _ wr => ∃ k : Nat, k ≤ L.length ∧ i = .int .i64 k ∧ L.take k = M.take k ∧ ∃ q, wr = w.drewN q) (fun i _ _ => L.length - (intOf i).toNat)
    case atStart => exact ⟨0, Nat.zero_le _, rfl, rfl, 0, rfl⟩
    case round =>
      obtain ⟨k, hk, rfl, htk, q, rfl⟩ := hrel
      have HT := Lib.hid htk; clear htk
      by_cases hlt : k < L.length
      · have hltM : k < M.length := by have := HL.out; omega
        obtain ⟨b, off, rfl, hc⟩ := hA.str hlt
        obtain ⟨b', off', rfl, hc'⟩ := hB.str hltM
        have hi0 : (0 : Int) ≤ (k : Int) := by omega
        have hi1 : (k : Int) < (L.length : Int) := by omega
        have hi2 : (k : Int) < (M.length : Int) := by omega
        by_cases he : L[k] = M[k]
        · have he1 : (L[k] == M[k]) = true := by simp [he]
          have HE := Lib.hid he; clear he hA hB
          go_wp2
          go_quiet (fail)
          go_wp2
          go_roundw
          case rel => exact ⟨k + 1, by omega, by go_num, by rw [List.take_succ_eq_append_getElem hlt, List.take_succ_eq_append_getElem hltM, HT.out, HE.out], _, rfl⟩
          case measure => simp [intOf]; omega
        · have he1 : (L[k] == M[k]) = false := by simp [he]
          have HE := Lib.hid he; clear he hA hB
          go_wp2
          go_quiet (fail)
          go_wp2
          go_ret
          have hf : decide (L = M) = false := by
            simp only [decide_eq_false_iff_not]
            intro h
            subst h
            exact HE.out rfl
          exact ⟨ret_eq (congrArg Value.bool hf.symm), _, drewN_drewN _ _ _⟩
      · obtain rfl : k = L.length := by omega
        go_wp2
        go_ret
        have : L = M := by
          have h1 := HT.out
          rw [List.take_of_length_le (Nat.le_refl _), HL.out, List.take_of_length_le (Nat.le_refl _)] at h1
          exact h1
        exact ⟨ret_eq (congrArg Value.bool (by simp [this])), _, rfl⟩
  · have hne : ((L.length : Int) != (M.length : Int)) = true := by simp; omega
    have hf : decide (L = M) = false := by simp; intro h; exact hlen (by rw [h])
    rw [hf]
    clear hlen hf
    go_enter Try.func21, Try.ntmps21
    go_wp2
    go_ret
    exact ⟨rfl, 0, rfl⟩

theorem prefix_iff (s p : List UInt8) : (p.isPrefixOf s) = (decide (p.length ≤ s.length) && decide (s.take p.length = p)) := by
  rw [Bool.eq_iff_iff]
  simp only [List.isPrefixOf_iff_prefix, Bool.and_eq_true, decide_eq_true_eq]
  constructor
  · rintro ⟨r, rfl⟩; simp
  · rintro ⟨_, h⟩; exact ⟨s.drop p.length, by
      have := List.take_append_drop p.length s
      rwa [h] at this⟩
set_option maxHeartbeats 400000 in
theorem liteprefix_spec (s p : List UInt8) (hs : s.length ≤ 9223372036854775807) (hp : p.length ≤ 9223372036854775807) (w : World) :
    Calls Try.prog 53 #[.string ⟨s.toArray⟩, .string ⟨p.toArray⟩] w fun e w' => e = .returned (.bool (p.isPrefixOf s)) ∧ w = w' := by
  rw [prefix_iff]
  by_cases hl : p.length ≤ s.length
  · have h1 : decide ((p.length : Int) ≤ (s.length : Int)) = true := by simp; omega
    have h2 : (p.length : Int) ≤ (s.length : Int) := by omega
    have hd : decide (p.length ≤ s.length) = true := by simpa using hl
    rw [hd]
    clear hl hd
    go_enter Try.func53, Try.ntmps53
    go_wp2
    go_ret
    refine ⟨ret_eq (congrArg Value.bool ?_), rfl⟩
    rw [bytes_cut, ByteArray.toList_mk]
    simp only [List.drop_zero, Nat.sub_zero, Bool.true_and]
    exact Bool.eq_iff_iff.2 (by simp)
  · have h1 : decide ((p.length : Int) ≤ (s.length : Int)) = false := by simp; omega
    have h2 : (s.length : Int) < (p.length : Int) := by omega
    have hd : decide (p.length ≤ s.length) = false := by simpa using hl
    rw [hd]
    clear hl hd
    go_enter Try.func53, Try.ntmps53
    go_wp2
    go_ret
    exact ⟨ret_eq (congrArg Value.bool (by simp)), rfl⟩
theorem hasprefix_spec (s p : List UInt8) (hs : s.length ≤ 9223372036854775807) (hp : p.length ≤ 9223372036854775807) (w : World) :
    Calls Try.prog 32 #[.string ⟨s.toArray⟩, .string ⟨p.toArray⟩] w fun e w' => e = .returned (.bool (p.isPrefixOf s)) ∧ w = w' := by
  have h := liteprefix_spec s p hs hp w
  go_enter Try.func32, Try.ntmps32
  go_wp2_with fail
  refine h.mono ?_
  rintro e w' ⟨rfl, rfl⟩
  go_wp2
  go_ret
  exact ⟨rfl, rfl⟩
end Go.Proofs.Ytiklfjehhdbhfaa
