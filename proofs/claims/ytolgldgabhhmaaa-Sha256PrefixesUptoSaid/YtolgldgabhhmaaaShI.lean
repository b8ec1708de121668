/-
  sha256.Sum. Conditions: at most 2^39 bytes.
-/
import Derived.Test.YtolgldgabhhmaaaShH
namespace Go.Proofs.Ytolgldgabhhmaaa
set_option linter.unusedVariables false
open Go.RowKit

theorem msg_nil (g : Nat) : msgR g [] = hashR g Sh.iv.list [] 0 := rfl
theorem sum_spec {lo : Nat} {w0 w : World} {Rs : List Res} (h : St lo w0 w Rs) (s : Sh.Str) (hs : s.length ≤ 549755813888) :
    Calls Try.prog 11 #[.string ⟨s.toArray⟩] w fun e w' => e = .returned (.string ⟨(Sh.sha s).toArray⟩) ∧ St lo w0 w' Rs := by
  go_enter Try.func11, Try.ntmps11
  go_wp2_with fail
  refine (new_hash h).mono ?_
  rintro e w1 ⟨g, rfl, h1⟩
  rw [← msg_nil] at h1
  clear h
  go_wp2_with fail
  refine (hwrite_spec [] s h1 (by simp; omega)).mono ?_
  rintro e w2 ⟨rfl, h2⟩
  rw [List.nil_append] at h2
  clear h1
  go_wp2_with fail
  refine (hsum_spec s h2 hs).mono ?_
  rintro e w3 ⟨rfl, h3⟩
  have h4 := h3.tail
  clear h2 h3
  go_wp2
  go_ret
  exact ⟨rfl, h4⟩
theorem sum_below (s : Sh.Str) (hs : s.length ≤ 549755813888) (w : World) : Calls Try.prog 11 #[.string ⟨s.toArray⟩] w fun e w' => e = .returned (.string ⟨(Sh.sha s).toArray⟩) ∧ Below w.heap.size w w' :=
  (sum_spec (St.nil w) s hs).mono fun e w' ⟨he, h⟩ => ⟨he, h.below⟩
/-- what Tagged digests -/
def tagMsg (tag : Sh.Str) (parts : List Sh.Str) : Sh.Str := (Sh.be8 tag.length ++ tag) ++ parts.flatMap fun p => Sh.be8 p.length ++ p
theorem tag_take (parts : List Sh.Str) (k : Nat) (hk : k < parts.length) : (parts.take (k + 1)).flatMap (fun p => Sh.be8 p.length ++ p) = (parts.take k).flatMap (fun p => Sh.be8 p.length ++ p) ++ Sh.be8 parts[k].length ++ parts[k] := by
  rw [List.take_succ_eq_append_getElem hk, List.flatMap_append]
  simp
theorem tag_len (parts : List Sh.Str) : (parts.flatMap fun p => Sh.be8 p.length ++ p).length = 8 * parts.length + (parts.map List.length).sum := by
  induction parts with
  | nil => rfl
  | cons p L ih => simp only [List.flatMap_cons, List.length_append, ih, List.length_cons, List.map_cons, List.sum_cons]; have : (Sh.be8 p.length).length = 8 := rfl; omega
set_option maxRecDepth 20000 in
set_option maxHeartbeats 2000000 in
theorem tagged_spec {lo : Nat} {w0 w : World} {Rs : List Res} (h : St lo w0 w Rs) (tag : Sh.Str) (A : Option Addr) (parts : List Sh.Str) (c : Nat) (hR : ∀ {w' R}, St lo w0 w' (R :: Rs) → Rd w' A (strs parts)) (ht : tag.length ≤ 1000000) (hp : weight parts ≤ 1000000) :
    Calls Try.prog 14 #[.string ⟨tag.toArray⟩, .slice A parts.length c] w fun e w' => e = .returned (.string ⟨(Sh.sha (tagMsg tag parts)).toArray⟩) ∧ St lo w0 w' Rs := by
  have HI := Lib.hid (fun w' R (h : St lo w0 w' (R :: Rs)) => hR h)
  clear hR
  have hpl : parts.length ≤ 1000000 := by unfold weight at hp; omega
  have hb8 : (Sh.be8 tag.length).length = 8 := rfl
  have hba := bytes_append (Sh.be8 tag.length) tag
  have f1 : ¬ (IntKind.i64.max < 8 + (tag.length : Int)) := by show ¬ ((9223372036854775807 : Int) < 8 + (tag.length : Int)); omega
  have f2 : (Sh.be8 tag.length).length + tag.length ≤ 9223372036854775807 := by rw [hb8]; omega
  have HB := Lib.hid hb8
  clear hb8
  go_enter Try.func14, Try.ntmps14
  go_wp2_with fail
  refine (new_hash h).mono ?_
  rintro e w1 ⟨g, rfl, h1⟩
  rw [← msg_nil] at h1
  clear h
  go_wp2_with fail
  refine (number_spec tag.length (by omega) w1).mono ?_
  rintro e w2 ⟨rfl, b2⟩
  have h2 := h1.under b2
  clear h1 b2
  go_wp2_with fail
  refine (hwrite_spec [] (Sh.be8 tag.length ++ tag) h2 (by rw [List.nil_append, List.length_append, HB.out]; omega)).mono ?_
  rintro e w3 ⟨rfl, h3⟩
  rw [List.nil_append] at h3
  clear h2 hba f1 f2
  have hl0 : (Sh.be8 tag.length ++ tag).length ≤ 1000008 := by rw [List.length_append, HB.out]; omega
  generalize hT0 : Sh.be8 tag.length ++ tag = T0 at h3 hl0
  have HT0 := Lib.hid hT0
  clear hT0
  go_wp2
  go_loopw [19] (fun i wr => ∃ k : Nat, k ≤ parts.length ∧ i = .int .i64 k ∧ St lo w0 wr (msgR g (T0 ++ (parts.take k).flatMap (fun p => Sh.be8 p.length ++ p)) :: Rs)) (fun i _ => parts.length - (intOf i).toNat)
  case atStart => exact ⟨0, Nat.zero_le _, rfl, by simpa using h3⟩
  case round =>
    obtain ⟨k, hk, rfl, h⟩ := hrel
    clear h3
    have hall : ∀ j, j ≤ parts.length → (T0 ++ (parts.take j).flatMap (fun p => Sh.be8 p.length ++ p)).length ≤ 20000000 := fun j hj => by
      rw [List.length_append, tag_len]
      have h1 := weight_take_le parts j
      have h2 : (parts.take j).length ≤ parts.length := by rw [List.length_take]; omega
      unfold weight at hp
      omega
    by_cases hlt : k < parts.length
    · obtain ⟨b, off, rfl, hcc⟩ := (HI.out _ _ h).str hlt
      have hst := tag_take parts k hlt
      have hnx := hall (k + 1) (by omega)
      rw [hst] at hnx
      obtain ⟨p, hpk⟩ : ∃ p, parts[k] = p := ⟨_, rfl⟩
      rw [hpk] at hcc hst hnx
      have hpl2 : p.length ≤ 20000000 := by simp only [List.length_append] at hnx; omega
      have hk1 : (k : Int) < (parts.length : Int) := by omega
      have hk0 : (0 : Int) ≤ (k : Int) := by omega
      have HS := Lib.hid (And.intro hst hnx)
      clear hst hnx hpk hall
      generalize (parts.take k).flatMap (fun p => Sh.be8 p.length ++ p) = M at h HS
      go_wp2_with fail
      refine (number_spec p.length (by omega) wr).mono ?_
      rintro e w5 ⟨rfl, b5⟩
      have h5 := h.under b5
      clear h b5
      go_wp2_with fail
      refine (hwrite_spec (T0 ++ M) (Sh.be8 p.length) h5 (by have := HS.out.2; simp only [List.length_append] at this ⊢; omega)).mono ?_
      rintro e w6 ⟨rfl, h6⟩
      clear h5
      go_wp2_with fail
      refine (hwrite_spec (T0 ++ M ++ Sh.be8 p.length) p h6 (by have := HS.out.2; simp only [List.length_append] at this ⊢; omega)).mono ?_
      rintro e w7 ⟨rfl, h7⟩
      clear h6
      go_wp2
      go_roundw
      case rel =>
        refine ⟨k + 1, by omega, by go_num, ?_⟩
        rw [HS.out.1, ← List.append_assoc, ← List.append_assoc]
        exact h7
      case measure => simp [intOf]; omega
    · obtain rfl : k = parts.length := by omega
      have hl9 := hall parts.length (Nat.le_refl _)
      rw [List.take_length] at h hl9
      clear hall
      go_wp2_with fail
      refine (hsum_spec _ h (by omega)).mono ?_
      rintro e w5 ⟨rfl, h5⟩
      have h6 := h5.tail
      clear h h5
      go_wp2
      go_ret
      refine ⟨?_, h6⟩
      unfold tagMsg
      rw [HT0.out]
      rfl
end Go.Proofs.Ytolgldgabhhmaaa
