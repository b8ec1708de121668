/-
  The tagged digest of the reference. Conditions: at most 10^6 bytes together.
-/
import Derived.Test.YtolgldgabhhmaaaShW
namespace Go.Proofs.Ytolgldgabhhmaaa
set_option linter.unusedVariables false
open Go.RowKit

set_option maxRecDepth 20000 in
set_option maxHeartbeats 2000000 in
theorem rtagged_spec (tag : Sh.Str) (A : Option Addr) (parts : List Sh.Str) (c : Nat) (w : World) (hR : Rd w A (strs parts)) (ht : tag.length ≤ 1000000) (hp : weight parts ≤ 1000000) :
    Calls Try.prog 15 #[.string ⟨tag.toArray⟩, .slice A parts.length c] w fun e w' => e = .returned (.string ⟨(Sh.sha (tagMsg tag parts)).toArray⟩) ∧ Below w.heap.size w w' := by
  have hpl : parts.length ≤ 1000000 := by unfold weight at hp; omega
  have hb8 : (Sh.be8 tag.length).length = 8 := rfl
  have hba := bytes_append (Sh.be8 tag.length) tag
  have f1 : ¬ (IntKind.i64.max < 8 + (tag.length : Int)) := by show ¬ ((9223372036854775807 : Int) < 8 + (tag.length : Int)); omega
  have f2 : (Sh.be8 tag.length).length + tag.length ≤ 9223372036854775807 := by rw [hb8]; omega
  have HB := Lib.hid hb8
  clear hb8
  go_enter Try.func15, Try.ntmps15
  go_wp2_with fail
  refine (rlength_spec tag.length (by omega) w).mono ?_
  rintro e w2 ⟨rfl, b2⟩
  go_wp2
  clear hba f1 f2
  have hl0 : (Sh.be8 tag.length ++ tag).length ≤ 1000008 := by rw [List.length_append, HB.out]; omega
  generalize hT0 : Sh.be8 tag.length ++ tag = T0 at hl0 ⊢
  have HT0 := Lib.hid hT0
  clear hT0
  go_loopw [5, 6] (fun v i wr => ∃ k : Nat, k ≤ parts.length ∧ i = .int .i64 k ∧ v = .string ⟨(T0 ++ (parts.take k).flatMap (fun p => Sh.be8 p.length ++ p)).toArray⟩ ∧ Below w.heap.size w wr) (fun _ i _ => parts.length - (intOf i).toNat)
  case atStart => exact ⟨0, Nat.zero_le _, rfl, by simp, b2⟩
  case round =>
    obtain ⟨k, hk, rfl, rfl, h⟩ := hrel
    clear b2
    have hall : ∀ j, j ≤ parts.length → (T0 ++ (parts.take j).flatMap (fun p => Sh.be8 p.length ++ p)).length ≤ 20000000 := fun j hj => by
      rw [List.length_append, tag_len]
      have h1 := weight_take_le parts j
      have h2 : (parts.take j).length ≤ parts.length := by rw [List.length_take]; omega
      unfold weight at hp
      omega
    by_cases hlt : k < parts.length
    · obtain ⟨b, off, hA, hcc⟩ := (hR.below h).str hlt
      subst hA
      have hst := tag_take parts k hlt
      have hnx := hall (k + 1) (by omega)
      rw [hst] at hnx
      obtain ⟨p, hpk⟩ : ∃ p, parts[k] = p := ⟨_, rfl⟩
      rw [hpk] at hcc hst hnx
      have hpl2 : p.length ≤ 20000000 := by simp only [List.length_append] at hnx; omega
      have hk1 : (k : Int) < (parts.length : Int) := by omega
      have hk0 : (0 : Int) ≤ (k : Int) := by omega
      generalize (parts.take k).flatMap (fun p => Sh.be8 p.length ++ p) = M at hst hnx ⊢
      have hbl : (Sh.be8 p.length).length = 8 := rfl
      have k1 : ∀ W, Calls Try.prog 31 #[.int .i64 (p.length : Int)] W fun e w' => e = .returned (.string ⟨(Sh.be8 p.length).toArray⟩) ∧ Below W.heap.size W w' := fun W => rlength_spec p.length (by omega) W
      generalize Sh.be8 p.length = B8 at k1 hbl hst hnx
      obtain ⟨X1, hX1⟩ : ∃ X, T0 ++ M = X := ⟨_, rfl⟩
      have hX1l : X1.length ≤ 20000000 := by rw [← hX1]; simp only [List.length_append] at hnx ⊢; omega
      have g1 := bytes_append X1 B8
      have hX2l : (X1 ++ B8).length ≤ 20000008 := by rw [List.length_append, hbl]; omega
      obtain ⟨X2, hX2⟩ : ∃ X, X1 ++ B8 = X := ⟨_, rfl⟩
      rw [hX2] at g1 hX2l
      have g2 := bytes_append X2 p
      have HS := Lib.hid (And.intro hst (And.intro hX1 (And.intro hX2 h)))
      rw [hX1]
      have l1 : ¬ (IntKind.i64.max < (X1.length : Int) + (B8.length : Int)) := by rw [hbl]; show ¬ ((9223372036854775807 : Int) < _); omega
      have l2 : ¬ ((9223372036854775807 : Int) < (X1.length : Int) + (B8.length : Int)) := l1
      have l3 : ¬ (9223372036854775807 < X1.length + B8.length) := by rw [hbl]; omega
      have l4 : ¬ (IntKind.i64.max < (X2.length : Int) + (p.length : Int)) := by show ¬ ((9223372036854775807 : Int) < _); omega
      have l5 : ¬ ((9223372036854775807 : Int) < (X2.length : Int) + (p.length : Int)) := l4
      have l6 : ¬ (9223372036854775807 < X2.length + p.length) := by omega
      clear hst hnx hpk hall hX1 hX2 hbl
      have kS : wr.drew.cell? ⟨b, off + k, none⟩ = some (.string ⟨p.toArray⟩) := hcc
      go_wp2_with fail
      go_region_held3 (fun w' => w'.cell? ⟨b, off + k, none⟩ = some (.string ⟨p.toArray⟩))
        (first
          | with_reducible exact kS
          | exact below_cell b3 kS
          | fail)
        (first
          | (with_reducible refine (k1 _).mono ?_
             rintro e w3 ⟨rfl, b3⟩)
          | fail)
      all_goals
        go_wp2
        go_roundw
        case rel =>
          refine ⟨k + 1, by omega, by go_num, ?_, HS.out.2.2.2.drew.trans (b3.mono (by have := HS.out.2.2.2.size; show w.heap.size ≤ wr.heap.size; omega))⟩
          rw [HS.out.1, ← List.append_assoc, ← List.append_assoc, HS.out.2.1, HS.out.2.2.1]
        case measure => simp [intOf]; omega
    · obtain rfl : k = parts.length := by omega
      have hl9 := hall parts.length (Nat.le_refl _)
      rw [List.take_length] at hl9 ⊢
      clear hall
      go_wp2_with fail
      refine (rsum_spec _ (by omega) _).mono ?_
      rintro e w5 ⟨rfl, b5⟩
      go_wp2
      go_ret
      refine ⟨?_, h.trans (b5.mono h.size)⟩
      unfold tagMsg
      rw [HT0.out]
      rfl
end Go.Proofs.Ytolgldgabhhmaaa
