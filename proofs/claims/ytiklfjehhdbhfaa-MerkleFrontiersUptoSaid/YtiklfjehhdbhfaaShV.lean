/-
  The padding of the reference's SHA-256. Conditions: at most 2^39 bytes.
-/
import Derived.Test.YtiklfjehhdbhfaaShU
import Derived.Test.YtiklfjehhdbhfaaRowM
namespace Go.Proofs.Ytiklfjehhdbhfaa
set_option linter.unusedVariables false
open Go.RowKit

def slLen : Value → Nat
  | .slice _ n _ => n
  | _ => 0
theorem ownM_form {w : World} {e : TypeId} {size : Nat} {v : Value} {n : Nat} {xs : List Value} (h : OwnsM w e size v n xs) : ∃ A c, v = .slice A n c := by
  rcases h.2 with ⟨rfl, rfl⟩ | ⟨g, cap, cur, fr, rfl, _⟩
  · exact ⟨none, 0, rfl⟩
  · exact ⟨_, cap, rfl⟩
set_option maxRecDepth 20000 in
set_option maxHeartbeats 2000000 in
theorem padded_spec (s : Sh.Str) (hs : s.length ≤ 549755813888) (w : World) : Calls Try.prog 60 #[.string ⟨s.toArray⟩] w fun e w' => e = .returned (.string ⟨(Sh.pad s).toArray⟩) ∧ Below w.heap.size w w' := by
  obtain ⟨v1, w1, hr, ⟨c1, hv1⟩, h1⟩ := bytes_ownM (P := Try.prog) 9 70 5 Try.underlying9 Try.underlying70 Try.underlying5 (St.nil w) s (by unfold maxLen; omega)
  subst hv1
  have q2 : s.length + 1 ≤ maxLen := by unfold maxLen; omega
  have q1 : (s.length + 1) * 1 ≤ 140737488355328 := by omega
  have hz : Sh.zeros s.length ≤ 63 := by unfold Sh.zeros; omega
  go_enter Try.func60, Try.ntmps60
  go_wp2_with (at_builtin; go_must (refine appendOM 70 (u := .int .u8 128) h1 Try.underlying70 info_u8 rfl rfl _ _ rfl rfl rfl rfl q2 q1 (fun v2 w5 h2 => ?_)))
  clear hr h1
  go_loopw [3] (fun v wr => ∃ (k : Nat) (A : Option Addr) (c : Nat), k ≤ Sh.zeros s.length ∧ v = .slice A (s.length + 1 + k) c ∧ St w.heap.size w wr (ownM 5 1 v (s.length + 1 + k) (vals (s ++ [128] ++ List.replicate k 0)) :: [])) (fun v _ => s.length + 1 + Sh.zeros s.length - slLen v)
  case atStart =>
    obtain ⟨A, c, hv⟩ := ownM_form h2.ownM
    refine ⟨0, A, c, Nat.zero_le _, hv, ?_⟩
    have : vals (s ++ [128] ++ List.replicate 0 0) = vals s ++ [.int .u8 128] := by simp [vals]
    rw [this]
    exact h2
  case round =>
    clear h2
    obtain ⟨k, A, c, hk, rfl, h⟩ := hrel
    obtain ⟨N, hN⟩ : ∃ N, s.length + 1 + k = N := ⟨_, rfl⟩
    have hN1 : (s.length : Int) + 1 + (k : Int) = (N : Int) := by omega
    rw [hN] at h ⊢
    by_cases hlt : k < Sh.zeros s.length
    · have e1 : (N : Int).tmod 64 = (N : Int) % 64 := Int.tmod_eq_emod_of_nonneg (by omega)
      have hne : (N : Int) % 64 ≠ 56 := by unfold Sh.zeros at hlt; omega
      have f1 : ((N : Int) % 64 == 56) = false := beq_eq_false_iff_ne.2 hne
      have f2 : ((N : Int) % 64 != 56) = true := by simp [bne, f1]
      have hnx : vals (s ++ [128] ++ List.replicate (k + 1) 0) = vals (s ++ [128] ++ List.replicate k 0) ++ [.int .u8 0] := by simp [vals, List.replicate_succ']
      have HX := Lib.hid (And.intro hnx (And.intro hN hz))
      have q2 : N + 1 ≤ maxLen := by unfold maxLen; unfold Sh.zeros at hlt; omega
      have q1 : (N + 1) * 1 ≤ 140737488355328 := by unfold Sh.zeros at hlt; omega
      clear hnx hN hN1 hne hz
      go_wp2_with (at_builtin; go_must (refine appendOM 70 (u := .int .u8 0) h Try.underlying70 info_u8 rfl rfl _ _ rfl rfl rfl rfl q2 q1 (fun v2 w5 h8 => ?_)))
      obtain ⟨A2, c2, hv⟩ := ownM_form h8.ownM
      subst hv
      go_roundw
      case rel =>
        have hn : N + 1 = s.length + 1 + (k + 1) := by have := HX.out.2.1; omega
        refine ⟨k + 1, A2, c2, by omega, by rw [hn], ?_⟩
        rw [← hn, HX.out.1]
        exact h8
      case measure => simp only [slLen]; have := HX.out.2.1; simp; omega
    · have hkz : k = Sh.zeros s.length := by omega
      have e1 : (N : Int).tmod 64 = (N : Int) % 64 := Int.tmod_eq_emod_of_nonneg (by omega)
      have hne : (N : Int) % 64 = 56 := by unfold Sh.zeros at hkz; omega
      have f1 : ((N : Int) % 64 == 56) = true := by rw [hne]; rfl
      have f2 : ((N : Int) % 64 != 56) = false := by rw [hne]; rfl
      obtain ⟨X, hX⟩ : ∃ X, s ++ [128] ++ List.replicate k 0 = X := ⟨_, rfl⟩
      rw [hX] at h
      have hpad : Sh.pad s = X ++ Sh.be8 (8 * s.length) := by rw [← hX, hkz]; rfl
      have hXl : X.length ≤ 1000000000000 := by rw [← hX]; simp; omega
      have k1 : ∀ W, Calls Try.prog 71 #[.int .i64 (8 * (s.length : Int))] W fun e w' => e = .returned (.string ⟨(Sh.be8 (8 * s.length)).toArray⟩) ∧ Below W.heap.size W w' := fun W => by
        have := rlength_spec (8 * s.length) (by omega) W
        rwa [show ((8 * s.length : Nat) : Int) = 8 * (s.length : Int) from by omega] at this
      have hBl : (Sh.be8 (8 * s.length)).length ≤ 8 := Nat.le_refl _
      have HX := Lib.hid (And.intro hpad (And.intro h.below hX))
      have hC : ∀ W, St w.heap.size w W [ownM 5 1 (.slice A N c) N (vals X)] → (convert 70 9 (.slice A N c)).run Try.prog W = .ok (.string ⟨X.toArray⟩) W := fun W hW => conv_ownM 70 9 5 Try.underlying70 Try.underlying5 Try.underlying9 W _ N X hW.ownM
      have hC1 := hC _ h.drew
      have hC2 : ∀ W, Below wr.drew.heap.size wr.drew W → (convert 70 9 (.slice A N c)).run Try.prog W = .ok (.string ⟨X.toArray⟩) W := fun W hb => hC W (h.drew.under hb)
      have HC := Lib.hid hC2
      obtain ⟨B8, hB8⟩ : ∃ B, Sh.be8 (8 * s.length) = B := ⟨_, rfl⟩
      rw [hB8] at k1 hBl
      have HB := Lib.hid hB8
      clear hX hpad hkz hN hN1 hne hC hC2 hB8 hlt hk hz
      have g1 : ¬ (IntKind.i64.max < (X.length : Int) + (B8.length : Int)) := by show ¬ ((9223372036854775807 : Int) < _); omega
      have g2 : ¬ ((9223372036854775807 : Int) < (X.length : Int) + (B8.length : Int)) := by omega
      have g3 : ¬ (9223372036854775807 < X.length + B8.length) := by omega
      have g4 : IntKind.i64.wrap (8 * (s.length : Int)) = 8 * (s.length : Int) := by rw [IntWalk.i64_left, IntWalk.wrap64_in _ (by omega)]
      have hba := bytes_append X B8
      go_wp2_with fail
      have H := Lib.hid h
      clear h
      go_region_held3 (fun w' => (convert 70 9 (.slice A N c)).run Try.prog w' = .ok (.string ⟨X.toArray⟩) w')
        (first
          | with_reducible exact hC1
          | exact HC.out _ b2
          | fail)
        (first
          | (with_reducible refine (k1 _).mono ?_
             rintro e w2 ⟨rfl, b2⟩)
          | fail)
      all_goals
        go_wp2
        go_ret
        exact ⟨by rw [HX.out.1, HB.out]; rfl, (H.out.drew.under b2).below⟩
end Go.Proofs.Ytiklfjehhdbhfaa
