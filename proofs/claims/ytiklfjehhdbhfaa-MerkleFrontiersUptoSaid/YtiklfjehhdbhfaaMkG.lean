/-
  Inclusion proofs verified. Conditions: at most 2^40 leaves.
-/
import Derived.Test.YtiklfjehhdbhfaaMkF
import Derived.Deep.QuietTactic
import Derived.BigQuiet
namespace Go.Proofs.Ytiklfjehhdbhfaa
set_option linter.unusedVariables false
open Go.RowKit

def GvP (x : Mk.Str × Bool) (w : World) (e : Ending) (w' : World) : Prop := e = .returned (.tuple #[.string ⟨x.1.toArray⟩, .bool x.2]) ∧ Below w.heap.size w w'
theorem isEmpty_len (P : List Mk.Str) : P.isEmpty = ((P.length : Int) == 0) := by cases P <;> simp; omega
set_option maxRecDepth 20000 in
set_option maxHeartbeats 4000000 in
theorem given_spec : ∀ (n : Nat) (A : Option Addr) (P : List Mk.Str) (x : Mk.Str) (i c : Nat) (w : World), 1 ≤ n → n ≤ 1099511627776 → i < n → Rd w A (strs P) → P.length ≤ c → c ≤ maxLen →
    Calls Try.prog 49 #[.string ⟨x.toArray⟩, .int .i64 (i : Int), .int .i64 (n : Int), .slice A P.length c] w (GvP (Mk.given x i n P) w) := by
  intro n
  induction n using Nat.strongRecOn with
  | _ n ih =>
    intro A P x i c w h1 hn hi hR hc hm
    unfold maxLen at hm
    by_cases h2 : n < 2
    · obtain rfl : n = 1 := by omega
      rw [Mk.given_one x i 1 P h2, isEmpty_len]
      clear hR ih
      go_enter Try.func49, Try.ntmps49
      go_wp2
      go_ret2
      exact ⟨rfl, Below.refl _ _⟩
    have g1 : ((n : Int) == 1) = false := by rw [beq_eq_false_iff_ne]; omega
    rcases Mk.snoc_cases P with rfl | ⟨Q, q, rfl⟩
    · rw [Mk.given_nil x i n (by omega)]
      clear hR ih
      go_enter Try.func49, Try.ntmps49
      go_wp2
      go_ret2
      exact ⟨rfl, Below.refl _ _⟩
    · have hlen : (Q ++ [q]).length = Q.length + 1 := by simp
      obtain ⟨b, off, hA, hcc0⟩ := hR.str (k := Q.length) (by rw [hlen]; omega)
      subst hA
      have hq : (Q ++ [q])[Q.length]'(by rw [hlen]; omega) = q := by simp
      have hcc : w.cell? ⟨b, off + Q.length, none⟩ = some (.string ⟨q.toArray⟩) := by
        rw [hcc0]; congr 3; exact congrArg List.toArray hq
      clear hcc0
      have hRQ : Rd w (some ⟨b, off, none⟩) (strs Q) := by
        have := rd_take hR Q.length
        rwa [List.take_left] at this
      rw [hlen] at hc ⊢
      have ks := fun W => (split_spec n (by omega) hn W).mono (fun e w' h => And.intro h.1 h.2.symm)
      have hk0 := Mk.split_pos n
      have hk1 := Mk.split_lt (n := n) (by omega)
      have hgl := Mk.given_left x i n Q q (by omega)
      have hgr := Mk.given_right x i n Q q (by omega)
      obtain ⟨k, hk⟩ : ∃ k, Mk.split n = k := ⟨_, rfl⟩
      rw [hk] at ks hk0 hk1 hgl hgr
      obtain ⟨N, hN⟩ : ∃ N, Q.length = N := ⟨_, rfl⟩
      have kL : i < k → ∀ W, Below w.heap.size w W → Calls Try.prog 49 #[.string ⟨x.toArray⟩, .int .i64 (i : Int), .int .i64 (k : Int), .slice (some ⟨b, off, none⟩) N c] W (GvP (Mk.given x i k Q) W) := fun hik W hb => by
        have := ih k hk1 (some ⟨b, off, none⟩) Q x i c W (by omega) (by omega) hik (hRQ.below hb) (by omega) (by unfold maxLen; omega)
        rwa [hN] at this
      have kR : ¬ i < k → ∀ W, Below w.heap.size w W → Calls Try.prog 49 #[.string ⟨x.toArray⟩, .int .i64 ((i - k : Nat) : Int), .int .i64 ((n - k : Nat) : Int), .slice (some ⟨b, off, none⟩) N c] W (GvP (Mk.given x (i - k) (n - k) Q) W) := fun hik W hb => by
        have := ih (n - k) (by omega) (some ⟨b, off, none⟩) Q x (i - k) c W (by omega) (by omega) (by omega) (hRQ.below hb) (by omega) (by unfold maxLen; omega)
        rwa [hN] at this
      rw [hN] at hcc hc ⊢
      have HX := Lib.hid (And.intro hN (And.intro hk (And.intro hR hRQ)))
      clear hR hRQ hN hk ih hq hlen
      have p0 : (((N + 1 : Nat) : Int) == 0) = false := by rw [beq_eq_false_iff_ne]; omega
      have p00 : ((N : Int) + 1 == 0) = false := by rw [beq_eq_false_iff_ne]; omega
      have p1 : IntKind.i64.wrap (N : Int) = (N : Int) := by rw [IntWalk.i64_left, IntWalk.wrap64_in _ (by omega)]
      have p2 : (0 : Int) ≤ (N : Int) := by omega
      have p3 : (N : Int) < (N : Int) + 1 := by omega
      have p4 : (N : Int) ≤ (c : Int) := by omega
      have p5 : (N : Int) + 1 ≤ (c : Int) := by omega
      by_cases hik : i < k
      · have g2 : decide ((i : Int) < (k : Int)) = true := by simp; omega
        have hg := hgl hik
        have k2 := kL hik
        clear hgl hgr kL kR
        rw [hg]
        generalize Mk.given x i k Q = G at k2 ⊢
        obtain ⟨R, ok⟩ := G
        have k3 := fun W => node_spec R q W
        show Calls _ _ _ _ (GvP (Mk.node R q, ok) w)
        generalize Mk.node R q = R2 at k3 ⊢
        go_enter Try.func49, Try.ntmps49
        go_wp2_with fail
        go_quiet (first | (go_at_call 56; with_reducible exact Calls.quiet_of_same (ks _)))
        have b0 : Below w.heap.size w (w.drewN nq) := ((Mod.refl (fun _ => False) w).drewN nq).below (Nat.le_refl _) (fun _ _ h => h)
        go_wp2_with fail
        refine (k2 _ b0).mono ?_
        rintro e w1 ⟨rfl, b1⟩
        go_wp2_with fail
        refine (k3 _).mono ?_
        rintro e w2 ⟨rfl, b2⟩
        have b3 := b0.trans (b1.mono b0.size)
        go_wp2
        go_ret2
        exact ⟨rfl, b3.trans (b2.mono b3.size)⟩
      · have g2 : decide ((i : Int) < (k : Int)) = false := by simp; omega
        have hg := hgr hik
        have k2 := kR hik
        clear hgl hgr kL kR
        rw [hg]
        generalize Mk.given x (i - k) (n - k) Q = G at k2 ⊢
        obtain ⟨R, ok⟩ := G
        have k3 := fun W => node_spec q R W
        show Calls _ _ _ _ (GvP (Mk.node q R, ok) w)
        generalize Mk.node q R = R2 at k3 ⊢
        have j1 : (i : Int) - (k : Int) = ((i - k : Nat) : Int) := by omega
        have j2 : (n : Int) - (k : Int) = ((n - k : Nat) : Int) := by omega
        generalize i - k = i' at k2 j1
        generalize n - k = n' at k2 j2
        go_enter Try.func49, Try.ntmps49
        go_wp2_with fail
        go_quiet (first | (go_at_call 56; with_reducible exact Calls.quiet_of_same (ks _)))
        have b0 : Below w.heap.size w (w.drewN nq) := ((Mod.refl (fun _ => False) w).drewN nq).below (Nat.le_refl _) (fun _ _ h => h)
        go_wp2_with fail
        refine (k2 _ b0).mono ?_
        rintro e w1 ⟨rfl, b1⟩
        go_wp2_with fail
        refine (k3 _).mono ?_
        rintro e w2 ⟨rfl, b2⟩
        have b3 := b0.trans (b1.mono b0.size)
        go_wp2
        go_ret2
        exact ⟨rfl, b3.trans (b2.mono b3.size)⟩
end Go.Proofs.Ytiklfjehhdbhfaa
