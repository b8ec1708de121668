/-
  Roots of leaf hashes, in the program and in the reference. Conditions: at most 2^40 leaves.
-/
import Derived.Test.YtiklfjehhdbhfaaMkA
import Derived.Deep.RegionHeld3
namespace Go.Proofs.Ytiklfjehhdbhfaa
set_option linter.unusedVariables false
open Go.RowKit

theorem rd_take {w : World} {A : Option Addr} {L : List Mk.Str} (h : Rd w A (strs L)) (k : Nat) : Rd w A (strs (L.take k)) := by
  rcases h with h | ⟨b, off, hA, hc⟩
  · left
    have : L = [] := by simpa [strs] using h
    subst this
    simp [strs]
  · refine .inr ⟨b, off, hA, fun j hj => ?_⟩
    have hl : j < (strs L).length := by simp [strs] at hj ⊢; omega
    have := hc j hl
    rw [this]
    simp [strs]
theorem rd_drop {w : World} {b off : Nat} {L : List Mk.Str} (h : Rd w (some ⟨b, off, none⟩) (strs L)) (k : Nat) : Rd w (some ⟨b, off + k, none⟩) (strs (L.drop k)) := by
  rcases h with h | ⟨b', off', hA, hc⟩
  · left
    have : L = [] := by simpa [strs] using h
    subst this
    simp [strs]
  · injection hA with hA
    injection hA with h1 h2
    subst h1 h2
    refine .inr ⟨b, off + k, rfl, fun j hj => ?_⟩
    have hl : k + j < (strs L).length := by simp [strs] at hj ⊢; omega
    have := hc (k + j) hl
    rw [← Nat.add_assoc] at this
    rw [this]
    simp [strs]
set_option maxRecDepth 20000 in
set_option maxHeartbeats 2000000 in
theorem mroot_spec : ∀ (n : Nat) (A : Option Addr) (L : List Mk.Str) (c : Nat) (w : World), L.length ≤ n → n ≤ 1099511627776 → Rd w A (strs L) → L.length ≤ c → c ≤ maxLen →
    Calls Try.prog 43 #[.slice A L.length c] w fun e w' => e = .returned (.string ⟨(Mk.root L).toArray⟩) ∧ Below w.heap.size w w' := by
  intro n
  induction n with
  | zero =>
    intro A L c w hl hn hR hc hm
    obtain rfl : L = [] := List.eq_nil_of_length_eq_zero (by omega)
    rw [Mk.root_nil]
    go_enter Try.func43, Try.ntmps43
    go_wp2_with fail
    refine (sum_below [] (by decide) _).mono ?_
    rintro e w1 ⟨rfl, b1⟩
    go_wp2
    go_ret
    exact ⟨rfl, b1⟩
  | succ n ih =>
    intro A L c w hl hn hR hc hm
    by_cases h2 : L.length < 2
    · by_cases h0 : L.length = 0
      · exact ih A L c w (by omega) (by omega) hR hc hm
      · obtain ⟨x, rfl⟩ := List.length_eq_one_iff.1 (show L.length = 1 by omega)
        rw [Mk.root_one]
        obtain ⟨b, off, rfl, hcc⟩ := hR.str (k := 0) (by simp)
        rw [Nat.add_zero] at hcc
        have hcc : w.cell? ⟨b, off, none⟩ = some (.string ⟨x.toArray⟩) := hcc
        have h1 : ([x] : List Mk.Str).length = 1 := rfl
        rw [h1]
        clear h1 hl h2 h0 hR hc
        go_enter Try.func43, Try.ntmps43
        go_wp2
        go_ret
        exact ⟨rfl, Below.refl _ _⟩
    · obtain ⟨b, off, hA, _⟩ := hR.str (k := 0) (by omega)
      subst hA
      have hk0 := Mk.split_pos L.length
      have hk1 := Mk.split_lt (n := L.length) (by omega)
      have hrt := Mk.root_split L (by omega)
      have ks := fun W => split_spec L.length (by omega) (by omega) W
      obtain ⟨k, hk⟩ : ∃ k, Mk.split L.length = k := ⟨_, rfl⟩
      rw [hk] at hk0 hk1 hrt ks
      have ht := rd_take hR k
      have hd := rd_drop hR k
      have lt : (L.take k).length = k := by rw [List.length_take]; omega
      have ld : (L.drop k).length = L.length - k := List.length_drop
      have k1 := fun (W : World) (hb : Below w.heap.size w W) => ih (some ⟨b, off, none⟩) (L.take k) c W (by omega) (by omega) (ht.below hb) (by omega) hm
      have k2 := fun (W : World) (hb : Below w.heap.size w W) => ih (some ⟨b, off + k, none⟩) (L.drop k) (c - k) W (by omega) (by omega) (hd.below hb) (by omega) (by unfold maxLen at hm ⊢; omega)
      rw [lt] at k1
      rw [ld] at k2
      rw [hrt]
      have k3 := fun W => node_spec (Mk.root (L.take k)) (Mk.root (L.drop k)) W
      generalize Mk.root (L.take k) = R1 at k1 k3 ⊢
      generalize Mk.root (L.drop k) = R2 at k2 k3 ⊢
      generalize Mk.node R1 R2 = R3 at k3 ⊢
      obtain ⟨N, hN⟩ : ∃ N, L.length = N := ⟨_, rfl⟩
      rw [hN] at hl hc h2 hk1 k2 ks ⊢
      have HX := Lib.hid (And.intro hN (And.intro hk (And.intro hR (And.intro ht hd))))
      clear hN hk hR ht hd lt ld hrt ih
      have i0 : ((N : Int) == 0) = false := by rw [beq_eq_false_iff_ne]; omega
      have i1 : ((N : Int) == 1) = false := by rw [beq_eq_false_iff_ne]; omega
      have i2 : (0 : Int) ≤ (k : Int) := by omega
      have i3 : (k : Int) ≤ (N : Int) := by omega
      have i4 : (k : Int) ≤ (c : Int) := by omega
      have i5 : (N : Int) ≤ (c : Int) := by omega
      have i6 : ¬ (k = c) := by omega
      have i7 : ((N - k : Nat) : Int) = (N : Int) - (k : Int) := by omega
      have i8 : ((c - k : Nat) : Int) = (c : Int) - (k : Int) := by omega
      have i9 : ¬ (c = k) := by omega
      unfold maxLen at hm
      go_enter Try.func43, Try.ntmps43
      go_wp2_with (first
        | ((with_reducible refine (ks _).mono ?_); rintro e w1 ⟨rfl, rfl⟩)
        | fail)
      have b0 : Below w.heap.size w w.drew := (Below.refl _ w).drew
      go_region_held3 (fun w' => w.heap.size ≤ w'.heap.size)
        (first
          | exact Nat.le_refl _
          | exact b3.size
          | exact b2.size
          | exact b1.size
          | fail)
        (first
          | (with_reducible refine (k1 _ b0).mono ?_
             rintro e w1 ⟨rfl, c1⟩
             have b1 := b0.trans (c1.mono b0.size))
          | (with_reducible refine (k2 _ b1).mono ?_
             rintro e w2 ⟨rfl, c2⟩
             have b2 := b1.trans (c2.mono b1.size))
          | (with_reducible refine (k3 _).mono ?_
             rintro e w3 ⟨rfl, c3⟩
             have b3 := b2.trans (c3.mono b2.size))
          | fail)
      all_goals
        go_wp2
        go_ret
        exact ⟨rfl, b3⟩
set_option maxRecDepth 20000 in
set_option maxHeartbeats 2000000 in
theorem rroot_spec : ∀ (n : Nat) (A : Option Addr) (L : List Mk.Str) (c : Nat) (w : World), L.length ≤ n → n ≤ 1099511627776 → Rd w A (strs L) → L.length ≤ c → c ≤ maxLen →
    Calls Try.prog 44 #[.slice A L.length c] w fun e w' => e = .returned (.string ⟨(Mk.root L).toArray⟩) ∧ Below w.heap.size w w' := by
  intro n
  induction n with
  | zero =>
    intro A L c w hl hn hR hc hm
    obtain rfl : L = [] := List.eq_nil_of_length_eq_zero (by omega)
    rw [Mk.root_nil]
    go_enter Try.func44, Try.ntmps44
    go_wp2_with fail
    refine (rsum_spec [] (by decide) _).mono ?_
    rintro e w1 ⟨rfl, b1⟩
    go_wp2
    go_ret
    exact ⟨rfl, b1⟩
  | succ n ih =>
    intro A L c w hl hn hR hc hm
    by_cases h2 : L.length < 2
    · by_cases h0 : L.length = 0
      · exact ih A L c w (by omega) (by omega) hR hc hm
      · obtain ⟨x, rfl⟩ := List.length_eq_one_iff.1 (show L.length = 1 by omega)
        rw [Mk.root_one]
        obtain ⟨b, off, rfl, hcc⟩ := hR.str (k := 0) (by simp)
        rw [Nat.add_zero] at hcc
        have hcc : w.cell? ⟨b, off, none⟩ = some (.string ⟨x.toArray⟩) := hcc
        have h1 : ([x] : List Mk.Str).length = 1 := rfl
        rw [h1]
        clear h1 hl h2 h0 hR hc
        go_enter Try.func44, Try.ntmps44
        go_wp2
        go_ret
        exact ⟨rfl, Below.refl _ _⟩
    · obtain ⟨b, off, hA, _⟩ := hR.str (k := 0) (by omega)
      subst hA
      have hk0 := Mk.split_pos L.length
      have hk1 := Mk.split_lt (n := L.length) (by omega)
      have hrt := Mk.root_split L (by omega)
      have ks := fun W => rsplit_spec L.length (by omega) (by omega) W
      obtain ⟨k, hk⟩ : ∃ k, Mk.split L.length = k := ⟨_, rfl⟩
      rw [hk] at hk0 hk1 hrt ks
      have ht := rd_take hR k
      have hd := rd_drop hR k
      have lt : (L.take k).length = k := by rw [List.length_take]; omega
      have ld : (L.drop k).length = L.length - k := List.length_drop
      have k1 := fun (W : World) (hb : Below w.heap.size w W) => ih (some ⟨b, off, none⟩) (L.take k) c W (by omega) (by omega) (ht.below hb) (by omega) hm
      have k2 := fun (W : World) (hb : Below w.heap.size w W) => ih (some ⟨b, off + k, none⟩) (L.drop k) (c - k) W (by omega) (by omega) (hd.below hb) (by omega) (by unfold maxLen at hm ⊢; omega)
      rw [lt] at k1
      rw [ld] at k2
      rw [hrt]
      have k3 := fun W => rnode_spec (Mk.root (L.take k)) (Mk.root (L.drop k)) W
      generalize Mk.root (L.take k) = R1 at k1 k3 ⊢
      generalize Mk.root (L.drop k) = R2 at k2 k3 ⊢
      generalize Mk.node R1 R2 = R3 at k3 ⊢
      obtain ⟨N, hN⟩ : ∃ N, L.length = N := ⟨_, rfl⟩
      rw [hN] at hl hc h2 hk1 k2 ks ⊢
      have HX := Lib.hid (And.intro hN (And.intro hk (And.intro hR (And.intro ht hd))))
      clear hN hk hR ht hd lt ld hrt ih
      have i0 : ((N : Int) == 0) = false := by rw [beq_eq_false_iff_ne]; omega
      have i1 : ((N : Int) == 1) = false := by rw [beq_eq_false_iff_ne]; omega
      have i2 : (0 : Int) ≤ (k : Int) := by omega
      have i3 : (k : Int) ≤ (N : Int) := by omega
      have i4 : (k : Int) ≤ (c : Int) := by omega
      have i5 : (N : Int) ≤ (c : Int) := by omega
      have i6 : ¬ (k = c) := by omega
      have i7 : ((N - k : Nat) : Int) = (N : Int) - (k : Int) := by omega
      have i8 : ((c - k : Nat) : Int) = (c : Int) - (k : Int) := by omega
      have i9 : ¬ (c = k) := by omega
      unfold maxLen at hm
      go_enter Try.func44, Try.ntmps44
      go_wp2_with (first
        | ((with_reducible refine (ks _).mono ?_); rintro e w1 ⟨rfl, rfl⟩)
        | fail)
      have b0 : Below w.heap.size w w.drew := (Below.refl _ w).drew
      go_region_held3 (fun w' => w.heap.size ≤ w'.heap.size)
        (first
          | exact Nat.le_refl _
          | exact b3.size
          | exact b2.size
          | exact b1.size
          | fail)
        (first
          | (with_reducible refine (k1 _ b0).mono ?_
             rintro e w1 ⟨rfl, c1⟩
             have b1 := b0.trans (c1.mono b0.size))
          | (with_reducible refine (k2 _ b1).mono ?_
             rintro e w2 ⟨rfl, c2⟩
             have b2 := b1.trans (c2.mono b1.size))
          | (with_reducible refine (k3 _).mono ?_
             rintro e w3 ⟨rfl, c3⟩
             have b3 := b2.trans (c3.mono b2.size))
          | fail)
      all_goals
        go_wp2
        go_ret
        exact ⟨rfl, b3⟩
end Go.Proofs.Ytiklfjehhdbhfaa
