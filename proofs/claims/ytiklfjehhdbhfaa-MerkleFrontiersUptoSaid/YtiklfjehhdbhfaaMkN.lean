/-
  The root of a frontier, in the program and in the reference. Conditions: at most 2^40 hashes.
-/
import Derived.Test.YtiklfjehhdbhfaaMkM
namespace Go.Proofs.Ytiklfjehhdbhfaa
set_option linter.unusedVariables false
open Go.RowKit

/-- the root after k steps from the right -/
def spr (H : List Mk.Str) (N k : Nat) : Mk.Str := ((H.take N).drop (N - k)).foldr Mk.node (H.getLastD (Sh.sha []))
theorem spr_zero (H : List Mk.Str) (N : Nat) : spr H N 0 = H.getLastD (Sh.sha []) := by
  unfold spr
  rw [List.drop_eq_nil_of_le (by rw [List.length_take]; omega)]
  rfl
theorem spr_succ (H : List Mk.Str) (N k : Nat) (hk : k < N) (hN : N ≤ H.length) : spr H N (k + 1) = Mk.node (H[N - 1 - k]'(by omega)) (spr H N k) := by
  unfold spr
  have h1 : N - (k + 1) < (H.take N).length := by rw [List.length_take]; omega
  rw [List.drop_eq_getElem_cons h1, List.foldr_cons, show N - (k + 1) + 1 = N - k by omega]
  congr 1
  rw [List.getElem_take]
  congr 1
  omega
theorem spr_full (H : List Mk.Str) : spr H (H.length - 1) (H.length - 1) = Mk.rootP H := by
  unfold spr Mk.rootP
  rw [Nat.sub_self, List.drop_zero, List.dropLast_eq_take]
def frB (z : Int) (L : List Mk.Str) : Mk.Str × Int := if fwB z L = true then (Mk.rootP L, 0) else ([], 1)
theorem fwB_parts {z : Int} {L : List Mk.Str} (h : fwB z L = true) : 0 ≤ z ∧ z ≤ 4096 ∧ L.length = Mk.ones z.toNat ∧ L.length ≤ 4096 ∧ Mk.AllD L := by
  unfold fwB at h
  simp only [Bool.and_eq_true, decide_eq_true_eq, beq_iff_eq, vld_iff] at h
  obtain ⟨⟨⟨h1, h2⟩, h3⟩, h4, h5⟩ := h
  exact ⟨h1, h2, by omega, h4, h5⟩
theorem ones_some (n : Nat) (h : n ≠ 0) : 1 ≤ Mk.ones n := by
  induction n using Nat.strongRecOn with
  | _ n ih =>
    rw [Mk.ones_half]
    by_cases h2 : n / 2 = 0
    · omega
    · have := ih (n / 2) (by omega) h2
      omega
set_option maxRecDepth 20000 in
set_option maxHeartbeats 4000000 in
theorem froot_spec (z : Int) (A : Option Addr) (L : List Mk.Str) (c : Nat) (w : World) (hR : Rd w A (strs L)) (hl : L.length ≤ 1099511627776) (hc : L.length ≤ c) (z0 : -9223372036854775808 ≤ z) (z1 : z ≤ 9223372036854775807) :
    Calls Try.prog 24 #[.agg #[.int .i64 z, .slice A L.length c]] w fun e w' => e = .returned (.tuple #[.string ⟨(frB z L).1.toArray⟩, .int .i64 (frB z L).2]) ∧ Below w.heap.size w w' := by
  have ba : Below w.heap.size w (w.alloc (.cells #[.int .i64 z, .slice A L.length c] 34)) := (Below.refl _ w).alloc (Nat.le_refl _) _
  have hb := Blk.new w 34 #[.int .i64 z, .slice A L.length c]
  have c0 := hb.cell 0
  have c1 := hb.cell 1
  have hR2 := hR.below ba
  have hbz := World.size_alloc w (.cells #[.int .i64 z, .slice A L.length c] 34)
  have k1 := fun W hb => (whole_spec z A L c W (hR.below hb) hl z0 z1)
  cases hf : fwB z L with
  | false =>
    rw [hf] at k1
    have HB := Lib.hid (show frB z L = ([], 1) by unfold frB; rw [hf]; rfl)
    have HBB := Lib.hid (And.intro hb hbz)
    clear hR hR2 hf hb hbz
    go_enter Try.func24, Try.ntmps24
    go_wp2_with fail
    generalize hW : w.alloc (.cells #[.int .i64 z, .slice A L.length c] 34) = W at *
    refine (k1 _ ba).mono ?_
    rintro e w1 ⟨rfl, b1⟩
    go_wp2
    go_ret2
    exact ⟨by rw [HB.out]; rfl, ba.trans (b1.mono ba.size)⟩
  | true =>
    rw [hf] at k1
    have hp := fwB_parts hf
    have HB := Lib.hid (show frB z L = (Mk.rootP L, 0) by unfold frB; rw [hf]; rfl)
    by_cases h0 : z = 0
    · subst h0
      obtain rfl : L = [] := List.eq_nil_of_length_eq_zero (by rw [hp.2.2.1]; exact Mk.ones_zero)
      have HBB := Lib.hid (And.intro hb hbz)
      have er : Mk.rootP [] = Sh.sha [] := rfl
      rw [er] at HB
      clear hR hR2 hf hp hb hbz er
      go_enter Try.func24, Try.ntmps24
      go_wp2_with fail
      generalize hW : w.alloc (.cells #[.int .i64 0, .slice A 0 c] 34) = W at *
      refine (k1 _ ba).mono ?_
      rintro e w1 ⟨rfl, b1⟩
      have hb1 := HBB.out.1.below (b1.mono (Nat.le_refl _))
      have c01 := hb1.cell 0
      have HB1 := Lib.hid hb1
      clear hb1 c0 c1
      go_wp2_with fail
      refine (sum_below [] (by decide) _).mono ?_
      rintro e w2 ⟨rfl, b2⟩
      go_wp2
      go_ret2
      have b3 := ba.trans (b1.mono ba.size)
      exact ⟨by rw [HB.out]; rfl, b3.trans (b2.mono b3.size)⟩
    · have hlen : 1 ≤ L.length := by rw [hp.2.2.1]; exact ones_some _ (by omega)
      have hl2 : L.length ≤ 4096 := hp.2.2.2.1
      obtain ⟨N, hN⟩ : ∃ N, L.length = N + 1 := ⟨L.length - 1, by omega⟩
      have g0 : (z == 0) = false := beq_eq_false_iff_ne.mpr h0
      have hfull := spr_full L
      rw [hN, Nat.add_sub_cancel] at hfull
      rw [← hfull] at HB
      have hst := fun k (hk : k < N) => spr_succ L N k hk (by omega)
      have hz := spr_zero L N
      have hlast : L.getLastD (Sh.sha []) = L[N]'(by omega) := by
        obtain ⟨Q, q, rfl⟩ : ∃ Q q, L = Q ++ [q] := by
          rcases Mk.snoc_cases L with rfl | h
          · simp at hN
          · exact h
        have : Q.length = N := by simpa using hN
        subst this
        simp
      rw [hlast] at hz
      obtain ⟨b, off, hA, hx⟩ := hR.str (k := N) (by omega)
      clear hx
      subst hA
      have hcell : ∀ W, Below w.heap.size w W → ∀ j (hj : j < L.length), W.cell? ⟨b, off + j, none⟩ = some (.string ⟨L[j].toArray⟩) := fun W hW j hj => by
        obtain ⟨b', off', hA', h'⟩ := (hR.below hW).str hj
        cases hA'
        exact h'
      have hS0 : ∀ W, Below w.heap.size w W → W.cell? ⟨b, off + N, none⟩ = some (.string ⟨(spr L N 0).toArray⟩) := fun W hW => by
        rw [hz]; exact hcell W hW N (by omega)
      have hS : ∀ W, Below w.heap.size w W → ∀ k, k < N → ∃ y, W.cell? ⟨b, off + (N - 1 - k), none⟩ = some (.string ⟨y.toArray⟩) ∧ spr L N (k + 1) = Mk.node y (spr L N k) := fun W hW k hk =>
        ⟨_, hcell W hW (N - 1 - k) (by omega), hst k hk⟩
      have HBB := Lib.hid (And.intro hb hbz)
      have HS0 := Lib.hid hS0
      have HS := Lib.hid hS
      rw [hN] at k1 c1 ba HBB hc ⊢ hbz
      have hN2 : N ≤ 4096 := by omega
      clear hl2
      clear hst hz hlast hfull hN hcell hS hR hR2 hf hp hlen hb hl
      generalize spr L N = S at HS0 HS HB hS0
      have n1 : (N : Int) + 1 - 1 = (N : Int) := by omega
      have n2 : (N : Int) < (N : Int) + 1 := by omega
      have n3 : (N : Int) + 1 ≤ (c : Int) := by omega
      have n4 : (0 : Int) ≤ (N : Int) := by omega
      have n5 : (N : Int) + 1 - 2 = (N : Int) - 1 := by omega
      go_enter Try.func24, Try.ntmps24
      go_wp2_with fail
      generalize hW : w.alloc (.cells #[.int .i64 z, .slice (some ⟨b, off, none⟩) (N + 1) c] 34) = W at *
      refine (k1 _ ba).mono ?_
      rintro e w1 ⟨rfl, b1⟩
      have hb1 := HBB.out.1.below b1
      have c01 := hb1.cell 0
      have c11 := hb1.cell 1
      have HB1 := Lib.hid hb1
      have ba1 := ba.trans (b1.mono ba.size)
      have s0 := hS0 w1 ba1
      clear hb1 c0 c1 hS0
      go_wp2_with fail
      go_loopw [4, 25] (fun s i wr => ∃ k : Nat, k ≤ N ∧ i = .int .i64 k ∧ s = .string ⟨(S k).toArray⟩ ∧ Below w1.heap.size w1 wr) (fun _ i _ => N - (intOf i).toNat)
      case atStart => exact ⟨0, Nat.zero_le _, rfl, rfl, Below.refl _ _⟩
      case round =>
        obtain ⟨k, hk, rfl, rfl, bw⟩ := hrel
        have c02 := (HB1.out.below bw).cell 0
        have c12 := (HB1.out.below bw).cell 1
        have baw := ba1.trans (bw.mono ba1.size)
        by_cases hlt : k < N
        · obtain ⟨y, hy, hs⟩ := HS.out _ baw k hlt
          obtain ⟨j, hj⟩ : ∃ j, N - 1 - k = j := ⟨_, rfl⟩
          rw [hj] at hy
          have e2 : (N : Int) - 1 - (k : Int) = (j : Int) := by omega
          have e3 : (j : Int) < (N : Int) + 1 := by omega
          have g1 : decide ((k : Int) < (N : Int)) = true := by simp; omega
          have k2 := fun W => node_spec y (S k) W
          rw [← hs] at k2
          obtain ⟨S1, h1⟩ : ∃ x, S (k + 1) = x := ⟨_, rfl⟩
          rw [h1] at k2
          have HX := Lib.hid (And.intro hj h1)
          clear h1
          generalize S k = Sk at k2 hs
          clear hs hj c01 c11 s0
          go_wp2_with fail
          refine (k2 _).mono ?_
          rintro e w3 ⟨rfl, b3⟩
          go_wp2
          go_round
          case rel => exact ⟨k + 1, by omega, by go_num, by rw [HX.out.2], bw.trans (b3.mono bw.size)⟩
          case measure => simp [intOf]; omega
        · obtain rfl : k = N := by omega
          have g1 : decide ((k : Int) < (k : Int)) = false := by simp
          clear c01 c11 s0
          go_wp2
          go_ret2
          exact ⟨by rw [HB.out]; rfl, baw⟩
set_option maxRecDepth 20000 in
set_option maxHeartbeats 4000000 in
theorem rfroot_spec (z : Int) (A : Option Addr) (L : List Mk.Str) (c : Nat) (w : World) (hR : Rd w A (strs L)) (hl : L.length ≤ 1099511627776) (hc : L.length ≤ c) (z0 : -9223372036854775808 ≤ z) (z1 : z ≤ 9223372036854775807) :
    Calls Try.prog 25 #[.agg #[.int .i64 z, .slice A L.length c]] w fun e w' => e = .returned (.tuple #[.string ⟨(frB z L).1.toArray⟩, .int .i64 (frB z L).2]) ∧ Below w.heap.size w w' := by
  have ba : Below w.heap.size w (w.alloc (.cells #[.int .i64 z, .slice A L.length c] 34)) := (Below.refl _ w).alloc (Nat.le_refl _) _
  have hb := Blk.new w 34 #[.int .i64 z, .slice A L.length c]
  have c0 := hb.cell 0
  have c1 := hb.cell 1
  have hR2 := hR.below ba
  have hbz := World.size_alloc w (.cells #[.int .i64 z, .slice A L.length c] 34)
  have k1 := fun W hb => (rwhole_spec z A L c W (hR.below hb) hl z0 z1)
  cases hf : fwB z L with
  | false =>
    rw [hf] at k1
    have HB := Lib.hid (show frB z L = ([], 1) by unfold frB; rw [hf]; rfl)
    have HBB := Lib.hid (And.intro hb hbz)
    clear hR hR2 hf hb hbz
    go_enter Try.func25, Try.ntmps25
    go_wp2_with fail
    generalize hW : w.alloc (.cells #[.int .i64 z, .slice A L.length c] 34) = W at *
    refine (k1 _ ba).mono ?_
    rintro e w1 ⟨rfl, b1⟩
    go_wp2
    go_ret2
    exact ⟨by rw [HB.out]; rfl, ba.trans (b1.mono ba.size)⟩
  | true =>
    rw [hf] at k1
    have hp := fwB_parts hf
    have HB := Lib.hid (show frB z L = (Mk.rootP L, 0) by unfold frB; rw [hf]; rfl)
    by_cases h0 : z = 0
    · subst h0
      obtain rfl : L = [] := List.eq_nil_of_length_eq_zero (by rw [hp.2.2.1]; exact Mk.ones_zero)
      have HBB := Lib.hid (And.intro hb hbz)
      have er : Mk.rootP [] = Sh.sha [] := rfl
      rw [er] at HB
      clear hR hR2 hf hp hb hbz er
      go_enter Try.func25, Try.ntmps25
      go_wp2_with fail
      generalize hW : w.alloc (.cells #[.int .i64 0, .slice A 0 c] 34) = W at *
      refine (k1 _ ba).mono ?_
      rintro e w1 ⟨rfl, b1⟩
      have hb1 := HBB.out.1.below (b1.mono (Nat.le_refl _))
      have c01 := hb1.cell 0
      have HB1 := Lib.hid hb1
      clear hb1 c0 c1
      go_wp2_with fail
      refine (rsum_spec [] (by decide) _).mono ?_
      rintro e w2 ⟨rfl, b2⟩
      go_wp2
      go_ret2
      have b3 := ba.trans (b1.mono ba.size)
      exact ⟨by rw [HB.out]; rfl, b3.trans (b2.mono b3.size)⟩
    · have hlen : 1 ≤ L.length := by rw [hp.2.2.1]; exact ones_some _ (by omega)
      have hl2 : L.length ≤ 4096 := hp.2.2.2.1
      obtain ⟨N, hN⟩ : ∃ N, L.length = N + 1 := ⟨L.length - 1, by omega⟩
      have g0 : (z == 0) = false := beq_eq_false_iff_ne.mpr h0
      have hfull := spr_full L
      rw [hN, Nat.add_sub_cancel] at hfull
      rw [← hfull] at HB
      have hst := fun k (hk : k < N) => spr_succ L N k hk (by omega)
      have hz := spr_zero L N
      have hlast : L.getLastD (Sh.sha []) = L[N]'(by omega) := by
        obtain ⟨Q, q, rfl⟩ : ∃ Q q, L = Q ++ [q] := by
          rcases Mk.snoc_cases L with rfl | h
          · simp at hN
          · exact h
        have : Q.length = N := by simpa using hN
        subst this
        simp
      rw [hlast] at hz
      obtain ⟨b, off, hA, hx⟩ := hR.str (k := N) (by omega)
      clear hx
      subst hA
      have hcell : ∀ W, Below w.heap.size w W → ∀ j (hj : j < L.length), W.cell? ⟨b, off + j, none⟩ = some (.string ⟨L[j].toArray⟩) := fun W hW j hj => by
        obtain ⟨b', off', hA', h'⟩ := (hR.below hW).str hj
        cases hA'
        exact h'
      have hS0 : ∀ W, Below w.heap.size w W → W.cell? ⟨b, off + N, none⟩ = some (.string ⟨(spr L N 0).toArray⟩) := fun W hW => by
        rw [hz]; exact hcell W hW N (by omega)
      have hS : ∀ W, Below w.heap.size w W → ∀ k, k < N → ∃ y, W.cell? ⟨b, off + (N - 1 - k), none⟩ = some (.string ⟨y.toArray⟩) ∧ spr L N (k + 1) = Mk.node y (spr L N k) := fun W hW k hk =>
        ⟨_, hcell W hW (N - 1 - k) (by omega), hst k hk⟩
      have HBB := Lib.hid (And.intro hb hbz)
      have HS0 := Lib.hid hS0
      have HS := Lib.hid hS
      rw [hN] at k1 c1 ba HBB hc ⊢ hbz
      have hN2 : N ≤ 4096 := by omega
      clear hl2
      clear hst hz hlast hfull hN hcell hS hR hR2 hf hp hlen hb hl
      generalize spr L N = S at HS0 HS HB hS0
      have n1 : (N : Int) + 1 - 1 = (N : Int) := by omega
      have n2 : (N : Int) < (N : Int) + 1 := by omega
      have n3 : (N : Int) + 1 ≤ (c : Int) := by omega
      have n4 : (0 : Int) ≤ (N : Int) := by omega
      have n5 : (N : Int) + 1 - 2 = (N : Int) - 1 := by omega
      go_enter Try.func25, Try.ntmps25
      go_wp2_with fail
      generalize hW : w.alloc (.cells #[.int .i64 z, .slice (some ⟨b, off, none⟩) (N + 1) c] 34) = W at *
      refine (k1 _ ba).mono ?_
      rintro e w1 ⟨rfl, b1⟩
      have hb1 := HBB.out.1.below b1
      have c01 := hb1.cell 0
      have c11 := hb1.cell 1
      have HB1 := Lib.hid hb1
      have ba1 := ba.trans (b1.mono ba.size)
      have s0 := hS0 w1 ba1
      clear hb1 c0 c1 hS0
      go_wp2_with fail
      have n6 : (N : Int) + 1 - 2 = (N : Int) - 1 := by omega
      go_loopw [4, 5] (fun s i wr => ∃ k : Nat, k ≤ N ∧ i = .int .i64 ((N : Int) - 1 - (k : Int)) ∧ s = .string ⟨(S k).toArray⟩ ∧ Below w1.heap.size w1 wr) (fun _ i _ => (intOf i + 1).toNat)
      case atStart => exact ⟨0, Nat.zero_le _, by go_num, rfl, Below.refl _ _⟩
      case round =>
        obtain ⟨k, hk, rfl, rfl, bw⟩ := hrel
        have c02 := (HB1.out.below bw).cell 0
        have c12 := (HB1.out.below bw).cell 1
        have baw := ba1.trans (bw.mono ba1.size)
        by_cases hlt : k < N
        · obtain ⟨y, hy, hs⟩ := HS.out _ baw k hlt
          obtain ⟨j, hj⟩ : ∃ j, N - 1 - k = j := ⟨_, rfl⟩
          rw [hj] at hy
          have e2 : (N : Int) - 1 - (k : Int) = (j : Int) := by omega
          rw [e2]
          have e3 : (j : Int) < (N : Int) + 1 := by omega
          have g1 : decide ((j : Int) ≥ 0) = true := by simp
          have k2 := fun W => rnode_spec y (S k) W
          rw [← hs] at k2
          obtain ⟨S1, h1⟩ : ∃ x, S (k + 1) = x := ⟨_, rfl⟩
          rw [h1] at k2
          have HX := Lib.hid (And.intro hj h1)
          clear h1
          generalize S k = Sk at k2 hs
          clear hs hj c01 c11 s0 n5 n6
          go_wp2_with fail
          refine (k2 _).mono ?_
          rintro e w3 ⟨rfl, b3⟩
          go_wp2
          go_round
          case rel => exact ⟨k + 1, by omega, by go_num, by rw [HX.out.2], bw.trans (b3.mono bw.size)⟩
          case measure => simp [intOf] <;> omega
        · obtain rfl : k = N := by omega
          have e2 : (k : Int) - 1 - (k : Int) = -1 := by omega
          rw [e2]
          clear c01 c11 s0
          go_wp2
          go_ret2
          exact ⟨by rw [HB.out]; rfl, baw⟩
end Go.Proofs.Ytiklfjehhdbhfaa
