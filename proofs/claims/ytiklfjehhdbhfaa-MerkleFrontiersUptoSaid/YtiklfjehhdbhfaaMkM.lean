/-
  Valid frontiers, in the program and in the reference. Conditions: at most 2^40 hashes.
-/
import Derived.Test.YtiklfjehhdbhfaaMkK
namespace Go.Proofs.Ytiklfjehhdbhfaa
set_option linter.unusedVariables false
open Go.RowKit

theorem popF_le : ∀ k n, popF k n ≤ k
  | 0, _ => Nat.le_refl _
  | k + 1, n => by
    have := popF_le k (n / 2)
    unfold popF
    omega
/-- whether a frontier is valid -/
def fwB (z : Int) (L : List Mk.Str) : Bool := decide (0 ≤ z) && decide (z ≤ 4096) && ((L.length : Int) == ((Mk.ones z.toNat : Nat) : Int)) && (decide (L.length ≤ 4096) && vld L)
theorem mk_drewN (w : World) (n : Nat) : Below w.heap.size w (w.drewN n) := ((Mod.refl (fun _ => False) w).drewN n).below (Nat.le_refl _) (fun _ _ h => h)
theorem mk_drewB {w W : World} (b : Below w.heap.size w W) (n : Nat) : Below w.heap.size w (W.drewN n) := b.trans ((mk_drewN W n).mono b.size)
set_option maxRecDepth 20000 in
set_option maxHeartbeats 2000000 in
theorem whole_spec (z : Int) (A : Option Addr) (L : List Mk.Str) (c : Nat) (w : World) (hR : Rd w A (strs L)) (hl : L.length ≤ 1099511627776) (z0 : -9223372036854775808 ≤ z) (z1 : z ≤ 9223372036854775807) :
    Calls Try.prog 45 #[.agg #[.int .i64 z, .slice A L.length c]] w fun e w' => e = .returned (.bool (fwB z L)) ∧ Below w.heap.size w w' := by
  have ba : Below w.heap.size w (w.alloc (.cells #[.int .i64 z, .slice A L.length c] 34)) := (Below.refl _ w).alloc (Nat.le_refl _) _
  have hb := Blk.new w 34 #[.int .i64 z, .slice A L.length c]
  have c0 := hb.cell 0
  have c1 := hb.cell 1
  have hR2 := hR.below ba
  have hbz := World.size_alloc w (.cells #[.int .i64 z, .slice A L.length c] 34)
  have HBB := Lib.hid (And.intro hb hbz)
  clear hb hbz
  by_cases h0 : z < 0
  · have g0 : decide (z ≥ 0) = false := by simp; omega
    have HB := Lib.hid (show fwB z L = false by unfold fwB; simp; omega)
    clear hR hR2
    go_enter Try.func45, Try.ntmps45
    go_wp2_with fail
    generalize hW : w.alloc (.cells #[.int .i64 z, .slice A L.length c] 34) = W at *
    go_quiet (fail)
    go_wp2
    go_ret
    exact ⟨by rw [HB.out]; rfl, mk_drewB ba nq⟩
  have g0 : decide (z ≥ 0) = true := by simp; omega
  by_cases h1 : 4096 < z
  · have g1 : decide (z ≤ 4096) = false := by simp; omega
    have HB := Lib.hid (show fwB z L = false by unfold fwB; simp; omega)
    clear hR hR2
    go_enter Try.func45, Try.ntmps45
    go_wp2_with fail
    generalize hW : w.alloc (.cells #[.int .i64 z, .slice A L.length c] 34) = W at *
    go_quiet (fail)
    go_wp2
    go_ret
    exact ⟨by rw [HB.out]; rfl, mk_drewB ba nq⟩
  have g1 : decide (z ≤ 4096) = true := by simp; omega
  obtain ⟨a, rfl⟩ : ∃ a : Nat, z = a := ⟨z.toNat, by omega⟩
  have k1 := fun W => (ones_spec a (by omega) W).mono (fun e w' h => And.intro h.1 h.2.symm)
  have k2 := fun W hb => (valid_spec A L c W (hR.below hb) (by omega)).mono (fun e w' h => And.intro h.1 h.2.symm)
  have hfw : fwB a L = (((L.length : Int) == ((Mk.ones a : Nat) : Int)) && (decide (L.length ≤ 4096) && vld L)) := by
    unfold fwB
    have e1 : decide ((0 : Int) ≤ (a : Int)) = true := by simp
    have e2 : decide ((a : Int) ≤ 4096) = true := g1
    rw [e1, e2]; simp
  have ho : Mk.ones a ≤ 13 := by have := popF_ones 13 a (by omega); rw [← this]; exact popF_le 13 a
  rw [hfw]
  obtain ⟨q, hq⟩ : ∃ q, Mk.ones a = q := ⟨_, rfl⟩
  rw [hq] at k1 ⊢
  obtain ⟨v, hv⟩ : ∃ v, (decide (L.length ≤ 4096) && vld L) = v := ⟨_, rfl⟩
  rw [hv] at k2 ⊢
  clear hfw hq hv hR hR2 ho
  have a0 : (a : Int) ≤ 4096 := by omega
  have k2' := k2
  clear k2
  go_enter Try.func45, Try.ntmps45
  go_wp2_with fail
  generalize hW : w.alloc (.cells #[.int .i64 (a : Int), .slice A L.length c] 34) = W at *
  have k3 : ∀ n, Calls Try.prog 33 #[.slice A L.length c] (W.drewN n) fun e w' => e = .returned (.bool v) ∧ w' = W.drewN n := fun n => k2' _ (mk_drewB ba n)
  cases e1 : ((L.length : Int) == (q : Int)) with
  | false =>
    go_quiet (first
      | (go_at_call 31; with_reducible exact Calls.quiet_of_same (k1 _)))
    go_wp2
    go_ret
    exact ⟨by rw [e1]; rfl, mk_drewB ba nq⟩
  | true =>
    go_quiet (first
      | (go_at_call 31; with_reducible exact Calls.quiet_of_same (k1 _))
      | (go_at_call 33; with_reducible exact Calls.quiet_of_same (k3 _)))
    go_wp2
    go_ret
    exact ⟨by rw [e1]; rfl, mk_drewB ba nq⟩
set_option maxRecDepth 20000 in
set_option maxHeartbeats 2000000 in
theorem rwhole_spec (z : Int) (A : Option Addr) (L : List Mk.Str) (c : Nat) (w : World) (hR : Rd w A (strs L)) (hl : L.length ≤ 1099511627776) (z0 : -9223372036854775808 ≤ z) (z1 : z ≤ 9223372036854775807) :
    Calls Try.prog 46 #[.agg #[.int .i64 z, .slice A L.length c]] w fun e w' => e = .returned (.bool (fwB z L)) ∧ Below w.heap.size w w' := by
  have ba : Below w.heap.size w (w.alloc (.cells #[.int .i64 z, .slice A L.length c] 34)) := (Below.refl _ w).alloc (Nat.le_refl _) _
  have hb := Blk.new w 34 #[.int .i64 z, .slice A L.length c]
  have c0 := hb.cell 0
  have c1 := hb.cell 1
  have hR2 := hR.below ba
  have hbz := World.size_alloc w (.cells #[.int .i64 z, .slice A L.length c] 34)
  have HBB := Lib.hid (And.intro hb hbz)
  clear hb hbz
  by_cases h0 : z < 0
  · have g0 : decide (z ≥ 0) = false := by simp; omega
    have HB := Lib.hid (show fwB z L = false by unfold fwB; simp; omega)
    clear hR hR2
    go_enter Try.func46, Try.ntmps46
    go_wp2_with fail
    generalize hW : w.alloc (.cells #[.int .i64 z, .slice A L.length c] 34) = W at *
    go_quiet (fail)
    go_wp2
    go_ret
    exact ⟨by rw [HB.out]; rfl, mk_drewB ba nq⟩
  have g0 : decide (z ≥ 0) = true := by simp; omega
  by_cases h1 : 4096 < z
  · have g1 : decide (z ≤ 4096) = false := by simp; omega
    have HB := Lib.hid (show fwB z L = false by unfold fwB; simp; omega)
    clear hR hR2
    go_enter Try.func46, Try.ntmps46
    go_wp2_with fail
    generalize hW : w.alloc (.cells #[.int .i64 z, .slice A L.length c] 34) = W at *
    go_quiet (fail)
    go_wp2
    go_ret
    exact ⟨by rw [HB.out]; rfl, mk_drewB ba nq⟩
  have g1 : decide (z ≤ 4096) = true := by simp; omega
  obtain ⟨a, rfl⟩ : ∃ a : Nat, z = a := ⟨z.toNat, by omega⟩
  have k1 := fun W => (rones_spec a (by omega) W).mono (fun e w' h => And.intro h.1 h.2.symm)
  have k2 := fun W hb => (digests_spec A L c W (hR.below hb) (by omega)).mono (fun e w' h => And.intro h.1 h.2.symm)
  have hfw : fwB a L = (((L.length : Int) == ((Mk.ones a : Nat) : Int)) && vld L) := by
    unfold fwB
    have e1 : decide ((0 : Int) ≤ (a : Int)) = true := by simp
    have e2 : decide ((a : Int) ≤ 4096) = true := g1
    rw [e1, e2]
    have ho : Mk.ones a ≤ 13 := by have := popF_ones 13 a (by omega); rw [← this]; exact popF_le 13 a
    by_cases h9 : (L.length : Int) = ((Mk.ones a : Nat) : Int)
    · have : decide (L.length ≤ 4096) = true := by simp; omega
      simp [this]
    · have e9 : ((L.length : Int) == ((Mk.ones a : Nat) : Int)) = false := beq_eq_false_iff_ne.mpr h9
      simp only [Int.toNat_natCast, e9, Bool.and_false, Bool.false_and]
  have ho : Mk.ones a ≤ 13 := by have := popF_ones 13 a (by omega); rw [← this]; exact popF_le 13 a
  rw [hfw]
  obtain ⟨q, hq⟩ : ∃ q, Mk.ones a = q := ⟨_, rfl⟩
  rw [hq] at k1 ⊢
  obtain ⟨v, hv⟩ : ∃ v, vld L = v := ⟨_, rfl⟩
  rw [hv] at k2 ⊢
  clear hfw hq hv hR hR2 ho
  have a0 : (a : Int) ≤ 4096 := by omega
  have k2' := k2
  clear k2
  go_enter Try.func46, Try.ntmps46
  go_wp2_with fail
  generalize hW : w.alloc (.cells #[.int .i64 (a : Int), .slice A L.length c] 34) = W at *
  have k3 : ∀ n, Calls Try.prog 57 #[.slice A L.length c] (W.drewN n) fun e w' => e = .returned (.bool v) ∧ w' = W.drewN n := fun n => k2' _ (mk_drewB ba n)
  cases e1 : ((L.length : Int) == (q : Int)) with
  | false =>
    go_quiet (first
      | (go_at_call 62; with_reducible exact Calls.quiet_of_same (k1 _)))
    go_wp2
    go_ret
    exact ⟨by rw [e1]; rfl, mk_drewB ba nq⟩
  | true =>
    go_quiet (first
      | (go_at_call 62; with_reducible exact Calls.quiet_of_same (k1 _))
      | (go_at_call 57; with_reducible exact Calls.quiet_of_same (k3 _)))
    go_wp2
    go_ret
    exact ⟨by rw [e1]; rfl, mk_drewB ba nq⟩
end Go.Proofs.Ytiklfjehhdbhfaa
