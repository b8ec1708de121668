/-
  The schedule of the reference's SHA-256. Conditions: blocks of 64 bytes.
-/
import Derived.Test.YtiklfjehhdbhfaaShR
import Derived.Test.YtiklfjehhdbhfaaStep
namespace Go.Proofs.Ytiklfjehhdbhfaa
set_option linter.unusedVariables false
open Go.RowKit

theorem info_u32 : (Try.prog.info? 62).map (fun i => (i.zero, i.size, i.bytes)) = some (some (.int .u32 0), 1, 4) := by kernel_rfl
theorem u32s_append (a b : List Nat) : u32s (a ++ b) = u32s a ++ u32s b := by simp [u32s]
/-- four bytes, shifted and joined -/
theorem or4 (a b c d : UInt8) : bits .or .u32 (bits .or .u32 (bits .or .u32 ((a.toNat : Int) * 16777216) ((b.toNat : Int) * 65536)) ((c.toNat : Int) * 256)) (d.toNat : Int) = ((Sh.word a.toNat b.toNat c.toNat d.toNat : Nat) : Int) := by
  have h1 := a.toNat_lt
  have h2 := b.toNat_lt
  have h3 := c.toNat_lt
  have h4 := d.toNat_lt
  generalize a.toNat = x at *
  generalize b.toNat = y at *
  generalize c.toNat = z at *
  generalize d.toNat = t at *
  have e1 : (x : Int) * 16777216 = ((x * 16777216 : Nat) : Int) := by omega
  have e2 : (y : Int) * 65536 = ((y * 65536 : Nat) : Int) := by omega
  have e3 : (z : Int) * 256 = ((z * 256 : Nat) : Int) := by omega
  have o1 : x * 16777216 ||| y * 65536 = x * 16777216 + y * 65536 := by
    have := Nat.two_pow_add_eq_or_of_lt (i := 24) (b := y * 65536) (by omega) x
    rw [show 2 ^ 24 * x = x * 16777216 by omega] at this
    exact this.symm
  have o2 : x * 16777216 + y * 65536 ||| z * 256 = x * 16777216 + y * 65536 + z * 256 := by
    have := Nat.two_pow_add_eq_or_of_lt (i := 16) (b := z * 256) (by omega) (x * 256 + y)
    rw [show 2 ^ 16 * (x * 256 + y) = x * 16777216 + y * 65536 by omega] at this
    exact this.symm
  have o3 : x * 16777216 + y * 65536 + z * 256 ||| t = x * 16777216 + y * 65536 + z * 256 + t := by
    have := Nat.two_pow_add_eq_or_of_lt (i := 8) (b := t) (by omega) (x * 65536 + y * 256 + z)
    rw [show 2 ^ 8 * (x * 65536 + y * 256 + z) = x * 16777216 + y * 65536 + z * 256 by omega] at this
    exact this.symm
  rw [e1, e2, e3, u32_or_nat _ _ (by omega) (by omega), o1, u32_or_nat _ _ (by omega) (by omega), o2, u32_or_nat _ _ (by omega) (by omega), o3]
  have hw : x * 16777216 + y * 65536 + z * 256 + t = Sh.word x y z t := by unfold Sh.word; omega
  rw [hw]
set_option maxRecDepth 20000 in
set_option maxHeartbeats 4000000 in
theorem rschedule_spec (b : Sh.Str) (hb : b.length = 64) (w : World) : Calls Try.prog 72 #[.string ⟨b.toArray⟩] w fun e w' => ∃ v, e = .returned v ∧ St w.heap.size w w' [ownR 62 1 v 64 (u32s (Sh.sched b))] := by
  have HB := Lib.hid hb
  clear hb
  have h1 : St w.heap.size w (w.alloc (.cells #[] 62)) (ownR 62 1 (.slice (some ⟨w.heap.size, 0, none⟩) 0 0) 0 (u32s []) :: []) := (St.nil w).new_own ((Below.refl _ w).alloc (Nat.le_refl _) _) (World.ownsRow_lit w #[] 0 (Nat.le_refl _) (by decide) rfl)
  go_enter Try.func72, Try.ntmps72
  go_wp2
  generalize w.alloc (.cells #[] 62) = W at h1 ⊢
  go_loopw [3, 4] (fun v i wr => ∃ (k : Nat) (v' : Value), k ≤ 16 ∧ i = .int .i64 (4 * (k : Int)) ∧ v' = v ∧ St w.heap.size w wr (ownR 62 1 v' k (u32s (Sh.words b k)) :: [])) (fun _ i _ => (64 - intOf i).toNat)
  case atStart => exact ⟨0, _, by omega, by simp, rfl, h1⟩
  case round =>
    clear h1
    obtain ⟨k, v, hk, hi, rfl, h⟩ := hrel
    by_cases hlt : k < 16
    · subst hi
      have hl4 : 4 * (k : Int) < 64 := by omega
      obtain ⟨x0, hx0⟩ : ∃ x : UInt8, ∀ h, (⟨b.toArray⟩ : ByteArray)[4 * k]'h = x := ⟨b[4 * k]'(by rw [HB.out]; omega), fun h => rfl⟩
      have hg0 : b.getD (4 * k) 0 = x0 := by
        have hh : 4 * k < b.length := by rw [HB.out]; omega
        rw [← hx0 (by show 4 * k < b.toArray.size; simpa using hh)]
        simp [hh]
        rfl
      have ha0 : (0 : Int) ≤ 4 * (k : Int) := by omega
      have hb0 : 4 * (k : Int) < (b.length : Int) := by rw [HB.out]; omega
      have hc0 : (4 * (k : Int)).toNat = 4 * k := by omega
      have hd0 : 4 * k < b.length := by rw [HB.out]; omega
      obtain ⟨x1, hx1⟩ : ∃ x : UInt8, ∀ h, (⟨b.toArray⟩ : ByteArray)[4 * k + 1]'h = x := ⟨b[4 * k + 1]'(by rw [HB.out]; omega), fun h => rfl⟩
      have hg1 : b.getD (4 * k + 1) 0 = x1 := by
        have hh : 4 * k + 1 < b.length := by rw [HB.out]; omega
        rw [← hx1 (by show 4 * k + 1 < b.toArray.size; simpa using hh)]
        simp [hh]
        rfl
      have ha1 : (0 : Int) ≤ 4 * (k : Int) + 1 := by omega
      have hb1 : 4 * (k : Int) + 1 < (b.length : Int) := by rw [HB.out]; omega
      have hc1 : (4 * (k : Int) + 1).toNat = 4 * k + 1 := by omega
      have hd1 : 4 * k + 1 < b.length := by rw [HB.out]; omega
      obtain ⟨x2, hx2⟩ : ∃ x : UInt8, ∀ h, (⟨b.toArray⟩ : ByteArray)[4 * k + 2]'h = x := ⟨b[4 * k + 2]'(by rw [HB.out]; omega), fun h => rfl⟩
      have hg2 : b.getD (4 * k + 2) 0 = x2 := by
        have hh : 4 * k + 2 < b.length := by rw [HB.out]; omega
        rw [← hx2 (by show 4 * k + 2 < b.toArray.size; simpa using hh)]
        simp [hh]
        rfl
      have ha2 : (0 : Int) ≤ 4 * (k : Int) + 2 := by omega
      have hb2 : 4 * (k : Int) + 2 < (b.length : Int) := by rw [HB.out]; omega
      have hc2 : (4 * (k : Int) + 2).toNat = 4 * k + 2 := by omega
      have hd2 : 4 * k + 2 < b.length := by rw [HB.out]; omega
      obtain ⟨x3, hx3⟩ : ∃ x : UInt8, ∀ h, (⟨b.toArray⟩ : ByteArray)[4 * k + 3]'h = x := ⟨b[4 * k + 3]'(by rw [HB.out]; omega), fun h => rfl⟩
      have hg3 : b.getD (4 * k + 3) 0 = x3 := by
        have hh : 4 * k + 3 < b.length := by rw [HB.out]; omega
        rw [← hx3 (by show 4 * k + 3 < b.toArray.size; simpa using hh)]
        simp [hh]
        rfl
      have ha3 : (0 : Int) ≤ 4 * (k : Int) + 3 := by omega
      have hb3 : 4 * (k : Int) + 3 < (b.length : Int) := by rw [HB.out]; omega
      have hc3 : (4 * (k : Int) + 3).toNat = 4 * k + 3 := by omega
      have hd3 : 4 * k + 3 < b.length := by rw [HB.out]; omega
      have hw := Sh.words_succ b k
      rw [hg0, hg1, hg2, hg3] at hw
      have ho := or4 x0 x1 x2 x3
      obtain ⟨y, hy⟩ : ∃ y, Sh.word x0.toNat x1.toNat x2.toNat x3.toNat = y := ⟨_, rfl⟩
      rw [hy] at hw ho
      have HW := Lib.hid hw
      clear hw hy hg0 hg1 hg2 hg3
      obtain ⟨i1, hi1, hy0, hy1, hy2⟩ := info_parts info_u32
      have hrow := h.own
      have q1 : (k + 1) * 4 ≤ 140737488355328 := by omega
      have q2 : k + 1 ≤ maxLen := by unfold maxLen; omega
      have t0 := x0.toNat_lt
      have t1 := x1.toNat_lt
      have t2 := x2.toNat_lt
      have t3 := x3.toNat_lt
      have g0 : IntKind.u32.wrap (x0.toNat : Int) = (x0.toNat : Int) := by rw [IntKind.wrap_u32']; omega
      have g1 : IntKind.u32.wrap (x1.toNat : Int) = (x1.toNat : Int) := by rw [IntKind.wrap_u32']; omega
      have g2 : IntKind.u32.wrap (x2.toNat : Int) = (x2.toNat : Int) := by rw [IntKind.wrap_u32']; omega
      have g3 : IntKind.u32.wrap (x3.toNat : Int) = (x3.toNat : Int) := by rw [IntKind.wrap_u32']; omega
      have g4 : IntKind.u32.wrap ((x0.toNat : Int) * 16777216) = (x0.toNat : Int) * 16777216 := by rw [IntKind.wrap_u32']; omega
      have g5 : IntKind.u32.wrap ((x1.toNat : Int) * 65536) = (x1.toNat : Int) * 65536 := by rw [IntKind.wrap_u32']; omega
      have g6 : IntKind.u32.wrap ((x2.toNat : Int) * 256) = (x2.toNat : Int) * 256 := by rw [IntKind.wrap_u32']; omega
      have w1' : IntKind.i64.wrap (4 * (k : Int) + 1) = 4 * (k : Int) + 1 := by rw [IntWalk.i64_left, IntWalk.wrap64_in _ (by omega)]
      have w2' : IntKind.i64.wrap (4 * (k : Int) + 2) = 4 * (k : Int) + 2 := by rw [IntWalk.i64_left, IntWalk.wrap64_in _ (by omega)]
      have w3' : IntKind.i64.wrap (4 * (k : Int) + 3) = 4 * (k : Int) + 3 := by rw [IntWalk.i64_left, IntWalk.wrap64_in _ (by omega)]
      clear t0 t1 t2 t3
      clear hrow
      go_wp2_with fail
      refine wp_region_noPanic ?_
      refine wp_region_held_drew (S := fun w' => w.heap.size ≤ w'.heap.size) (by kernel_rfl) h.size (fun hHeld => ?_)
      refine wpAnyH_take (i := 0) (oi := ⟨some 15, _, _, _, _, _⟩) (v := ?_) rfl (by kernel_rfl) (by kernel_rfl) (by kernel_rfl) (fun _ _ _ h => h) (Or.inl ⟨by rfl, ?_⟩) hHeld ?_
      rotate_left 1
      · intro w hSw; go_simp; all_goals with_reducible rfl
      simp only [Act.put, List.setIfInBounds_toArray, List.set_cons_zero, List.set_cons_succ]
      refine wpAnyH_take (i := 1) (oi := ⟨some 16, _, _, _, _, _⟩) (v := ?_) rfl (by kernel_rfl) (by kernel_rfl) (by kernel_rfl) (fun _ _ _ h => h) (Or.inl ⟨by rfl, ?_⟩) hHeld ?_
      rotate_left 1
      · intro w hSw; go_simp; all_goals with_reducible rfl
      simp only [Act.put, List.setIfInBounds_toArray, List.set_cons_zero, List.set_cons_succ]
      refine wpAnyH_take (i := 2) (oi := ⟨some 17, _, _, _, _, _⟩) (v := ?_) rfl (by kernel_rfl) (by kernel_rfl) (by kernel_rfl) (fun _ _ _ h => h) (Or.inl ⟨by rfl, ?_⟩) hHeld ?_
      rotate_left 1
      · intro w hSw; go_simp; all_goals with_reducible rfl
      simp only [Act.put, List.setIfInBounds_toArray, List.set_cons_zero, List.set_cons_succ]
      refine wpAnyH_take (i := 3) (oi := ⟨some 18, _, _, _, _, _⟩) (v := ?_) rfl (by kernel_rfl) (by kernel_rfl) (by kernel_rfl) (fun _ _ _ h => h) (Or.inl ⟨by rfl, ?_⟩) hHeld ?_
      rotate_left 1
      · intro w hSw; go_simp; all_goals with_reducible rfl
      simp only [Act.put, List.setIfInBounds_toArray, List.set_cons_zero, List.set_cons_succ]
      refine wpAnyH_take (i := 4) (oi := ⟨some 19, _, _, _, _, _⟩) (v := ?_) rfl (by kernel_rfl) (by kernel_rfl) (by kernel_rfl) (fun _ _ _ h => h) (Or.inl ⟨by rfl, ?_⟩) hHeld ?_
      rotate_left 1
      · intro w hSw; go_simp; all_goals with_reducible rfl
      simp only [Act.put, List.setIfInBounds_toArray, List.set_cons_zero, List.set_cons_succ]
      refine wpAnyH_take (i := 5) (oi := ⟨some 20, _, _, _, _, _⟩) (v := ?_) rfl (by kernel_rfl) (by kernel_rfl) (by kernel_rfl) (fun _ _ _ h => h) (Or.inl ⟨by rfl, ?_⟩) hHeld ?_
      rotate_left 1
      · intro w hSw; go_simp; all_goals with_reducible rfl
      simp only [Act.put, List.setIfInBounds_toArray, List.set_cons_zero, List.set_cons_succ]
      refine wpAnyH_take (i := 6) (oi := ⟨some 21, _, _, _, _, _⟩) (v := ?_) rfl (by kernel_rfl) (by kernel_rfl) (by kernel_rfl) (fun _ _ _ h => h) (Or.inl ⟨by rfl, ?_⟩) hHeld ?_
      rotate_left 1
      · intro w hSw; go_simp; all_goals with_reducible rfl
      simp only [Act.put, List.setIfInBounds_toArray, List.set_cons_zero, List.set_cons_succ]
      refine wpAnyH_take (i := 7) (oi := ⟨some 22, _, _, _, _, _⟩) (v := ?_) rfl (by kernel_rfl) (by kernel_rfl) (by kernel_rfl) (fun _ _ _ h => h) (Or.inl ⟨by rfl, ?_⟩) hHeld ?_
      rotate_left 1
      · intro w hSw; go_simp; all_goals with_reducible rfl
      simp only [Act.put, List.setIfInBounds_toArray, List.set_cons_zero, List.set_cons_succ]
      refine wpAnyH_take (i := 8) (oi := ⟨some 23, _, _, _, _, _⟩) (v := ?_) rfl (by kernel_rfl) (by kernel_rfl) (by kernel_rfl) (fun _ _ _ h => h) (Or.inl ⟨by rfl, ?_⟩) hHeld ?_
      rotate_left 1
      · intro w hSw; go_simp; all_goals with_reducible rfl
      simp only [Act.put, List.setIfInBounds_toArray, List.set_cons_zero, List.set_cons_succ]
      refine wpAnyH_take (i := 9) (oi := ⟨some 24, _, _, _, _, _⟩) (v := ?_) rfl (by kernel_rfl) (by kernel_rfl) (by kernel_rfl) (fun _ _ _ h => h) (Or.inl ⟨by rfl, ?_⟩) hHeld ?_
      rotate_left 1
      · intro w hSw; go_simp; all_goals with_reducible rfl
      simp only [Act.put, List.setIfInBounds_toArray, List.set_cons_zero, List.set_cons_succ]
      refine wpAnyH_take (i := 10) (oi := ⟨some 25, _, _, _, _, _⟩) (v := ?_) rfl (by kernel_rfl) (by kernel_rfl) (by kernel_rfl) (fun _ _ _ h => h) (Or.inl ⟨by rfl, ?_⟩) hHeld ?_
      rotate_left 1
      · intro w hSw; go_simp; all_goals with_reducible rfl
      simp only [Act.put, List.setIfInBounds_toArray, List.set_cons_zero, List.set_cons_succ]
      refine wpAnyH_take (i := 11) (oi := ⟨some 26, _, _, _, _, _⟩) (v := ?_) rfl (by kernel_rfl) (by kernel_rfl) (by kernel_rfl) (fun _ _ _ h => h) (Or.inl ⟨by rfl, ?_⟩) hHeld ?_
      rotate_left 1
      · intro w hSw; go_simp; all_goals with_reducible rfl
      simp only [Act.put, List.setIfInBounds_toArray, List.set_cons_zero, List.set_cons_succ]
      refine wpAnyH_take (i := 12) (oi := ⟨some 27, _, _, _, _, _⟩) (v := ?_) rfl (by kernel_rfl) (by kernel_rfl) (by kernel_rfl) (fun _ _ _ h => h) (Or.inl ⟨by rfl, ?_⟩) hHeld ?_
      rotate_left 1
      · intro w hSw; go_simp; all_goals with_reducible rfl
      simp only [Act.put, List.setIfInBounds_toArray, List.set_cons_zero, List.set_cons_succ]
      refine wpAnyH_take (i := 13) (oi := ⟨some 28, _, _, _, _, _⟩) (v := ?_) rfl (by kernel_rfl) (by kernel_rfl) (by kernel_rfl) (fun _ _ _ h => h) (Or.inl ⟨by rfl, ?_⟩) hHeld ?_
      rotate_left 1
      · intro w hSw; go_simp; all_goals with_reducible rfl
      simp only [Act.put, List.setIfInBounds_toArray, List.set_cons_zero, List.set_cons_succ]
      refine wpAnyH_take (i := 14) (oi := ⟨some 29, _, _, _, _, _⟩) (v := ?_) rfl (by kernel_rfl) (by kernel_rfl) (by kernel_rfl) (fun _ _ _ h => h) (Or.inl ⟨by rfl, ?_⟩) hHeld ?_
      rotate_left 1
      · intro w hSw; go_simp; all_goals with_reducible rfl
      simp only [Act.put, List.setIfInBounds_toArray, List.set_cons_zero, List.set_cons_succ]
      refine wpAnyH_take (i := 15) (oi := ⟨some 30, _, _, _, _, _⟩) (v := ?_) rfl (by kernel_rfl) (by kernel_rfl) (by kernel_rfl) (fun _ _ _ h => h) (Or.inl ⟨by rfl, ?_⟩) hHeld ?_
      rotate_left 1
      · intro w hSw; go_simp; all_goals with_reducible rfl
      simp only [Act.put, List.setIfInBounds_toArray, List.set_cons_zero, List.set_cons_succ]
      refine wpAnyH_take (i := 16) (oi := ⟨some 31, _, _, _, _, _⟩) (v := ?_) rfl (by kernel_rfl) (by kernel_rfl) (by kernel_rfl) (fun _ _ _ h => h) (Or.inl ⟨by rfl, ?_⟩) hHeld ?_
      rotate_left 1
      · intro w hSw; go_simp; all_goals with_reducible rfl
      simp only [Act.put, List.setIfInBounds_toArray, List.set_cons_zero, List.set_cons_succ]
      refine wpAnyH_take (i := 17) (oi := ⟨some 32, _, _, _, _, _⟩) (v := ?_) rfl (by kernel_rfl) (by kernel_rfl) (by kernel_rfl) (fun _ _ _ h => h) (Or.inl ⟨by rfl, ?_⟩) hHeld ?_
      rotate_left 1
      · intro w hSw; go_simp; all_goals with_reducible rfl
      simp only [Act.put, List.setIfInBounds_toArray, List.set_cons_zero, List.set_cons_succ]
      refine wpAnyH_take (i := 18) (oi := ⟨some 33, _, _, _, _, _⟩) (v := ?_) rfl (by kernel_rfl) (by kernel_rfl) (by kernel_rfl) (fun _ _ _ h => h) (Or.inl ⟨by rfl, ?_⟩) hHeld ?_
      rotate_left 1
      · intro w hSw; go_simp; all_goals with_reducible rfl
      simp only [Act.put, List.setIfInBounds_toArray, List.set_cons_zero, List.set_cons_succ]
      refine wpAnyH_take (i := 19) (oi := ⟨some 34, _, _, _, _, _⟩) (v := ?_) rfl (by kernel_rfl) (by kernel_rfl) (by kernel_rfl) (fun _ _ _ h => h) (Or.inl ⟨by rfl, ?_⟩) hHeld ?_
      rotate_left 1
      · intro w hSw; go_simp; all_goals with_reducible rfl
      simp only [Act.put, List.setIfInBounds_toArray, List.set_cons_zero, List.set_cons_succ]
      refine wpAnyH_take (i := 20) (oi := ⟨some 35, _, _, _, _, _⟩) (v := ?_) rfl (by kernel_rfl) (by kernel_rfl) (by kernel_rfl) (fun _ _ _ h => h) (Or.inl ⟨by rfl, ?_⟩) hHeld ?_
      rotate_left 1
      · intro w hSw; go_simp; all_goals with_reducible rfl
      simp only [Act.put, List.setIfInBounds_toArray, List.set_cons_zero, List.set_cons_succ]
      refine wpAnyH_take (i := 21) (oi := ⟨some 36, _, _, _, _, _⟩) (v := ?_) rfl (by kernel_rfl) (by kernel_rfl) (by kernel_rfl) (fun _ _ _ h => h) (Or.inl ⟨by rfl, ?_⟩) hHeld ?_
      rotate_left 1
      · intro w hSw; go_simp; all_goals with_reducible rfl
      simp only [Act.put, List.setIfInBounds_toArray, List.set_cons_zero, List.set_cons_succ]
      refine wpAnyH_take (i := 22) (oi := ⟨some 37, _, _, _, _, _⟩) (v := ?_) rfl (by kernel_rfl) (by kernel_rfl) (by kernel_rfl) (fun _ _ _ h => h) (Or.inl ⟨by rfl, ?_⟩) hHeld ?_
      rotate_left 1
      · intro w hSw; go_simp; all_goals with_reducible rfl
      simp only [Act.put, List.setIfInBounds_toArray, List.set_cons_zero, List.set_cons_succ]
      refine wpAnyH_take (i := 23) (oi := ⟨some 38, _, _, _, _, _⟩) (v := ?_) rfl (by kernel_rfl) (by kernel_rfl) (by kernel_rfl) (fun _ _ _ h => h) (Or.inl ⟨by rfl, ?_⟩) hHeld ?_
      rotate_left 1
      · intro w hSw; go_simp; all_goals with_reducible rfl
      simp only [Act.put, List.setIfInBounds_toArray, List.set_cons_zero, List.set_cons_succ]
      refine wpAnyH_take (i := 24) (oi := ⟨some 39, _, _, _, _, _⟩) (v := ?_) rfl (by kernel_rfl) (by kernel_rfl) (by kernel_rfl) (fun _ _ _ h => h) (Or.inl ⟨by rfl, ?_⟩) hHeld ?_
      rotate_left 1
      · intro w hSw; go_simp; all_goals with_reducible rfl
      simp only [Act.put, List.setIfInBounds_toArray, List.set_cons_zero, List.set_cons_succ]
      refine wpAnyH_take (i := 25) (oi := ⟨some 40, _, _, _, _, _⟩) (v := ?_) rfl (by kernel_rfl) (by kernel_rfl) (by kernel_rfl) (fun _ _ _ h => h) (Or.inl ⟨by rfl, ?_⟩) hHeld ?_
      rotate_left 1
      · intro w hSw; go_simp; all_goals with_reducible rfl
      simp only [Act.put, List.setIfInBounds_toArray, List.set_cons_zero, List.set_cons_succ]
      refine wpAnyH_ready (rs := [26]) (by kernel_rfl) (by simp) ?_
      refine AllReadyH.cons (o := ⟨some 41, _, _, _, _, _⟩) rfl (fun K hK => ?_) AllReadyH.nil
      go_simp
      refine hK.out _ _ (h.alloc0 _).size (fun hHeld => ?_)
      clear hK K
      try simp only [Act.put, List.setIfInBounds_toArray, List.set_cons_zero, List.set_cons_succ]
      refine wpAnyH_ready (rs := [27]) (by kernel_rfl) (by simp) ?_
      refine AllReadyH.cons (o := ⟨some 42, _, _, _, _, _⟩) rfl (fun K hK => ?_) AllReadyH.nil
      refine stepO 68 (te := 62) (u := .int .u32 (y : Int)) h Try.underlying68 info_u32 rfl _ _ (by rfl) (by rfl) (by rfl) (by rfl) rfl q2 q1 ?_
      intro gg cap w5 h8 _
      refine hK.out _ _ h8.size (fun hHeld => ?_)
      clear hK K
      try simp only [Act.put, List.setIfInBounds_toArray, List.set_cons_zero, List.set_cons_succ]
      refine wpAnyH_take (i := 28) (oi := ⟨some 3, _, _, _, _, _⟩) (v := ?_) rfl (by kernel_rfl) (by kernel_rfl) (by kernel_rfl) (fun _ _ _ h => h) (Or.inl ⟨by rfl, ?_⟩) hHeld ?_
      rotate_left 1
      · intro w hSw; go_simp; all_goals with_reducible rfl
      simp only [Act.put, List.setIfInBounds_toArray, List.set_cons_zero, List.set_cons_succ]
      refine wpAnyH_done (by kernel_rfl) ?_ _
      refine NoPanic.normal ?_
      go_wp2
      go_roundw
      case rel =>
        refine ⟨k + 1, _, by omega, by congr 1 <;> omega, rfl, ?_⟩
        rw [HW.out, u32s_append]
        exact h8
      case measure => simp [intOf]; omega
    · obtain rfl : k = 16 := by omega
      have hi2 := hi.trans (show Value.int .i64 (4 * ((16 : Nat) : Int)) = .int .i64 64 from rfl)
      subst hi2
      clear hi
      have h0 : St w.heap.size w wr [ownR 62 1 v 16 (u32s (Sh.extend 0 (Sh.words b 16)))] := h
      clear h
      go_wp2
      clear hlt hk
      go_loopw [3, 5] (fun v i wr => ∃ (k : Nat) (v' : Value), k ≤ 48 ∧ i = .int .i64 (16 + (k : Int)) ∧ v' = v ∧ St w.heap.size w wr (ownR 62 1 v' (16 + k) (u32s (Sh.extend k (Sh.words b 16))) :: [])) (fun _ i _ => (64 - intOf i).toNat)
      case atStart => exact ⟨0, _, by omega, by simp, rfl, h0⟩
      case round =>
        clear h0
        obtain ⟨k, v, hk, hi, rfl, h⟩ := hrel
        by_cases hlt : k < 48
        · subst hi
          have hl4 : 16 + (k : Int) < 64 := by omega
          have hel : (Sh.extend k (Sh.words b 16)).length = 16 + k := by rw [Sh.extend_length, Sh.words_length]
          have hlt4 : ∀ j, j < 16 + k → (Sh.extend k (Sh.words b 16)).getD j 0 < 4294967296 := fun j hj => by
            have hjl : j < (Sh.extend k (Sh.words b 16)).length := by omega
            rw [List.getD_eq_getElem?_getD, List.getElem?_eq_getElem hjl]
            exact Sh.extend_lt k _ (Sh.words_lt b 16) _ (List.getElem_mem hjl)
          obtain ⟨g, cap, rfl, _, _⟩ := h.own.form (by omega)
          have hxs : ∀ j, j < 16 + k → (u32s (Sh.extend k (Sh.words b 16)))[j]? = some (.int .u32 (((Sh.extend k (Sh.words b 16)).getD j 0 : Nat) : Int)) := fun j hj => by simp [u32s, hel, hj, List.getD_eq_getElem?_getD]
          have hc : ∀ j, j < 16 + k → wr.cell? ⟨g, j, none⟩ = some (.int .u32 (((Sh.extend k (Sh.words b 16)).getD j 0 : Nat) : Int)) := fun j hj => by
            have := h.own.cells (g := g) rfl j (.int .u32 (((Sh.extend k (Sh.words b 16)).getD j 0 : Nat) : Int)) (hxs j hj)
            rw [Addr.add_lit] at this
            simpa using this
          have hnx : Sh.extend (k + 1) (Sh.words b 16) = Sh.extend k (Sh.words b 16) ++ [Sh.nextW (Sh.extend k (Sh.words b 16))] := Sh.extend_succ _ _
          unfold Sh.nextW at hnx
          rw [hel] at hnx
          have c2 := hc (16 + k - 2) (by omega)
          have c7 := hc (16 + k - 7) (by omega)
          have c15 := hc (16 + k - 15) (by omega)
          have c16 := hc (16 + k - 16) (by omega)
          have X7 := hxs (16 + k - 7) (by omega)
          have X16 := hxs (16 + k - 16) (by omega)
          clear hxs
          have l2 := hlt4 (16 + k - 2) (by omega)
          have l7 := hlt4 (16 + k - 7) (by omega)
          have l15 := hlt4 (16 + k - 15) (by omega)
          have l16 := hlt4 (16 + k - 16) (by omega)
          clear hc hlt4 hel
          generalize (Sh.extend k (Sh.words b 16)).getD (16 + k - 2) 0 = x2 at c2 l2 hnx
          generalize (Sh.extend k (Sh.words b 16)).getD (16 + k - 7) 0 = x7 at c7 l7 hnx X7
          generalize (Sh.extend k (Sh.words b 16)).getD (16 + k - 15) 0 = x15 at c15 l15 hnx
          generalize (Sh.extend k (Sh.words b 16)).getD (16 + k - 16) 0 = x16 at c16 l16 hnx X16
          have k1 : ∀ n : Nat, 1 ≤ n → n ≤ 31 → ∀ X, Calls Try.prog 74 #[.int .u32 (x15 : Int), .int .i64 (n : Int)] X fun e w' => e = .returned (.int .u32 (Sh.rot x15 n)) ∧ ∃ k, w' = X.drewN k := fun n h1 h2 X => rotr_spec x15 n l15 h1 h2 X
          have k2 : ∀ n : Nat, 1 ≤ n → n ≤ 31 → ∀ X, Calls Try.prog 74 #[.int .u32 (x2 : Int), .int .i64 (n : Int)] X fun e w' => e = .returned (.int .u32 (Sh.rot x2 n)) ∧ ∃ k, w' = X.drewN k := fun n h1 h2 X => rotr_spec x2 n l2 h1 h2 X
          have r1 : ∀ X, Calls Try.prog 74 #[.int .u32 (x15 : Int), .int .i64 7] X fun e w' => e = .returned (.int .u32 (Sh.rot x15 7)) ∧ ∃ k, w' = X.drewN k := fun X => k1 7 (by decide) (by decide) X
          have r2 : ∀ X, Calls Try.prog 74 #[.int .u32 (x15 : Int), .int .i64 18] X fun e w' => e = .returned (.int .u32 (Sh.rot x15 18)) ∧ ∃ k, w' = X.drewN k := fun X => k1 18 (by decide) (by decide) X
          have r3 : ∀ X, Calls Try.prog 74 #[.int .u32 (x2 : Int), .int .i64 17] X fun e w' => e = .returned (.int .u32 (Sh.rot x2 17)) ∧ ∃ k, w' = X.drewN k := fun X => k2 17 (by decide) (by decide) X
          have r4 : ∀ X, Calls Try.prog 74 #[.int .u32 (x2 : Int), .int .i64 19] X fun e w' => e = .returned (.int .u32 (Sh.rot x2 19)) ∧ ∃ k, w' = X.drewN k := fun X => k2 19 (by decide) (by decide) X
          have o1 : bits .xor .u32 (bits .xor .u32 (Sh.rot x15 7 : Int) (Sh.rot x15 18 : Int)) ((x15 : Int) / 8) = ((Sh.ss0 x15 : Nat) : Int) := by
            have := rot2s x15 7 18 3 l15
            rw [show ((x15 / 2 ^ 3 : Nat) : Int) = (x15 : Int) / 8 from by simp] at this
            exact this
          have o2 : bits .xor .u32 (bits .xor .u32 (Sh.rot x2 17 : Int) (Sh.rot x2 19 : Int)) ((x2 : Int) / 1024) = ((Sh.ss1 x2 : Nat) : Int) := by
            have := rot2s x2 17 19 10 l2
            rw [show ((x2 / 2 ^ 10 : Nat) : Int) = (x2 : Int) / 1024 from by simp] at this
            exact this
          clear k1 k2
          generalize Sh.rot x15 7 = q1 at r1 o1
          generalize Sh.rot x15 18 = q2 at r2 o1
          generalize Sh.rot x2 17 = q3 at r3 o2
          generalize Sh.rot x2 19 = q4 at r4 o2
          generalize Sh.ss0 x15 = y15 at hnx o1
          generalize Sh.ss1 x2 = y2 at hnx o2
          have hv : IntKind.u32.wrap (IntKind.u32.wrap (IntKind.u32.wrap ((y2 : Int) + x7) + y15) + x16) = ((y2 + x7 + y15 + x16) % 4294967296 : Nat) := by rw [IntKind.wrap_u32', IntKind.wrap_u32', IntKind.wrap_u32']; omega
          obtain ⟨v, hvv⟩ : ∃ v, (y2 + x7 + y15 + x16) % 4294967296 = v := ⟨_, rfl⟩
          rw [hvv] at hv hnx
          have HW := Lib.hid hnx
          clear hnx hvv
          obtain ⟨p2, hp2⟩ : ∃ p, 16 + k - 2 = p := ⟨_, rfl⟩
          have e2 : 16 + (k : Int) - 2 = (p2 : Int) := by omega
          have f2 : IntKind.i64.wrap (p2 : Int) = (p2 : Int) := by rw [IntWalk.i64_left, IntWalk.wrap64_in _ (by omega)]
          have m2 : (p2 : Int) < 16 + (k : Int) := by omega
          have j2 : (0 : Int) ≤ (p2 : Int) := by omega
          rw [hp2] at c2
          clear hp2
          obtain ⟨p7, hp7⟩ : ∃ p, 16 + k - 7 = p := ⟨_, rfl⟩
          have e7 : 16 + (k : Int) - 7 = (p7 : Int) := by omega
          have f7 : IntKind.i64.wrap (p7 : Int) = (p7 : Int) := by rw [IntWalk.i64_left, IntWalk.wrap64_in _ (by omega)]
          have m7 : (p7 : Int) < 16 + (k : Int) := by omega
          have j7 : (0 : Int) ≤ (p7 : Int) := by omega
          rw [hp7] at c7 X7
          clear hp7
          obtain ⟨p15, hp15⟩ : ∃ p, 16 + k - 15 = p := ⟨_, rfl⟩
          have e15 : 16 + (k : Int) - 15 = (p15 : Int) := by omega
          have f15 : IntKind.i64.wrap (p15 : Int) = (p15 : Int) := by rw [IntWalk.i64_left, IntWalk.wrap64_in _ (by omega)]
          have m15 : (p15 : Int) < 16 + (k : Int) := by omega
          have j15 : (0 : Int) ≤ (p15 : Int) := by omega
          rw [hp15] at c15
          clear hp15
          obtain ⟨p16, hp16⟩ : ∃ p, 16 + k - 16 = p := ⟨_, rfl⟩
          have e16 : 16 + (k : Int) - 16 = (p16 : Int) := by omega
          have f16 : IntKind.i64.wrap (p16 : Int) = (p16 : Int) := by rw [IntWalk.i64_left, IntWalk.wrap64_in _ (by omega)]
          have m16 : (p16 : Int) < 16 + (k : Int) := by omega
          have j16 : (0 : Int) ≤ (p16 : Int) := by omega
          rw [hp16] at c16 X16
          clear hp16
          have z1 : (16 + k + 1) * 4 ≤ 140737488355328 := by omega
          have z2 : 16 + k + 1 ≤ maxLen := by unfold maxLen; omega
          have HX := Lib.hid (And.intro X7 X16)
          clear X7 X16
          go_wp2_with fail
          go_quiet (fail)
          have h3 := h.drewN nq
          have d7 : (wr.drewN nq).cell? ⟨g, p7, none⟩ = some (.int .u32 (x7 : Int)) := c7
          have d16 : (wr.drewN nq).cell? ⟨g, p16, none⟩ = some (.int .u32 (x16 : Int)) := c16
          clear h c2 c7 c15 c16
          generalize wr.drewN nq = W3 at h3 d7 d16 ⊢
          go_wp2_with (first
            | ((with_reducible refine (r1 _).mono ?_); rintro e w5 ⟨rfl, n5, rfl⟩)
            | ((with_reducible refine (r2 _).mono ?_); rintro e w5 ⟨rfl, n6, rfl⟩)
            | ((with_reducible refine (r3 _).mono ?_); rintro e w5 ⟨rfl, n7, rfl⟩)
            | ((with_reducible refine (r4 _).mono ?_); rintro e w5 ⟨rfl, n8, rfl⟩)
            | fail)
          have h4 := h3.drewN (n5 + n6 + n7 + n8)
          have d7' : (W3.drewN (n5 + n6 + n7 + n8)).drew.cell? ⟨g, p7, none⟩ = some (.int .u32 (x7 : Int)) := d7
          have d16' : (W3.drewN (n5 + n6 + n7 + n8)).drew.cell? ⟨g, p16, none⟩ = some (.int .u32 (x16 : Int)) := d16
          clear d7 d16 h3
          refine wp_region_noPanic ?_
          refine wp_region_held_drew (S := fun w' => w'.cell? ⟨g, p7, none⟩ = some (.int .u32 (x7 : Int)) ∧ w'.cell? ⟨g, p16, none⟩ = some (.int .u32 (x16 : Int))) (by kernel_rfl) ⟨d7', d16'⟩ (fun hHeld => ?_)
          refine wpAnyH_take (i := 0) (oi := ⟨some 73, _, _, _, _, _⟩) (v := ?_) rfl (by kernel_rfl) (by kernel_rfl) (by kernel_rfl) (fun _ _ _ h => h) (Or.inl ⟨by rfl, ?_⟩) hHeld ?_
          rotate_left 1
          · intro w hSw; go_simp; all_goals with_reducible rfl
          simp only [Act.put, List.setIfInBounds_toArray, List.set_cons_zero, List.set_cons_succ]
          refine wpAnyH_take (i := 1) (oi := ⟨some 74, _, _, _, _, _⟩) (v := ?_) rfl (by kernel_rfl) (by kernel_rfl) (by kernel_rfl) (fun _ _ _ h => h) (Or.inl ⟨by rfl, ?_⟩) hHeld ?_
          rotate_left 1
          · intro w hSw; go_simp; all_goals with_reducible rfl
          simp only [Act.put, List.setIfInBounds_toArray, List.set_cons_zero, List.set_cons_succ]
          refine wpAnyH_take (i := 2) (oi := ⟨some 75, _, _, _, _, _⟩) (v := ?_) rfl (by kernel_rfl) (by kernel_rfl) (by kernel_rfl) (fun _ _ _ h => h) (Or.inl ⟨by rfl, ?_⟩) hHeld ?_
          rotate_left 1
          · intro w hSw; go_simp; all_goals with_reducible rfl
          simp only [Act.put, List.setIfInBounds_toArray, List.set_cons_zero, List.set_cons_succ]
          refine wpAnyH_take (i := 3) (oi := ⟨some 76, _, _, _, _, _⟩) (v := ?_) rfl (by kernel_rfl) (by kernel_rfl) (by kernel_rfl) (fun _ _ _ h => h) (Or.inl ⟨by rfl, ?_⟩) hHeld ?_
          rotate_left 1
          · intro w hSw; go_simp; all_goals with_reducible rfl
          simp only [Act.put, List.setIfInBounds_toArray, List.set_cons_zero, List.set_cons_succ]
          refine wpAnyH_take (i := 4) (oi := ⟨some 77, _, _, _, _, _⟩) (v := ?_) rfl (by kernel_rfl) (by kernel_rfl) (by kernel_rfl) (fun _ _ _ h => h) (Or.inl ⟨by rfl, ?_⟩) hHeld ?_
          rotate_left 1
          · intro w hSw; go_simp; all_goals with_reducible rfl
          simp only [Act.put, List.setIfInBounds_toArray, List.set_cons_zero, List.set_cons_succ]
          refine wpAnyH_take (i := 5) (oi := ⟨some 78, _, _, _, _, _⟩) (v := ?_) rfl (by kernel_rfl) (by kernel_rfl) (by kernel_rfl) (fun _ _ _ h => h) (Or.inl ⟨by rfl, ?_⟩) hHeld ?_
          rotate_left 1
          · intro w hSw; go_simp; all_goals with_reducible rfl
          simp only [Act.put, List.setIfInBounds_toArray, List.set_cons_zero, List.set_cons_succ]
          refine wpAnyH_take (i := 6) (oi := ⟨some 79, _, _, _, _, _⟩) (v := ?_) rfl (by kernel_rfl) (by kernel_rfl) (by kernel_rfl) (fun _ _ _ h => h) (Or.inl ⟨by rfl, ?_⟩) hHeld ?_
          rotate_left 1
          · intro w hSw; go_simp; all_goals with_reducible rfl
          simp only [Act.put, List.setIfInBounds_toArray, List.set_cons_zero, List.set_cons_succ]
          refine wpAnyH_take (i := 7) (oi := ⟨some 80, _, _, _, _, _⟩) (v := ?_) rfl (by kernel_rfl) (by kernel_rfl) (by kernel_rfl) (fun _ _ _ h => h) (Or.inl ⟨by rfl, ?_⟩) hHeld ?_
          rotate_left 1
          · intro w hSw; go_simp; all_goals with_reducible rfl
          simp only [Act.put, List.setIfInBounds_toArray, List.set_cons_zero, List.set_cons_succ]
          refine wpAnyH_take (i := 8) (oi := ⟨some 81, _, _, _, _, _⟩) (v := ?_) rfl (by kernel_rfl) (by kernel_rfl) (by kernel_rfl) (fun _ _ _ h => h) (Or.inl ⟨by rfl, ?_⟩) hHeld ?_
          rotate_left 1
          · intro w hSw; go_simp; all_goals with_reducible rfl
          simp only [Act.put, List.setIfInBounds_toArray, List.set_cons_zero, List.set_cons_succ]
          refine wpAnyH_take (i := 9) (oi := ⟨some 82, _, _, _, _, _⟩) (v := ?_) rfl (by kernel_rfl) (by kernel_rfl) (by kernel_rfl) (fun _ _ _ h => h) (Or.inl ⟨by rfl, ?_⟩) hHeld ?_
          rotate_left 1
          · intro w hSw; go_simp; all_goals with_reducible rfl
          simp only [Act.put, List.setIfInBounds_toArray, List.set_cons_zero, List.set_cons_succ]
          refine wpAnyH_take (i := 10) (oi := ⟨some 83, _, _, _, _, _⟩) (v := ?_) rfl (by kernel_rfl) (by kernel_rfl) (by kernel_rfl) (fun _ _ _ h => h) (Or.inl ⟨by rfl, ?_⟩) hHeld ?_
          rotate_left 1
          · intro w hSw; go_simp; all_goals with_reducible rfl
          simp only [Act.put, List.setIfInBounds_toArray, List.set_cons_zero, List.set_cons_succ]
          refine wpAnyH_take (i := 11) (oi := ⟨some 84, _, _, _, _, _⟩) (v := ?_) rfl (by kernel_rfl) (by kernel_rfl) (by kernel_rfl) (fun _ _ _ h => h) (Or.inl ⟨by rfl, ?_⟩) hHeld ?_
          rotate_left 1
          · intro w hSw; go_simp; all_goals with_reducible rfl
          simp only [Act.put, List.setIfInBounds_toArray, List.set_cons_zero, List.set_cons_succ]
          refine wpAnyH_take (i := 12) (oi := ⟨some 85, _, _, _, _, _⟩) (v := ?_) rfl (by kernel_rfl) (by kernel_rfl) (by kernel_rfl) (fun _ _ _ h => h) (Or.inl ⟨by rfl, ?_⟩) hHeld ?_
          rotate_left 1
          · intro w hSw; go_simp; all_goals with_reducible rfl
          simp only [Act.put, List.setIfInBounds_toArray, List.set_cons_zero, List.set_cons_succ]
          refine wpAnyH_take (i := 13) (oi := ⟨some 86, _, _, _, _, _⟩) (v := ?_) rfl (by kernel_rfl) (by kernel_rfl) (by kernel_rfl) (fun _ _ _ h => h) (Or.inl ⟨by rfl, ?_⟩) hHeld ?_
          rotate_left 1
          · intro w hSw; go_simp; all_goals with_reducible rfl
          simp only [Act.put, List.setIfInBounds_toArray, List.set_cons_zero, List.set_cons_succ]
          refine wpAnyH_take (i := 14) (oi := ⟨some 87, _, _, _, _, _⟩) (v := ?_) rfl (by kernel_rfl) (by kernel_rfl) (by kernel_rfl) (fun _ _ _ h => h) (Or.inl ⟨by rfl, ?_⟩) hHeld ?_
          rotate_left 1
          · intro w hSw; go_simp; all_goals with_reducible rfl
          simp only [Act.put, List.setIfInBounds_toArray, List.set_cons_zero, List.set_cons_succ]
          refine wpAnyH_take (i := 15) (oi := ⟨some 88, _, _, _, _, _⟩) (v := ?_) rfl (by kernel_rfl) (by kernel_rfl) (by kernel_rfl) (fun _ _ _ h => h) (Or.inl ⟨by rfl, ?_⟩) hHeld ?_
          rotate_left 1
          · intro w hSw; go_simp; all_goals with_reducible rfl
          simp only [Act.put, List.setIfInBounds_toArray, List.set_cons_zero, List.set_cons_succ]
          refine wpAnyH_ready (rs := [16]) (by kernel_rfl) (by simp) ?_
          refine AllReadyH.cons (o := ⟨some 89, _, _, _, _, _⟩) rfl (fun K hK => ?_) AllReadyH.nil
          go_simp
          refine hK.out _ _ ⟨below_cell ((Below.refl _ _).alloc (Nat.le_refl _) _) d7', below_cell ((Below.refl _ _).alloc (Nat.le_refl _) _) d16'⟩ (fun hHeld2 => ?_)
          clear hK K
          try simp only [Act.put, List.setIfInBounds_toArray, List.set_cons_zero, List.set_cons_succ]
          refine wpAnyH_ready (rs := [17]) (by kernel_rfl) (by simp) ?_
          refine AllReadyH.cons (o := ⟨some 90, _, _, _, _, _⟩) rfl (fun K hK => ?_) AllReadyH.nil
          refine stepO 68 (te := 62) (u := .int .u32 (v : Int)) h4 Try.underlying68 info_u32 rfl _ _ (by rfl) (by rfl) (by rfl) (by rfl) rfl z2 z1 ?_
          intro gg cap2 w9 h8 hold
          refine hK.out _ _ ⟨hold g cap rfl p7 _ HX.out.1, hold g cap rfl p16 _ HX.out.2⟩ (fun hHeld3 => ?_)
          clear hK K
          try simp only [Act.put, List.setIfInBounds_toArray, List.set_cons_zero, List.set_cons_succ]
          refine wpAnyH_take (i := 18) (oi := ⟨some 3, _, _, _, _, _⟩) (v := ?_) rfl (by kernel_rfl) (by kernel_rfl) (by kernel_rfl) (fun _ _ _ h => h) (Or.inl ⟨by rfl, ?_⟩) hHeld3 ?_
          rotate_left 1
          · intro w hSw; go_simp; all_goals with_reducible rfl
          simp only [Act.put, List.setIfInBounds_toArray, List.set_cons_zero, List.set_cons_succ]
          refine wpAnyH_done (by kernel_rfl) ?_ _
          refine NoPanic.normal ?_
          go_wp2
          go_roundw
          case rel =>
            refine ⟨k + 1, _, by omega, by congr 1 <;> omega, rfl, ?_⟩
            rw [HW.out, u32s_append]
            exact h8
          case measure => simp [intOf]; omega
        · obtain rfl : k = 48 := by omega
          have hi2 := hi.trans (show Value.int .i64 (16 + ((48 : Nat) : Int)) = .int .i64 64 from rfl)
          subst hi2
          clear hi
          have H9 := Lib.hid h
          clear h
          go_wp2
          go_ret
          exact ⟨_, rfl, H9.out⟩
end Go.Proofs.Ytiklfjehhdbhfaa
