/-
  Hexadecimal digits of a string, in the program and in the reference. Conditions: at most 2^30 bytes.
-/
import Derived.Test.YtolgldgabhhmaaaShW
import Derived.Test.YtolgldgabhhmaaaShMath2
import Derived.Laws.MakeOwn
namespace Go.Proofs.Ytolgldgabhhmaaa
set_option linter.unusedVariables false
open Go.RowKit

theorem hex_at (n : Nat) (h : n < 16) : ∀ hh, (⟨#[48, 49, 50, 51, 52, 53, 54, 55, 56, 57, 97, 98, 99, 100, 101, 102]⟩ : ByteArray)[n]'hh = Sh.hexD n := by
  intro hh
  have : ∀ m : Fin 16, (⟨#[48, 49, 50, 51, 52, 53, 54, 55, 56, 57, 97, 98, 99, 100, 101, 102]⟩ : ByteArray)[m.val]'(by have := m.isLt; exact this) = Sh.hexD m.val := by decide
  exact this ⟨n, h⟩
theorem at_byte (s : Sh.Str) (k : Nat) (h : k < s.length) : ∀ hh, (⟨s.toArray⟩ : ByteArray)[k]'hh = s[k] := fun _ => rfl
theorem and15 (x : UInt8) : bits .and .u8 (x.toNat : Int) 15 = ((x.toNat % 16 : Nat) : Int) := by
  have := x.toNat_lt
  rw [show (15 : Int) = ((15 : Nat) : Int) from rfl, u8_and_nat _ _ (by omega) (by decide), show (15 : Nat) = 2 ^ 4 - 1 from rfl, Nat.and_two_pow_sub_one_eq_mod]
set_option maxRecDepth 20000 in
set_option maxHeartbeats 2000000 in
theorem rhex_spec (s : Sh.Str) (hs : s.length ≤ 1073741824) (w : World) : Calls Try.prog 19 #[.string ⟨s.toArray⟩] w fun e w' => e = .returned (.string ⟨(Sh.hex s).toArray⟩) ∧ Below w.heap.size w w' := by
  have h1 : St w.heap.size w (w.alloc (.cells #[] 5)) (ownR 5 1 (.slice (some ⟨w.heap.size, 0, none⟩) 0 0) 0 (vals []) :: []) := (St.nil w).new_own ((Below.refl _ w).alloc (Nat.le_refl _) _) (World.ownsRow_lit w #[] 0 (Nat.le_refl _) (by decide) rfl)
  go_enter Try.func19, Try.ntmps19
  go_wp2
  generalize w.alloc (.cells #[] 5) = W at h1 ⊢
  go_loopw [4, 5] (fun v i wr => ∃ (k : Nat) (v' : Value), k ≤ s.length ∧ i = .int .i64 k ∧ v' = v ∧ St w.heap.size w wr (ownR 5 1 v' (2 * k) (vals (Sh.hex (s.take k))) :: [])) (fun _ i _ => s.length - (intOf i).toNat)
  case atStart => exact ⟨0, _, by omega, rfl, rfl, h1⟩
  case round =>
    clear h1
    obtain ⟨k, v, hk, rfl, rfl, h⟩ := hrel
    by_cases hlt : k < s.length
    · have hk1 : (k : Int) < (s.length : Int) := by omega
      have hk0 : (0 : Int) ≤ (k : Int) := by omega
      have hnx := Sh.hex_take s k hlt
      obtain ⟨x, hx⟩ : ∃ x, s[k] = x := ⟨_, rfl⟩
      have hat : ∀ hh, (⟨s.toArray⟩ : ByteArray)[k]'hh = x := fun hh => (at_byte s k hlt hh).trans hx
      rw [hx] at hnx
      have hxl := x.toNat_lt
      obtain ⟨n1, hn1⟩ : ∃ n, x.toNat / 16 = n := ⟨_, rfl⟩
      obtain ⟨n2, hn2⟩ : ∃ n, x.toNat % 16 = n := ⟨_, rfl⟩
      have e1 : (x.toNat : Int) / 16 = (n1 : Int) := by omega
      have e2 : bits .and .u8 (x.toNat : Int) 15 = (n2 : Int) := by rw [and15, hn2]
      have e3 : (x.toNat : Int).tmod 16 = (n2 : Int) := by rw [Int.tmod_eq_emod_of_nonneg (by omega)]; omega
      have e4 : (x.toNat : Int) % 16 = (n2 : Int) := by omega
      have e5 : (x.toNat : Int).tdiv 16 = (n1 : Int) := by rw [Int.tdiv_eq_ediv_of_nonneg (by omega)]; omega
      have m1 : (n1 : Int) < 16 := by omega
      have m2 : (n2 : Int) < 16 := by omega
      have p1 : (0 : Int) ≤ (n1 : Int) := by omega
      have p2 : (0 : Int) ≤ (n2 : Int) := by omega
      have w1 : IntKind.u8.wrap (n1 : Int) = (n1 : Int) := by rw [IntKind.wrap_u8]; omega
      have w2 : IntKind.u8.wrap (n2 : Int) = (n2 : Int) := by rw [IntKind.wrap_u8]; omega
      have d1 := hex_at n1 (by omega)
      have d2 := hex_at n2 (by omega)
      rw [hn1, hn2] at hnx
      generalize Sh.hexD n1 = z1 at d1 hnx
      generalize Sh.hexD n2 = z2 at d2 hnx
      have HX := Lib.hid hnx
      clear hnx hn1 hn2 hx hxl
      have b2 : 2 * k + 2 ≤ maxLen := by unfold maxLen; omega
      have b1 : (2 * k + 2) * 1 ≤ 140737488355328 := by omega
      go_wp2_with fail
      refine wp_region_noPanic ?_
      refine wp_region_held_drew (S := fun w' => w.heap.size ≤ w'.heap.size) (by kernel_rfl) h.size (fun hHeld => ?_)
      refine wpAnyH_take (i := 0) (oi := ⟨some 13, _, _, _, _, _⟩) (v := ?_) rfl (by kernel_rfl) (by kernel_rfl) (by kernel_rfl) (fun _ _ _ h => h) (Or.inl ⟨by rfl, ?_⟩) hHeld ?_
      rotate_left 1
      · intro w hSw; go_simp; all_goals with_reducible rfl
      simp only [Act.put, List.setIfInBounds_toArray, List.set_cons_zero, List.set_cons_succ]
      refine wpAnyH_take (i := 1) (oi := ⟨some 14, _, _, _, _, _⟩) (v := ?_) rfl (by kernel_rfl) (by kernel_rfl) (by kernel_rfl) (fun _ _ _ h => h) (Or.inl ⟨by rfl, ?_⟩) hHeld ?_
      rotate_left 1
      · intro w hSw; go_simp; all_goals with_reducible rfl
      simp only [Act.put, List.setIfInBounds_toArray, List.set_cons_zero, List.set_cons_succ]
      refine wpAnyH_take (i := 2) (oi := ⟨some 15, _, _, _, _, _⟩) (v := ?_) rfl (by kernel_rfl) (by kernel_rfl) (by kernel_rfl) (fun _ _ _ h => h) (Or.inl ⟨by rfl, ?_⟩) hHeld ?_
      rotate_left 1
      · intro w hSw; go_simp; all_goals with_reducible rfl
      simp only [Act.put, List.setIfInBounds_toArray, List.set_cons_zero, List.set_cons_succ]
      refine wpAnyH_take (i := 3) (oi := ⟨some 16, _, _, _, _, _⟩) (v := ?_) rfl (by kernel_rfl) (by kernel_rfl) (by kernel_rfl) (fun _ _ _ h => h) (Or.inl ⟨by rfl, ?_⟩) hHeld ?_
      rotate_left 1
      · intro w hSw; go_simp; all_goals with_reducible rfl
      simp only [Act.put, List.setIfInBounds_toArray, List.set_cons_zero, List.set_cons_succ]
      refine wpAnyH_take (i := 4) (oi := ⟨some 17, _, _, _, _, _⟩) (v := ?_) rfl (by kernel_rfl) (by kernel_rfl) (by kernel_rfl) (fun _ _ _ h => h) (Or.inl ⟨by rfl, ?_⟩) hHeld ?_
      rotate_left 1
      · intro w hSw; go_simp; all_goals with_reducible rfl
      simp only [Act.put, List.setIfInBounds_toArray, List.set_cons_zero, List.set_cons_succ]
      refine wpAnyH_take (i := 5) (oi := ⟨some 18, _, _, _, _, _⟩) (v := ?_) rfl (by kernel_rfl) (by kernel_rfl) (by kernel_rfl) (fun _ _ _ h => h) (Or.inl ⟨by rfl, ?_⟩) hHeld ?_
      rotate_left 1
      · intro w hSw; go_simp; all_goals with_reducible rfl
      simp only [Act.put, List.setIfInBounds_toArray, List.set_cons_zero, List.set_cons_succ]
      refine wpAnyH_take (i := 6) (oi := ⟨some 19, _, _, _, _, _⟩) (v := ?_) rfl (by kernel_rfl) (by kernel_rfl) (by kernel_rfl) (fun _ _ _ h => h) (Or.inl ⟨by rfl, ?_⟩) hHeld ?_
      rotate_left 1
      · intro w hSw; go_simp; all_goals with_reducible rfl
      simp only [Act.put, List.setIfInBounds_toArray, List.set_cons_zero, List.set_cons_succ]
      refine wpAnyH_take (i := 7) (oi := ⟨some 20, _, _, _, _, _⟩) (v := ?_) rfl (by kernel_rfl) (by kernel_rfl) (by kernel_rfl) (fun _ _ _ h => h) (Or.inl ⟨by rfl, ?_⟩) hHeld ?_
      rotate_left 1
      · intro w hSw; go_simp; all_goals with_reducible rfl
      simp only [Act.put, List.setIfInBounds_toArray, List.set_cons_zero, List.set_cons_succ]
      refine wpAnyH_take (i := 8) (oi := ⟨some 21, _, _, _, _, _⟩) (v := ?_) rfl (by kernel_rfl) (by kernel_rfl) (by kernel_rfl) (fun _ _ _ h => h) (Or.inl ⟨by rfl, ?_⟩) hHeld ?_
      rotate_left 1
      · intro w hSw; go_simp; all_goals with_reducible rfl
      simp only [Act.put, List.setIfInBounds_toArray, List.set_cons_zero, List.set_cons_succ]
      refine wpAnyH_take (i := 9) (oi := ⟨some 22, _, _, _, _, _⟩) (v := ?_) rfl (by kernel_rfl) (by kernel_rfl) (by kernel_rfl) (fun _ _ _ h => h) (Or.inl ⟨by rfl, ?_⟩) hHeld ?_
      rotate_left 1
      · intro w hSw; go_simp; all_goals with_reducible rfl
      simp only [Act.put, List.setIfInBounds_toArray, List.set_cons_zero, List.set_cons_succ]
      refine wpAnyH_take (i := 10) (oi := ⟨some 23, _, _, _, _, _⟩) (v := ?_) rfl (by kernel_rfl) (by kernel_rfl) (by kernel_rfl) (fun _ _ _ h => h) (Or.inl ⟨by rfl, ?_⟩) hHeld ?_
      rotate_left 1
      · intro w hSw; go_simp; all_goals with_reducible rfl
      simp only [Act.put, List.setIfInBounds_toArray, List.set_cons_zero, List.set_cons_succ]
      refine wpAnyH_take (i := 11) (oi := ⟨some 24, _, _, _, _, _⟩) (v := ?_) rfl (by kernel_rfl) (by kernel_rfl) (by kernel_rfl) (fun _ _ _ h => h) (Or.inl ⟨by rfl, ?_⟩) hHeld ?_
      rotate_left 1
      · intro w hSw; go_simp; all_goals with_reducible rfl
      simp only [Act.put, List.setIfInBounds_toArray, List.set_cons_zero, List.set_cons_succ]
      refine wpAnyH_take (i := 12) (oi := ⟨some 25, _, _, _, _, _⟩) (v := ?_) rfl (by kernel_rfl) (by kernel_rfl) (by kernel_rfl) (fun _ _ _ h => h) (Or.inl ⟨by rfl, ?_⟩) hHeld ?_
      rotate_left 1
      · intro w hSw; go_simp; all_goals with_reducible rfl
      simp only [Act.put, List.setIfInBounds_toArray, List.set_cons_zero, List.set_cons_succ]
      refine wpAnyH_ready (rs := [13]) (by kernel_rfl) (by simp) ?_
      refine AllReadyH.cons (o := ⟨some 26, _, _, _, _, _⟩) rfl (fun K hK => ?_) AllReadyH.nil
      go_simp
      refine hK.out _ _ (h.alloc0 _).size (fun hHeld2 => ?_)
      clear hK K
      try simp only [Act.put, List.setIfInBounds_toArray, List.set_cons_zero, List.set_cons_succ]
      refine wpAnyH_ready (rs := [14]) (by kernel_rfl) (by simp) ?_
      refine AllReadyH.cons (o := ⟨some 27, _, _, _, _, _⟩) rfl (fun K hK => ?_) AllReadyH.nil
      refine stepN 34 #[.int .u8 (z1.toNat : Int), .int .u8 (z2.toNat : Int)] h Try.underlying34 info_u8 rfl _ _ (by rfl) (by rfl) (by rfl) (by rfl) rfl (Nat.succ_pos 1) (vals_one [z1, z2]) b2 b1 ?_
      intro gg cap w9 h8 _
      refine hK.out _ _ h8.size (fun hHeld3 => ?_)
      clear hK K
      try simp only [Act.put, List.setIfInBounds_toArray, List.set_cons_zero, List.set_cons_succ]
      refine wpAnyH_take (i := 15) (oi := ⟨some 4, _, _, _, _, _⟩) (v := ?_) rfl (by kernel_rfl) (by kernel_rfl) (by kernel_rfl) (fun _ _ _ h => h) (Or.inl ⟨by rfl, ?_⟩) hHeld3 ?_
      rotate_left 1
      · intro w hSw; go_simp; all_goals with_reducible rfl
      simp only [Act.put, List.setIfInBounds_toArray, List.set_cons_zero, List.set_cons_succ]
      refine wpAnyH_done (by kernel_rfl) ?_ _
      refine NoPanic.normal ?_
      clear hHeld hHeld2 hHeld3 hat d1 d2
      go_wp2
      go_roundw
      case rel =>
        refine ⟨k + 1, _, by omega, by go_num, rfl, ?_⟩
        rw [HX.out, vals_append]
        exact h8
      case measure => simp [intOf]; omega
    · obtain rfl : k = s.length := by omega
      rw [List.take_length] at h
      have hge : decide ((s.length : Int) < (s.length : Int)) = false := by simp
      have hcv := conv_own (P := Try.prog) 34 9 5 Try.underlying34 Try.underlying5 Try.underlying9 wr 0 v (2 * s.length) (Sh.hex s) h.own
      have HH := Lib.hid h.below
      clear h
      obtain ⟨Z, hZ⟩ : ∃ Z, Sh.hex s = Z := ⟨_, rfl⟩
      rw [hZ] at hcv
      have HZ := Lib.hid hZ
      clear hZ
      go_wp2
      go_ret
      exact ⟨by rw [HZ.out]; rfl, HH.out⟩
set_option maxRecDepth 20000 in
set_option maxHeartbeats 2000000 in
theorem hex_spec (s : Sh.Str) (hs : s.length ≤ 1073741824) (w : World) : Calls Try.prog 18 #[.string ⟨s.toArray⟩] w fun e w' => e = .returned (.string ⟨(Sh.hex s).toArray⟩) ∧ Below w.heap.size w w' := by
  obtain ⟨i1, hi1, hy0, hy1, hy2⟩ := info_parts info_u8
  obtain ⟨W, hr, ho, hg⟩ := run_make_own (P := Try.prog) w w.heap.size 34 5 i1 (.int .u8 0) 1 Try.underlying34 hi1 hy0 hy1 .i64 .i64 (2 * s.length) (by rw [hy2]; omega) (by unfold maxLen; omega) (Nat.le_refl _)
  have h1 : St w.heap.size w W (ownR 5 1 (.slice (some ⟨w.heap.size, 0, none⟩) 0 (2 * s.length)) 0 (vals []) :: []) := (St.nil w).new_own ⟨hg.os, hg.tape, hg.output, hg.size, fun k hk => hg.block k hk (by simp)⟩ ho
  rw [show ((2 * s.length : Nat) : Int) = 2 * (s.length : Int) from by omega] at hr
  clear hi1 hy0 hy1 hy2 ho hg
  go_enter Try.func18, Try.ntmps18
  go_wp2
  clear hr
  go_loopw [3, 11] (fun v i wr => ∃ (k : Nat) (v' : Value), k ≤ s.length ∧ i = .int .i64 k ∧ v' = v ∧ St w.heap.size w wr (ownR 5 1 v' (2 * k) (vals (Sh.hex (s.take k))) :: [])) (fun _ i _ => s.length - (intOf i).toNat)
  case atStart => exact ⟨0, _, by omega, rfl, rfl, h1⟩
  case round =>
    clear h1
    obtain ⟨k, v, hk, rfl, rfl, h⟩ := hrel
    by_cases hlt : k < s.length
    · have hk1 : (k : Int) < (s.length : Int) := by omega
      have hk0 : (0 : Int) ≤ (k : Int) := by omega
      have hnx := Sh.hex_take s k hlt
      obtain ⟨x, hx⟩ : ∃ x, s[k] = x := ⟨_, rfl⟩
      have hat : ∀ hh, (⟨s.toArray⟩ : ByteArray)[k]'hh = x := fun hh => (at_byte s k hlt hh).trans hx
      rw [hx] at hnx
      have hxl := x.toNat_lt
      obtain ⟨n1, hn1⟩ : ∃ n, x.toNat / 16 = n := ⟨_, rfl⟩
      obtain ⟨n2, hn2⟩ : ∃ n, x.toNat % 16 = n := ⟨_, rfl⟩
      have e1 : (x.toNat : Int) / 16 = (n1 : Int) := by omega
      have e2 : bits .and .u8 (x.toNat : Int) 15 = (n2 : Int) := by rw [and15, hn2]
      have e3 : (x.toNat : Int).tmod 16 = (n2 : Int) := by rw [Int.tmod_eq_emod_of_nonneg (by omega)]; omega
      have e4 : (x.toNat : Int) % 16 = (n2 : Int) := by omega
      have e5 : (x.toNat : Int).tdiv 16 = (n1 : Int) := by rw [Int.tdiv_eq_ediv_of_nonneg (by omega)]; omega
      have m1 : (n1 : Int) < 16 := by omega
      have m2 : (n2 : Int) < 16 := by omega
      have p1 : (0 : Int) ≤ (n1 : Int) := by omega
      have p2 : (0 : Int) ≤ (n2 : Int) := by omega
      have w1 : IntKind.u8.wrap (n1 : Int) = (n1 : Int) := by rw [IntKind.wrap_u8]; omega
      have w2 : IntKind.u8.wrap (n2 : Int) = (n2 : Int) := by rw [IntKind.wrap_u8]; omega
      have d1 := hex_at n1 (by omega)
      have d2 := hex_at n2 (by omega)
      rw [hn1, hn2] at hnx
      generalize Sh.hexD n1 = z1 at d1 hnx
      generalize Sh.hexD n2 = z2 at d2 hnx
      have HX := Lib.hid hnx
      clear hnx hn1 hn2 hx hxl
      have b2 : 2 * k + 2 ≤ maxLen := by unfold maxLen; omega
      have b1 : (2 * k + 2) * 1 ≤ 140737488355328 := by omega
      go_wp2_with fail
      refine wp_region_noPanic ?_
      refine wp_region_held_drew (S := fun w' => w.heap.size ≤ w'.heap.size) (by kernel_rfl) h.size (fun hHeld => ?_)
      refine wpAnyH_take (i := 0) (oi := ⟨some 14, _, _, _, _, _⟩) (v := ?_) rfl (by kernel_rfl) (by kernel_rfl) (by kernel_rfl) (fun _ _ _ h => h) (Or.inl ⟨by rfl, ?_⟩) hHeld ?_
      rotate_left 1
      · intro w hSw; go_simp; all_goals with_reducible rfl
      simp only [Act.put, List.setIfInBounds_toArray, List.set_cons_zero, List.set_cons_succ]
      refine wpAnyH_take (i := 1) (oi := ⟨some 15, _, _, _, _, _⟩) (v := ?_) rfl (by kernel_rfl) (by kernel_rfl) (by kernel_rfl) (fun _ _ _ h => h) (Or.inl ⟨by rfl, ?_⟩) hHeld ?_
      rotate_left 1
      · intro w hSw; go_simp; all_goals with_reducible rfl
      simp only [Act.put, List.setIfInBounds_toArray, List.set_cons_zero, List.set_cons_succ]
      refine wpAnyH_take (i := 2) (oi := ⟨some 16, _, _, _, _, _⟩) (v := ?_) rfl (by kernel_rfl) (by kernel_rfl) (by kernel_rfl) (fun _ _ _ h => h) (Or.inl ⟨by rfl, ?_⟩) hHeld ?_
      rotate_left 1
      · intro w hSw; go_simp; all_goals with_reducible rfl
      simp only [Act.put, List.setIfInBounds_toArray, List.set_cons_zero, List.set_cons_succ]
      refine wpAnyH_take (i := 3) (oi := ⟨some 17, _, _, _, _, _⟩) (v := ?_) rfl (by kernel_rfl) (by kernel_rfl) (by kernel_rfl) (fun _ _ _ h => h) (Or.inl ⟨by rfl, ?_⟩) hHeld ?_
      rotate_left 1
      · intro w hSw; go_simp; all_goals with_reducible rfl
      simp only [Act.put, List.setIfInBounds_toArray, List.set_cons_zero, List.set_cons_succ]
      refine wpAnyH_take (i := 4) (oi := ⟨some 18, _, _, _, _, _⟩) (v := ?_) rfl (by kernel_rfl) (by kernel_rfl) (by kernel_rfl) (fun _ _ _ h => h) (Or.inl ⟨by rfl, ?_⟩) hHeld ?_
      rotate_left 1
      · intro w hSw; go_simp; all_goals with_reducible rfl
      simp only [Act.put, List.setIfInBounds_toArray, List.set_cons_zero, List.set_cons_succ]
      refine wpAnyH_take (i := 5) (oi := ⟨some 19, _, _, _, _, _⟩) (v := ?_) rfl (by kernel_rfl) (by kernel_rfl) (by kernel_rfl) (fun _ _ _ h => h) (Or.inl ⟨by rfl, ?_⟩) hHeld ?_
      rotate_left 1
      · intro w hSw; go_simp; all_goals with_reducible rfl
      simp only [Act.put, List.setIfInBounds_toArray, List.set_cons_zero, List.set_cons_succ]
      refine wpAnyH_take (i := 6) (oi := ⟨some 20, _, _, _, _, _⟩) (v := ?_) rfl (by kernel_rfl) (by kernel_rfl) (by kernel_rfl) (fun _ _ _ h => h) (Or.inl ⟨by rfl, ?_⟩) hHeld ?_
      rotate_left 1
      · intro w hSw; go_simp; all_goals with_reducible rfl
      simp only [Act.put, List.setIfInBounds_toArray, List.set_cons_zero, List.set_cons_succ]
      refine wpAnyH_take (i := 7) (oi := ⟨some 21, _, _, _, _, _⟩) (v := ?_) rfl (by kernel_rfl) (by kernel_rfl) (by kernel_rfl) (fun _ _ _ h => h) (Or.inl ⟨by rfl, ?_⟩) hHeld ?_
      rotate_left 1
      · intro w hSw; go_simp; all_goals with_reducible rfl
      simp only [Act.put, List.setIfInBounds_toArray, List.set_cons_zero, List.set_cons_succ]
      refine wpAnyH_take (i := 8) (oi := ⟨some 22, _, _, _, _, _⟩) (v := ?_) rfl (by kernel_rfl) (by kernel_rfl) (by kernel_rfl) (fun _ _ _ h => h) (Or.inl ⟨by rfl, ?_⟩) hHeld ?_
      rotate_left 1
      · intro w hSw; go_simp; all_goals with_reducible rfl
      simp only [Act.put, List.setIfInBounds_toArray, List.set_cons_zero, List.set_cons_succ]
      refine wpAnyH_take (i := 9) (oi := ⟨some 23, _, _, _, _, _⟩) (v := ?_) rfl (by kernel_rfl) (by kernel_rfl) (by kernel_rfl) (fun _ _ _ h => h) (Or.inl ⟨by rfl, ?_⟩) hHeld ?_
      rotate_left 1
      · intro w hSw; go_simp; all_goals with_reducible rfl
      simp only [Act.put, List.setIfInBounds_toArray, List.set_cons_zero, List.set_cons_succ]
      refine wpAnyH_take (i := 10) (oi := ⟨some 24, _, _, _, _, _⟩) (v := ?_) rfl (by kernel_rfl) (by kernel_rfl) (by kernel_rfl) (fun _ _ _ h => h) (Or.inl ⟨by rfl, ?_⟩) hHeld ?_
      rotate_left 1
      · intro w hSw; go_simp; all_goals with_reducible rfl
      simp only [Act.put, List.setIfInBounds_toArray, List.set_cons_zero, List.set_cons_succ]
      refine wpAnyH_ready (rs := [11]) (by kernel_rfl) (by simp) ?_
      refine AllReadyH.cons (o := ⟨some 25, _, _, _, _, _⟩) rfl (fun K hK => ?_) AllReadyH.nil
      go_simp
      refine hK.out _ _ (h.alloc0 _).size (fun hHeld2 => ?_)
      clear hK K
      try simp only [Act.put, List.setIfInBounds_toArray, List.set_cons_zero, List.set_cons_succ]
      refine wpAnyH_ready (rs := [12]) (by kernel_rfl) (by simp) ?_
      refine AllReadyH.cons (o := ⟨some 26, _, _, _, _, _⟩) rfl (fun K hK => ?_) AllReadyH.nil
      refine stepN 34 #[.int .u8 (z1.toNat : Int), .int .u8 (z2.toNat : Int)] h Try.underlying34 info_u8 rfl _ _ (by rfl) (by rfl) (by rfl) (by rfl) rfl (Nat.succ_pos 1) (vals_one [z1, z2]) b2 b1 ?_
      intro gg cap w9 h8 _
      refine hK.out _ _ h8.size (fun hHeld3 => ?_)
      clear hK K
      try simp only [Act.put, List.setIfInBounds_toArray, List.set_cons_zero, List.set_cons_succ]
      refine wpAnyH_take (i := 13) (oi := ⟨some 3, _, _, _, _, _⟩) (v := ?_) rfl (by kernel_rfl) (by kernel_rfl) (by kernel_rfl) (fun _ _ _ h => h) (Or.inl ⟨by rfl, ?_⟩) hHeld3 ?_
      rotate_left 1
      · intro w hSw; go_simp; all_goals with_reducible rfl
      simp only [Act.put, List.setIfInBounds_toArray, List.set_cons_zero, List.set_cons_succ]
      refine wpAnyH_done (by kernel_rfl) ?_ _
      refine NoPanic.normal ?_
      clear hHeld hHeld2 hHeld3 hat d1 d2
      go_wp2
      go_roundw
      case rel =>
        refine ⟨k + 1, _, by omega, by go_num, rfl, ?_⟩
        rw [HX.out, vals_append]
        exact h8
      case measure => simp [intOf]; omega
    · obtain rfl : k = s.length := by omega
      rw [List.take_length] at h
      have hge : decide ((s.length : Int) < (s.length : Int)) = false := by simp
      have hcv := conv_own (P := Try.prog) 34 9 5 Try.underlying34 Try.underlying5 Try.underlying9 wr 0 v (2 * s.length) (Sh.hex s) h.own
      have HH := Lib.hid h.below
      clear h
      obtain ⟨Z, hZ⟩ : ∃ Z, Sh.hex s = Z := ⟨_, rfl⟩
      rw [hZ] at hcv
      have HZ := Lib.hid hZ
      clear hZ
      go_wp2
      go_ret
      exact ⟨by rw [HZ.out]; rfl, HH.out⟩
end Go.Proofs.Ytolgldgabhhmaaa
