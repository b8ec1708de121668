/-
  The digest of the reference's SHA-256. Conditions: at most 2^39 bytes.
-/
import Derived.Test.YtiklfjehhdbhfaaShV
namespace Go.Proofs.Ytiklfjehhdbhfaa
set_option linter.unusedVariables false
open Go.RowKit

set_option maxRecDepth 20000 in
set_option maxHeartbeats 2000000 in
theorem rsum_spec (s : Sh.Str) (hs : s.length ≤ 549755813888) (w : World) : Calls Try.prog 40 #[.string ⟨s.toArray⟩] w fun e w' => e = .returned (.string ⟨(Sh.sha s).toArray⟩) ∧ Below w.heap.size w w' := by
  have h1 : St w.heap.size w (w.alloc (.cells (arr Sh.iv.list) 62)) (ownR 62 1 (.slice (some ⟨w.heap.size, 0, none⟩) 8 8) 8 (u32s Sh.iv.list) :: []) := (St.nil w).new_own ((Below.refl _ w).alloc (Nat.le_refl _) _) (World.ownsRow_lit w (arr Sh.iv.list) 8 (Nat.le_refl _) (by decide) rfl)
  go_enter Try.func40, Try.ntmps40
  go_wp2_with fail
  refine (padded_spec s hs _).mono ?_
  rintro e w1 ⟨rfl, b1⟩
  have h2 := h1.under b1
  clear h1 b1
  have hsha : Sh.sha s = Sh.out (Sh.blocks Sh.iv (Sh.pad s) ((Sh.pad s).length / 64)) := rfl
  have hp64 := Sh.pad_mod s
  have hpl : (Sh.pad s).length ≤ 1000000000000 := by rw [Sh.pad_length]; unfold Sh.zeros; omega
  obtain ⟨P, hP⟩ : ∃ P, Sh.pad s = P := ⟨_, rfl⟩
  rw [hP] at hsha hp64 hpl ⊢
  have HS := Lib.hid (And.intro hsha hp64)
  clear hsha hp64 hP hs
  go_wp2
  go_loopw [3, 5] (fun v i wr => ∃ (k : Nat) (v' : Value), 64 * k ≤ P.length ∧ i = .int .i64 ((64 * k : Nat) : Int) ∧ v' = v ∧ St w.heap.size w wr (ownR 62 1 v' 8 (u32s (Sh.blocks Sh.iv P k).list) :: [])) (fun _ i _ => P.length - (intOf i).toNat)
  case atStart => exact ⟨0, _, by omega, rfl, rfl, h2⟩
  case round =>
    clear h2
    obtain ⟨k, v, hk, hi, rfl, h⟩ := hrel
    by_cases hlt : 64 * k < P.length
    · subst hi
      have hp := HS.out.2
      have hnx : Sh.blocks Sh.iv P (k + 1) = Sh.block (Sh.blocks Sh.iv P k) ((P.drop (64 * k)).take 64) := rfl
      have hb64 : ((P.drop (64 * k)).take 64).length = 64 := by rw [List.length_take, List.length_drop]; omega
      obtain ⟨I, hI⟩ : ∃ I, 64 * k = I := ⟨_, rfl⟩
      have hIe : 64 * (k + 1) = I + 64 := by omega
      rw [hI] at hlt hnx hb64 ⊢
      have hcut : (⟨P.toArray⟩ : ByteArray).extract I (I + 64) = ⟨((P.drop I).take 64).toArray⟩ := by rw [bytes_cut, Nat.add_sub_cancel_left]
      have l1 : (I : Int) < (P.length : Int) := by omega
      have l2 : (I : Int) + 64 ≤ (P.length : Int) := by omega
      have l3 : (0 : Int) ≤ (I : Int) := by omega
      have l4 : ((I : Int) + 64).toNat = I + 64 := by omega
      have hok := Sh.blocks_ok Sh.iv_ok P k
      generalize (P.drop I).take 64 = B at hcut hnx hb64
      generalize Sh.blocks Sh.iv P k = T at hnx h hok
      have HX := Lib.hid (And.intro hnx (And.intro hb64 (And.intro hIe hI)))
      clear hnx hb64 hp hk hIe hI
      go_wp2_with fail
      refine (compress_spec h hok B HX.out.2.1).mono ?_
      rintro e w2 ⟨v2, rfl, h3⟩
      have h4 := h3.swap.tail
      rw [← HX.out.1] at h4
      go_wp2
      go_roundw
      case rel => exact ⟨k + 1, v2, by have := HX.out.2.2.1; omega, by rw [HX.out.2.2.1]; go_num, rfl, h4⟩
      case measure => simp [intOf]; omega
    · have hkk : k = P.length / 64 := by have := HS.out.2; omega
      have hi2 : u5 = .int .i64 (P.length : Int) := by rw [hi]; congr 1; have := HS.out.2; omega
      subst hi2
      have hge : decide ((P.length : Int) < (P.length : Int)) = false := by simp
      have hout : Sh.sha s = Sh.out (Sh.blocks Sh.iv P k) := by rw [hkk]; exact HS.out.1
      have hTok := Sh.blocks_ok Sh.iv_ok P k
      obtain ⟨T, hT⟩ : ∃ T, Sh.blocks Sh.iv P k = T := ⟨_, rfl⟩
      rw [hT] at h hout hTok
      have HT := Lib.hid (And.intro hTok hout)
      clear hTok hout hT hi hkk hk hlt HS
      have hb := (h.alloc0 (.cells #[] 5))
      have h5 : St w.heap.size w (wr.alloc (.cells #[] 5)) (ownR 5 1 (.slice (some ⟨wr.heap.size, 0, none⟩) 0 0) 0 (vals []) :: ownR 62 1 v 8 (u32s T.list) :: []) := h.new_own ((Below.refl _ wr).alloc (Nat.le_refl _) _) (World.ownsRow_lit wr #[] 0 (Nat.le_refl _) (by decide) rfl)
      obtain ⟨gs, cs, hv, _, _⟩ := row_u32 h.own (by decide)
      subst hv
      clear h hb
      go_wp2
      generalize wr.alloc (.cells #[] 5) = W at h5 ⊢
      generalize wr.heap.size = gW at h5 ⊢
      go_loopw [6, 7] (fun v i wr => ∃ (n : Nat) (v' : Value), n ≤ 8 ∧ i = .int .i64 n ∧ v' = v ∧ St w.heap.size w wr (ownR 5 1 v' (4 * n) (vals ((T.list.take n).flatMap Sh.be4)) :: ownR 62 1 (.slice (some ⟨gs, 0, none⟩) 8 cs) 8 (u32s T.list) :: [])) (fun _ i _ => 8 - (intOf i).toNat)
      case atStart => exact ⟨0, _, by omega, rfl, rfl, h5⟩
      case round =>
        clear h5
        obtain ⟨n, v, hn, rfl, rfl, h⟩ := hrel
        by_cases hlt : n < 8
        · have hk1 : (n : Int) < 8 := by omega
          have hk0 : (0 : Int) ≤ (n : Int) := by omega
          have hnx : (T.list.take (n + 1)).flatMap Sh.be4 = (T.list.take n).flatMap Sh.be4 ++ Sh.be4 (T.list.getD n 0) := by
            rcases lt8 hlt with rfl | rfl | rfl | rfl | rfl | rfl | rfl | rfl <;> rfl
          have hxl : T.list.getD n 0 < 4294967296 := by
            have hok := HT.out.1
            rcases lt8 hlt with rfl | rfl | rfl | rfl | rfl | rfl | rfl | rfl
            · exact hok.a
            · exact hok.b
            · exact hok.c
            · exact hok.d
            · exact hok.e
            · exact hok.f
            · exact hok.g
            · exact hok.h
          obtain ⟨gs', cs', hv', _, hcell⟩ := row_u32 ((h.front 1 (by simp)).own) (by decide)
          injection hv' with hv1 hv2 hv3
          injection hv1 with hv1
          injection hv1 with hv1
          subst hv1 hv3
          have cn : wr.drew.cell? ⟨gs, n, none⟩ = some (.int .u32 ((T.list.getD n 0 : Nat) : Int)) := hcell n hlt
          have hkeep : ∀ W2, St w.heap.size w W2 [ownR 62 1 (.slice (some ⟨gs, 0, none⟩) 8 cs) 8 (u32s T.list)] → W2.cell? ⟨gs, n, none⟩ = some (.int .u32 ((T.list.getD n 0 : Nat) : Int)) := fun W2 hW2 => by
            obtain ⟨gs', cs', hv', _, hcell⟩ := row_u32 hW2.own (by decide)
            injection hv' with hv1 hv2 hv3
            injection hv1 with hv1
            injection hv1 with hv1
            subst hv1
            exact hcell n hlt
          clear hcell
          generalize T.list.getD n 0 = x at hnx hxl cn hkeep
          have HK := Lib.hid hkeep
          clear hkeep
          have y0 : IntKind.u8.wrap ((x : Int) / 16777216) = ((UInt8.ofNat (x / 16777216)).toNat : Int) := by rw [UInt8.toNat_ofNat', IntKind.wrap_u8]; omega
          have y1 : IntKind.u8.wrap ((x : Int) / 65536) = ((UInt8.ofNat (x / 65536)).toNat : Int) := by rw [UInt8.toNat_ofNat', IntKind.wrap_u8]; omega
          have y2 : IntKind.u8.wrap ((x : Int) / 256) = ((UInt8.ofNat (x / 256)).toNat : Int) := by rw [UInt8.toNat_ofNat', IntKind.wrap_u8]; omega
          have y3 : IntKind.u8.wrap (x : Int) = ((UInt8.ofNat x).toNat : Int) := by rw [UInt8.toNat_ofNat', IntKind.wrap_u8]; omega
          have hbe : Sh.be4 x = [UInt8.ofNat (x / 16777216), UInt8.ofNat (x / 65536), UInt8.ofNat (x / 256), UInt8.ofNat x] := rfl
          rw [hbe] at hnx
          clear hbe
          generalize UInt8.ofNat (x / 16777216) = z0 at y0 hnx
          generalize UInt8.ofNat (x / 65536) = z1 at y1 hnx
          generalize UInt8.ofNat (x / 256) = z2 at y2 hnx
          generalize UInt8.ofNat x = z3 at y3 hnx
          have HX := Lib.hid hnx
          clear hnx hxl
          have b2 : 4 * n + 4 ≤ maxLen := by unfold maxLen; omega
          have b1 : (4 * n + 4) * 1 ≤ 140737488355328 := by omega
          go_wp2_with fail
          refine wp_region_noPanic ?_
          refine wp_region_held_drew (S := fun w' => w'.cell? ⟨gs, n, none⟩ = some (.int .u32 (x : Int))) (by kernel_rfl) cn (fun hHeld => ?_)
          refine wpAnyH_take (i := 0) (oi := ⟨some 29, _, _, _, _, _⟩) (v := ?_) rfl (by kernel_rfl) (by kernel_rfl) (by kernel_rfl) (fun _ _ _ h => h) (Or.inl ⟨by rfl, ?_⟩) hHeld ?_
          rotate_left 1
          · intro w hSw; go_simp; all_goals with_reducible rfl
          simp only [Act.put, List.setIfInBounds_toArray, List.set_cons_zero, List.set_cons_succ]
          refine wpAnyH_take (i := 1) (oi := ⟨some 30, _, _, _, _, _⟩) (v := ?_) rfl (by kernel_rfl) (by kernel_rfl) (by kernel_rfl) (fun _ _ _ h => h) (Or.inl ⟨by rfl, ?_⟩) hHeld ?_
          rotate_left 1
          · intro w hSw; go_simp; all_goals with_reducible rfl
          simp only [Act.put, List.setIfInBounds_toArray, List.set_cons_zero, List.set_cons_succ]
          refine wpAnyH_take (i := 2) (oi := ⟨some 31, _, _, _, _, _⟩) (v := ?_) rfl (by kernel_rfl) (by kernel_rfl) (by kernel_rfl) (fun _ _ _ h => h) (Or.inl ⟨by rfl, ?_⟩) hHeld ?_
          rotate_left 1
          · intro w hSw; go_simp; all_goals with_reducible rfl
          simp only [Act.put, List.setIfInBounds_toArray, List.set_cons_zero, List.set_cons_succ]
          refine wpAnyH_take (i := 3) (oi := ⟨some 32, _, _, _, _, _⟩) (v := ?_) rfl (by kernel_rfl) (by kernel_rfl) (by kernel_rfl) (fun _ _ _ h => h) (Or.inl ⟨by rfl, ?_⟩) hHeld ?_
          rotate_left 1
          · intro w hSw; go_simp; all_goals with_reducible rfl
          simp only [Act.put, List.setIfInBounds_toArray, List.set_cons_zero, List.set_cons_succ]
          refine wpAnyH_take (i := 4) (oi := ⟨some 33, _, _, _, _, _⟩) (v := ?_) rfl (by kernel_rfl) (by kernel_rfl) (by kernel_rfl) (fun _ _ _ h => h) (Or.inl ⟨by rfl, ?_⟩) hHeld ?_
          rotate_left 1
          · intro w hSw; go_simp; all_goals with_reducible rfl
          simp only [Act.put, List.setIfInBounds_toArray, List.set_cons_zero, List.set_cons_succ]
          refine wpAnyH_take (i := 5) (oi := ⟨some 34, _, _, _, _, _⟩) (v := ?_) rfl (by kernel_rfl) (by kernel_rfl) (by kernel_rfl) (fun _ _ _ h => h) (Or.inl ⟨by rfl, ?_⟩) hHeld ?_
          rotate_left 1
          · intro w hSw; go_simp; all_goals with_reducible rfl
          simp only [Act.put, List.setIfInBounds_toArray, List.set_cons_zero, List.set_cons_succ]
          refine wpAnyH_take (i := 6) (oi := ⟨some 35, _, _, _, _, _⟩) (v := ?_) rfl (by kernel_rfl) (by kernel_rfl) (by kernel_rfl) (fun _ _ _ h => h) (Or.inl ⟨by rfl, ?_⟩) hHeld ?_
          rotate_left 1
          · intro w hSw; go_simp; all_goals with_reducible rfl
          simp only [Act.put, List.setIfInBounds_toArray, List.set_cons_zero, List.set_cons_succ]
          refine wpAnyH_take (i := 7) (oi := ⟨some 36, _, _, _, _, _⟩) (v := ?_) rfl (by kernel_rfl) (by kernel_rfl) (by kernel_rfl) (fun _ _ _ h => h) (Or.inl ⟨by rfl, ?_⟩) hHeld ?_
          rotate_left 1
          · intro w hSw; go_simp; all_goals with_reducible rfl
          simp only [Act.put, List.setIfInBounds_toArray, List.set_cons_zero, List.set_cons_succ]
          refine wpAnyH_take (i := 8) (oi := ⟨some 37, _, _, _, _, _⟩) (v := ?_) rfl (by kernel_rfl) (by kernel_rfl) (by kernel_rfl) (fun _ _ _ h => h) (Or.inl ⟨by rfl, ?_⟩) hHeld ?_
          rotate_left 1
          · intro w hSw; go_simp; all_goals with_reducible rfl
          simp only [Act.put, List.setIfInBounds_toArray, List.set_cons_zero, List.set_cons_succ]
          refine wpAnyH_take (i := 9) (oi := ⟨some 38, _, _, _, _, _⟩) (v := ?_) rfl (by kernel_rfl) (by kernel_rfl) (by kernel_rfl) (fun _ _ _ h => h) (Or.inl ⟨by rfl, ?_⟩) hHeld ?_
          rotate_left 1
          · intro w hSw; go_simp; all_goals with_reducible rfl
          simp only [Act.put, List.setIfInBounds_toArray, List.set_cons_zero, List.set_cons_succ]
          refine wpAnyH_take (i := 10) (oi := ⟨some 39, _, _, _, _, _⟩) (v := ?_) rfl (by kernel_rfl) (by kernel_rfl) (by kernel_rfl) (fun _ _ _ h => h) (Or.inl ⟨by rfl, ?_⟩) hHeld ?_
          rotate_left 1
          · intro w hSw; go_simp; all_goals with_reducible rfl
          simp only [Act.put, List.setIfInBounds_toArray, List.set_cons_zero, List.set_cons_succ]
          refine wpAnyH_take (i := 11) (oi := ⟨some 40, _, _, _, _, _⟩) (v := ?_) rfl (by kernel_rfl) (by kernel_rfl) (by kernel_rfl) (fun _ _ _ h => h) (Or.inl ⟨by rfl, ?_⟩) hHeld ?_
          rotate_left 1
          · intro w hSw; go_simp; all_goals with_reducible rfl
          simp only [Act.put, List.setIfInBounds_toArray, List.set_cons_zero, List.set_cons_succ]
          refine wpAnyH_take (i := 12) (oi := ⟨some 41, _, _, _, _, _⟩) (v := ?_) rfl (by kernel_rfl) (by kernel_rfl) (by kernel_rfl) (fun _ _ _ h => h) (Or.inl ⟨by rfl, ?_⟩) hHeld ?_
          rotate_left 1
          · intro w hSw; go_simp; all_goals with_reducible rfl
          simp only [Act.put, List.setIfInBounds_toArray, List.set_cons_zero, List.set_cons_succ]
          refine wpAnyH_take (i := 13) (oi := ⟨some 42, _, _, _, _, _⟩) (v := ?_) rfl (by kernel_rfl) (by kernel_rfl) (by kernel_rfl) (fun _ _ _ h => h) (Or.inl ⟨by rfl, ?_⟩) hHeld ?_
          rotate_left 1
          · intro w hSw; go_simp; all_goals with_reducible rfl
          simp only [Act.put, List.setIfInBounds_toArray, List.set_cons_zero, List.set_cons_succ]
          refine wpAnyH_take (i := 14) (oi := ⟨some 43, _, _, _, _, _⟩) (v := ?_) rfl (by kernel_rfl) (by kernel_rfl) (by kernel_rfl) (fun _ _ _ h => h) (Or.inl ⟨by rfl, ?_⟩) hHeld ?_
          rotate_left 1
          · intro w hSw; go_simp; all_goals with_reducible rfl
          simp only [Act.put, List.setIfInBounds_toArray, List.set_cons_zero, List.set_cons_succ]
          refine wpAnyH_take (i := 15) (oi := ⟨some 44, _, _, _, _, _⟩) (v := ?_) rfl (by kernel_rfl) (by kernel_rfl) (by kernel_rfl) (fun _ _ _ h => h) (Or.inl ⟨by rfl, ?_⟩) hHeld ?_
          rotate_left 1
          · intro w hSw; go_simp; all_goals with_reducible rfl
          simp only [Act.put, List.setIfInBounds_toArray, List.set_cons_zero, List.set_cons_succ]
          refine wpAnyH_take (i := 16) (oi := ⟨some 45, _, _, _, _, _⟩) (v := ?_) rfl (by kernel_rfl) (by kernel_rfl) (by kernel_rfl) (fun _ _ _ h => h) (Or.inl ⟨by rfl, ?_⟩) hHeld ?_
          rotate_left 1
          · intro w hSw; go_simp; all_goals with_reducible rfl
          simp only [Act.put, List.setIfInBounds_toArray, List.set_cons_zero, List.set_cons_succ]
          refine wpAnyH_take (i := 17) (oi := ⟨some 46, _, _, _, _, _⟩) (v := ?_) rfl (by kernel_rfl) (by kernel_rfl) (by kernel_rfl) (fun _ _ _ h => h) (Or.inl ⟨by rfl, ?_⟩) hHeld ?_
          rotate_left 1
          · intro w hSw; go_simp; all_goals with_reducible rfl
          simp only [Act.put, List.setIfInBounds_toArray, List.set_cons_zero, List.set_cons_succ]
          refine wpAnyH_take (i := 18) (oi := ⟨some 47, _, _, _, _, _⟩) (v := ?_) rfl (by kernel_rfl) (by kernel_rfl) (by kernel_rfl) (fun _ _ _ h => h) (Or.inl ⟨by rfl, ?_⟩) hHeld ?_
          rotate_left 1
          · intro w hSw; go_simp; all_goals with_reducible rfl
          simp only [Act.put, List.setIfInBounds_toArray, List.set_cons_zero, List.set_cons_succ]
          refine wpAnyH_take (i := 19) (oi := ⟨some 48, _, _, _, _, _⟩) (v := ?_) rfl (by kernel_rfl) (by kernel_rfl) (by kernel_rfl) (fun _ _ _ h => h) (Or.inl ⟨by rfl, ?_⟩) hHeld ?_
          rotate_left 1
          · intro w hSw; go_simp; all_goals with_reducible rfl
          simp only [Act.put, List.setIfInBounds_toArray, List.set_cons_zero, List.set_cons_succ]
          refine wpAnyH_take (i := 20) (oi := ⟨some 49, _, _, _, _, _⟩) (v := ?_) rfl (by kernel_rfl) (by kernel_rfl) (by kernel_rfl) (fun _ _ _ h => h) (Or.inl ⟨by rfl, ?_⟩) hHeld ?_
          rotate_left 1
          · intro w hSw; go_simp; all_goals with_reducible rfl
          simp only [Act.put, List.setIfInBounds_toArray, List.set_cons_zero, List.set_cons_succ]
          refine wpAnyH_take (i := 21) (oi := ⟨some 50, _, _, _, _, _⟩) (v := ?_) rfl (by kernel_rfl) (by kernel_rfl) (by kernel_rfl) (fun _ _ _ h => h) (Or.inl ⟨by rfl, ?_⟩) hHeld ?_
          rotate_left 1
          · intro w hSw; go_simp; all_goals with_reducible rfl
          simp only [Act.put, List.setIfInBounds_toArray, List.set_cons_zero, List.set_cons_succ]
          refine wpAnyH_take (i := 22) (oi := ⟨some 51, _, _, _, _, _⟩) (v := ?_) rfl (by kernel_rfl) (by kernel_rfl) (by kernel_rfl) (fun _ _ _ h => h) (Or.inl ⟨by rfl, ?_⟩) hHeld ?_
          rotate_left 1
          · intro w hSw; go_simp; all_goals with_reducible rfl
          simp only [Act.put, List.setIfInBounds_toArray, List.set_cons_zero, List.set_cons_succ]
          refine wpAnyH_take (i := 23) (oi := ⟨some 52, _, _, _, _, _⟩) (v := ?_) rfl (by kernel_rfl) (by kernel_rfl) (by kernel_rfl) (fun _ _ _ h => h) (Or.inl ⟨by rfl, ?_⟩) hHeld ?_
          rotate_left 1
          · intro w hSw; go_simp; all_goals with_reducible rfl
          simp only [Act.put, List.setIfInBounds_toArray, List.set_cons_zero, List.set_cons_succ]
          refine wpAnyH_ready (rs := [24]) (by kernel_rfl) (by simp) ?_
          refine AllReadyH.cons (o := ⟨some 53, _, _, _, _, _⟩) rfl (fun K hK => ?_) AllReadyH.nil
          go_simp
          refine hK.out _ _ (below_cell ((Below.refl _ _).alloc (Nat.le_refl _) _) cn) (fun hHeld2 => ?_)
          clear hK K
          try simp only [Act.put, List.setIfInBounds_toArray, List.set_cons_zero, List.set_cons_succ]
          refine wpAnyH_ready (rs := [25]) (by kernel_rfl) (by simp) ?_
          refine AllReadyH.cons (o := ⟨some 54, _, _, _, _, _⟩) rfl (fun K hK => ?_) AllReadyH.nil
          refine stepN 70 #[.int .u8 (z0.toNat : Int), .int .u8 (z1.toNat : Int), .int .u8 (z2.toNat : Int), .int .u8 (z3.toNat : Int)] h Try.underlying70 info_u8 rfl _ _ (by rfl) (by rfl) (by rfl) (by rfl) rfl (Nat.succ_pos 3) (vals_one [z0, z1, z2, z3]) b2 b1 ?_
          intro gg cap w9 h8 _
          refine hK.out _ _ (HK.out _ h8.tail) (fun hHeld3 => ?_)
          clear hK K
          try simp only [Act.put, List.setIfInBounds_toArray, List.set_cons_zero, List.set_cons_succ]
          refine wpAnyH_take (i := 26) (oi := ⟨some 6, _, _, _, _, _⟩) (v := ?_) rfl (by kernel_rfl) (by kernel_rfl) (by kernel_rfl) (fun _ _ _ h => h) (Or.inl ⟨by rfl, ?_⟩) hHeld3 ?_
          rotate_left 1
          · intro w hSw; go_simp; all_goals with_reducible rfl
          simp only [Act.put, List.setIfInBounds_toArray, List.set_cons_zero, List.set_cons_succ]
          refine wpAnyH_done (by kernel_rfl) ?_ _
          refine NoPanic.normal ?_
          clear hHeld hHeld2 hHeld3 cn HK
          go_wp2
          go_roundw
          case rel =>
            refine ⟨n + 1, _, by omega, by go_num, rfl, ?_⟩
            rw [HX.out, vals_append]
            exact h8
          case measure => simp [intOf]; omega
        · obtain rfl : n = 8 := by omega
          have hfull : (T.list.take 8).flatMap Sh.be4 = Sh.sha s := by rw [HT.out.2]; rfl
          rw [hfull] at h
          have hcv := conv_own (P := Try.prog) 70 9 5 Try.underlying70 Try.underlying5 Try.underlying9 wr 0 v (4 * 8) (Sh.sha s) h.own
          have HH := Lib.hid h.below
          clear h hfull hn
          obtain ⟨Z, hZ⟩ : ∃ Z, Sh.sha s = Z := ⟨_, rfl⟩
          rw [hZ] at hcv
          have HZ := Lib.hid hZ
          clear hZ
          go_wp2
          go_ret
          exact ⟨by rw [HZ.out]; rfl, HH.out⟩
end Go.Proofs.Ytiklfjehhdbhfaa
