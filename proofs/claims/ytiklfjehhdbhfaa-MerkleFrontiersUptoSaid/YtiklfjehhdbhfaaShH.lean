/-
  (*Hash).Sum of the program's SHA-256. Conditions: at most 2^39 bytes.
-/
import Derived.Test.YtiklfjehhdbhfaaShG
import Derived.Test.YtiklfjehhdbhfaaRepeat
import Derived.Deep.RegionHeld3
namespace Go.Proofs.Ytiklfjehhdbhfaa
set_option linter.unusedVariables false
open Go.RowKit

theorem new_row (w : World) (cs : Array Value) (t : TypeId) : ∀ j u, cs.toList[j]? = some u → (w.alloc (.cells cs t)).cell? ((⟨w.heap.size, 0, none⟩ : Addr).add j) = some u := by
  intro j u h
  rw [Addr.add_lit, (Blk.new w t cs).cell, Nat.zero_add]
  simpa using h
theorem vals_one (l : List UInt8) : ∀ u ∈ vals l, u.oneCell' = true := by
  intro u hu
  simp only [vals, List.mem_map] at hu
  obtain ⟨x, _, rfl⟩ := hu
  rfl
theorem info_u8 : (Try.prog.info? 5).map (fun i => (i.zero, i.size, i.bytes)) = some (some (.int .u8 0), 1, 1) := by kernel_rfl
set_option maxRecDepth 20000 in
set_option maxHeartbeats 4000000 in
theorem hsum_spec {lo : Nat} {w0 w : World} {Rs : List Res} {g : Nat} (m : Sh.Str) (h : St lo w0 w (msgR g m :: Rs)) (hm : m.length ≤ 549755813888) :
    Calls Try.prog 65 #[.pointer (some ⟨g, 0, none⟩)] w fun e w' => e = .returned (.string ⟨(Sh.sha m).toArray⟩) ∧ St lo w0 w' (msgR g m :: Rs) := by
  have hz0 : (m.drop (64 * (m.length / 64))).length = m.length % 64 := by rw [List.length_drop]; omega
  have hz1 : (119 : Int) - ((m.drop (64 * (m.length / 64))).length : Int) = ((119 - m.length % 64 : Nat) : Int) := by rw [hz0]; omega
  have hz2 : (((119 - m.length % 64 : Nat)) : Int).tmod 64 = ((Sh.zeros m.length : Nat) : Int) := by rw [Int.tmod_eq_emod_of_nonneg (by omega)]; unfold Sh.zeros; omega
  have hz3 : (((119 - m.length % 64 : Nat)) : Int) % 64 = ((Sh.zeros m.length : Nat) : Int) := by unfold Sh.zeros; omega
  have hzz : Sh.zeros m.length ≤ 63 := by unfold Sh.zeros; omega
  have hp8 : IntKind.u64.wrap (8 * (m.length : Int)) = ((8 * m.length : Nat) : Int) := by rw [IntKind.wrap_u64]; omega
  have hpad : Sh.pad m = m ++ ([128] ++ List.replicate (Sh.zeros m.length) 0 ++ Sh.be8 (8 * m.length)) := by simp [Sh.pad]
  have hpl : (m ++ ([128] ++ List.replicate (Sh.zeros m.length) 0 ++ Sh.be8 (8 * m.length))).length ≤ 1099511627776 := by rw [← hpad, Sh.pad_length]; omega
  have HP := Lib.hid (And.intro hpad (And.intro hpl hzz))
  go_enter Try.func65, Try.ntmps65
  go_wp2_with fail
  refine (clone_hash h).mono ?_
  rintro e w1 ⟨c, rfl, h1⟩
  clear h
  obtain ⟨_, _, _, _, _, _, _, _, q8, _⟩ := hash_cells h1.blk
  obtain ⟨_, _, _, _, _, _, _, _, _, q9⟩ := hash_cells (h1.front 1 (by simp)).blk
  obtain ⟨D, hD⟩ : ∃ D, m.drop (64 * (m.length / 64)) = D := ⟨_, rfl⟩
  obtain ⟨z, hz⟩ : ∃ z, Sh.zeros m.length = z := ⟨_, rfl⟩
  obtain ⟨y, hy⟩ : ∃ y, 119 - m.length % 64 = y := ⟨_, rfl⟩
  rw [hD] at q8 hz1
  rw [hy] at hz1 hz2 hz3
  rw [hz] at hz2 hz3
  have hy1 : y ≤ 119 := by omega
  have HZ := Lib.hid (And.intro hz hD)
  clear hz0 hpad hpl hz hy hzz hD
  replace h1 : St lo w0 w1 (msgR c m :: msgR g m :: Rs) := h1
  have k1 : ∀ X, Calls Try.prog 78 #[.string ⟨#[0]⟩, .int .i64 (z : Int)] X fun e w' => e = .returned (.string ⟨(List.replicate z (0 : UInt8)).toArray⟩) ∧ Below X.heap.size X w' := fun X => repeat_one 0 z X (by have := HP.out.2.2; rw [HZ.out.1] at this; omega)
  have k2 : ∀ X, Calls Try.prog 79 #[.int .u64 (8 * (m.length : Int))] X fun e w' => e = .returned (.string ⟨(Sh.be8 (8 * m.length)).toArray⟩) ∧ Below X.heap.size X w' := fun X => by
    have := number_spec (8 * m.length) (by omega) X
    rwa [show ((8 * m.length : Nat) : Int) = 8 * (m.length : Int) from by omega] at this
  have hR : (List.replicate z (0 : UInt8)).length ≤ 63 := by rw [List.length_replicate]; have := HP.out.2.2; rw [HZ.out.1] at this; exact this
  have hB : (Sh.be8 (8 * m.length)).length ≤ 8 := Nat.le_refl _
  have hP := HP.out.1
  have hPl := HP.out.2.1
  rw [HZ.out.1] at hP hPl
  generalize List.replicate z (0 : UInt8) = R at k1 hR hP hPl
  generalize Sh.be8 (8 * m.length) = B8 at k2 hB hP hPl
  have hb1 := bytes_append [128] R
  have hb2 := bytes_append ([128] ++ R) B8
  have hP1 : ([128] ++ R).length ≤ 64 := by rw [List.length_append]; simp; omega
  generalize ([128] ++ R) = P1 at hb1 hb2 hP hPl hP1
  obtain ⟨P, hPP⟩ : ∃ P, P1 ++ B8 = P := ⟨_, rfl⟩
  rw [hPP] at hb2 hP hPl
  have HPP := Lib.hid (And.intro hP hPl)
  clear hP hPl hPP
  have kS : w1.drew.cell? ⟨g, 9, none⟩ = some (.int .u64 (m.length : Int)) := q9
  have h2 := h1.drew
  have n1 : 1 + R.length ≤ 9223372036854775807 := by omega
  have n2 : P1.length + B8.length ≤ 9223372036854775807 := by omega
  have f1 : ¬ ((9223372036854775807 : Int) < 1 + (R.length : Int)) := by omega
  have f2 : ¬ (IntKind.i64.max < 1 + (R.length : Int)) := f1
  have f3 : ¬ (9223372036854775807 < 1 + R.length) := by omega
  have f4 : ¬ ((9223372036854775807 : Int) < (P1.length : Int) + (B8.length : Int)) := by omega
  have f5 : ¬ (IntKind.i64.max < (P1.length : Int) + (B8.length : Int)) := f4
  have f6 : ¬ (9223372036854775807 < P1.length + B8.length) := by omega
  go_wp2_with fail
  go_region_held3 (fun w' => w'.cell? ⟨g, 9, none⟩ = some (.int .u64 (m.length : Int)))
    (first
      | with_reducible exact kS
      | with_reducible exact kS2
      | with_reducible exact kS3
      | with_reducible exact kS4
      | fail)
    (first
      | (with_reducible refine (k1 _).mono ?_
         rintro e w2 ⟨rfl, b2⟩
         have h3 := h2.under b2
         have kS2 : w2.cell? ⟨g, 9, none⟩ = some (.int .u64 (m.length : Int)) := below_cell b2 kS)
      | (with_reducible refine (k2 _).mono ?_
         rintro e w3 ⟨rfl, b3⟩
         have h4 := h3.under b3
         have kS3 : w3.cell? ⟨g, 9, none⟩ = some (.int .u64 (m.length : Int)) := below_cell b3 kS2)
      | (with_reducible refine (hwrite_spec m P h4 HPP.out.2).mono ?_
         rintro e w4 ⟨rfl, h5⟩
         have kS4 : w4.cell? ⟨g, 9, none⟩ = some (.int .u64 (m.length : Int)) := (hash_cells (h5.front 1 (by simp)).blk).2.2.2.2.2.2.2.2.2)
      | fail)
  all_goals
    rw [← HPP.out.1] at h5
    unfold msgR at h5
    have hW : Sh.out (Sh.blocks Sh.iv (Sh.pad m) ((Sh.pad m).length / 64)) = Sh.sha m := rfl
    obtain ⟨T, hT⟩ : ∃ T, Sh.blocks Sh.iv (Sh.pad m) ((Sh.pad m).length / 64) = T := ⟨_, rfl⟩
    have hTok : T.Ok := by rw [← hT]; exact Sh.blocks_ok Sh.iv_ok _ _
    rw [hT] at h5 hW
    have HT := Lib.hid (And.intro hTok hW)
    obtain ⟨q0, q1, q2, q3, q4, q5, q6, q7, _⟩ := hash_cells h5.blk
    have h6 := h5.tail
    clear h1 h2 h3 h4 h5 kS kS2 kS3 kS4 hT hTok hW q8 q9 k1 k2 hb1 hb2 hR hB hP1 n1 n2 f1 f2 f3 f4 f5 f6
    replace h6 : St lo w0 w4 (msgR g m :: Rs) := h6
    have h7 : St lo w0 w4 (ownR 5 1 (.slice none 0 0) 0 (vals []) :: msgR g m :: Rs) := h6.new_own (Below.refl _ _) (World.ownsRow_nil _ _ _ _)
    clear h6
    go_wp2
    clear q0 q1 q2 q3 q4 q5 q6 q7
    go_loopw [5, 33] (fun v i wr => ∃ (n : Nat) (v' : Value), n ≤ 8 ∧ i = .int .i64 n ∧ v' = v ∧ St lo w0 wr (ownR 5 1 v' (4 * n) (vals ((T.list.take n).flatMap Sh.be4)) :: msgR g m :: Rs)) (fun _ i _ => 8 - (intOf i).toNat)
    case atStart => exact ⟨0, .slice none 0 0, by omega, rfl, rfl, h7⟩
    case round =>
      clear h7
      obtain ⟨n, v, hn, rfl, rfl, h⟩ := hrel
      by_cases hlt : n < 8
      · have hk1 : (n : Int) < 8 := by omega
        have hk0 : (0 : Int) ≤ (n : Int) := by omega
        have hix := run_index8 T n hlt wr
        have hnx : (T.list.take (n + 1)).flatMap Sh.be4 = (T.list.take n).flatMap Sh.be4 ++ Sh.be4 (T.list.getD n 0) := by
          rcases lt8 hlt with rfl | rfl | rfl | rfl | rfl | rfl | rfl | rfl <;> rfl
        have hxl : T.list.getD n 0 < 4294967296 := by
          have hok := HT.out.1
          rcases lt8 hlt with rfl | rfl | rfl | rfl | rfl | rfl | rfl | rfl
          · exact hok.a
          · exact hok.b
          · exact hok.c
          · exact hok.d
          · exact hok.e
          · exact hok.f
          · exact hok.g
          · exact hok.h
        generalize T.list.getD n 0 = x at hix hnx hxl
        have y0 : (x : Int) / 16777216 = ((UInt8.ofNat (x / 16777216)).toNat : Int) := by rw [UInt8.toNat_ofNat']; omega
        have y1 : (x : Int) / 65536 % 256 = ((UInt8.ofNat (x / 65536)).toNat : Int) := by rw [UInt8.toNat_ofNat']; omega
        have y2 : (x : Int) / 256 % 256 = ((UInt8.ofNat (x / 256)).toNat : Int) := by rw [UInt8.toNat_ofNat']; omega
        have y3 : (x : Int) % 256 = ((UInt8.ofNat x).toNat : Int) := by rw [UInt8.toNat_ofNat']; omega
        have hbe : Sh.be4 x = [UInt8.ofNat (x / 16777216), UInt8.ofNat (x / 65536), UInt8.ofNat (x / 256), UInt8.ofNat x] := rfl
        rw [hbe] at hnx
        clear hbe
        generalize UInt8.ofNat (x / 16777216) = z0 at y0 hnx
        generalize UInt8.ofNat (x / 65536) = z1 at y1 hnx
        generalize UInt8.ofNat (x / 256) = z2 at y2 hnx
        generalize UInt8.ofNat x = z3 at y3 hnx
        have HN := Lib.hid hnx
        clear hnx
        have hb1 : (4 * n + 4) * 1 ≤ 140737488355328 := by omega
        have hb2 : 4 * n + 4 ≤ maxLen := by unfold maxLen; omega
        go_wp2_with (at_builtin; go_must (refine appendM 70 (h.alloc0 (.cells #[.int .u8 (z0.toNat : Int), .int .u8 (z1.toNat : Int), .int .u8 (z2.toNat : Int), .int .u8 (z3.toNat : Int)] 5)) Try.underlying70 info_u8 rfl (by decide) rfl _ _ rfl rfl ⟨wr.heap.size, 0, none⟩ 4 4 (vals [z0, z1, z2, z3]) rfl rfl (new_row wr _ _) (vals_one _) hb2 hb1 (fun v2 w5 h8 => ?_)))
        go_roundw
        case rel =>
          refine ⟨n + 1, v2, by omega, by go_num, rfl, ?_⟩
          rw [HN.out, vals_append, Nat.mul_add]
          exact h8
        case measure => simp [intOf]; omega
      · have hd : decide ((n : Int) < 8) = false := by simp; omega
        have hn8 : n = 8 := by omega
        have hfull : (T.list.take n).flatMap Sh.be4 = Sh.sha m := by rw [hn8, ← HT.out.2]; rfl
        rw [hfull] at h
        have hcv := conv_own (P := Try.prog) 70 9 5 Try.underlying70 Try.underlying5 Try.underlying9 wr 0 v (4 * n) (Sh.sha m) h.own
        have HH := Lib.hid h.tail
        clear h hfull hn8
        obtain ⟨Z, hZ⟩ : ∃ Z, Sh.sha m = Z := ⟨_, rfl⟩
        rw [hZ] at hcv
        have HZZ := Lib.hid hZ
        clear hZ
        go_wp2
        go_ret
        exact ⟨by rw [HZZ.out]; rfl, HH.out⟩
end Go.Proofs.Ytiklfjehhdbhfaa
