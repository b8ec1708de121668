/-
  Sha256Returns: the walk. Conditions: none.
-/
import Derived.Test.YtolgldgabhhmaaaShL
import Derived.Test.YtolgldgabhhmaaaShMath3
namespace Go.Proofs.Ytolgldgabhhmaaa
set_option linter.unusedVariables false
open Go.RowKit

theorem OwnsM.frozen {w : World} {e : TypeId} {size g n cap : Nat} {xs : List Value} (h : OwnsM w e size (.slice (some ⟨g, 0, none⟩) n cap) n xs) (j : Nat) (hj : j < n * size) : w.frozen? ⟨g, j, none⟩ = false := by
  rcases h.2 with ⟨he, _⟩ | ⟨g', cap', cur, fr, he, hg, hc, h1, h2, h3, h4⟩
  · cases he
  · injection he with e1 e2 e3
    injection e1 with e1
    injection e1 with e1
    subst e1 e3
    exact calm_frozen hg hc j (by rw [h3]; exact Nat.lt_of_lt_of_le hj (Nat.mul_le_mul_right _ h1))
set_option maxRecDepth 20000 in
set_option maxHeartbeats 2000000 in
theorem shaReturns_walk (s : Sh.Str) (q x : Nat) (hs : s.length ≤ 9223372036854775807) (hq : q ≤ 255) (hx : x ≤ 255) (w : World) : Calls Try.prog 6 #[.string ⟨s.toArray⟩, .int .u8 (q : Int), .int .u8 (x : Int)] w fun e w' => e = .returned (.bool true) ∧ Below w.heap.size w w' := by
  go_enter Try.func6, Try.ntmps6
  go_wp2_with fail
  refine (awake_sha w).mono ?_
  rintro e w1 ⟨rfl, b1⟩
  by_cases hl : 2000 < s.length
  · have h1 : decide ((s.length : Int) > 2000) = true := by simp; omega
    go_wp2
    go_ret
    exact ⟨rfl, b1⟩
  have h1 : decide ((s.length : Int) > 2000) = false := by simp; omega
  have hdl := Sh.sha_length s
  have k1 := sum_below s (by omega)
  obtain ⟨D, hD⟩ : ∃ D, Sh.sha s = D := ⟨_, rfl⟩
  rw [hD] at hdl k1
  clear hD
  have hxl : (Sh.hex D).length = 64 := by rw [Sh.hex_length, hdl]
  have k2 := hex_spec D (by omega)
  have k3 := parse_spec (Sh.hex D) (by omega)
  rw [parse_good (Sh.good_hex D hdl), Sh.unhex_hex D hdl] at k3
  have hst := St.nil w |>.under b1
  clear b1
  obtain ⟨p, hp⟩ : ∃ p, q % 64 = p := ⟨_, rfl⟩
  have hp64 : p < 64 := by omega
  have e1 : (q : Int).tmod 64 = (p : Int) := by rw [Int.tmod_eq_emod_of_nonneg (by omega)]; omega
  have e2 : (q : Int) % 64 = (p : Int) := by omega
  obtain ⟨X, hX⟩ : ∃ X : UInt8, UInt8.ofNat x = X := ⟨_, rfl⟩
  have hXn : X.toNat = x := by rw [← hX, UInt8.toNat_ofNat']; omega
  have hX0 : x ≠ 0 → X ≠ 0 := fun h h0 => h (by rw [← hXn, h0]; rfl)
  have hturn := fun h0 => Sh.turned D hdl p hp64 X h0
  have hxor : bits .xor .u8 (((Sh.hex D).getD p 0).toNat : Int) (x : Int) = ((((Sh.hex D).getD p 0) ^^^ X).toNat : Int) := by
    have := ((Sh.hex D).getD p 0).toNat_lt
    rw [u8_xor_nat _ _ (by omega) (by omega), UInt8.toNat_xor, hXn]
  obtain ⟨H, hH⟩ : ∃ H, Sh.hex D = H := ⟨_, rfl⟩
  rw [hH] at hxl k2 k3 hturn hxor
  clear hH
  have HT := Lib.hid (And.intro hturn hX0)
  have HL := Lib.hid (And.intro hdl hxl)
  have f1 : ((D.length : Int) != 32) = false := by rw [hdl]; rfl
  have f2 : ((H.length : Int) != 64) = false := by rw [hxl]; rfl
  clear hturn hX0 hX hXn hp hdl hxl hl
  go_wp2_with fail
  refine (k1 _).mono ?_
  rintro e w2 ⟨rfl, b2⟩
  have h2 := hst.under b2
  clear k1 b2 hst
  go_wp2_with fail
  refine (k2 _).mono ?_
  rintro e w3 ⟨rfl, b3⟩
  have h3 := h2.under b3
  clear k2 b3 h2
  go_wp2_with fail
  refine (k3 _).mono ?_
  rintro e w4 ⟨rfl, b4⟩
  have h4 := h3.under b4
  clear k3 b4 h3
  obtain ⟨v5, w5, hr, ⟨c5, hv⟩, h5⟩ := bytes_ownM (P := Try.prog) 9 34 5 Try.underlying9 Try.underlying34 Try.underlying5 h4 H (by rw [HL.out.2]; unfold maxLen; decide)
  subst hv
  generalize w4.heap.size = g at hr h5
  rw [HL.out.2] at hr h5
  have hcell := h5.ownM.cells (g := g) rfl p (.int .u8 ((H.getD p 0).toNat : Int)) (by simp [vals, HL.out.2, hp64, List.getD_eq_getElem?_getD])
  have hfz := h5.ownM.frozen p (by omega)
  have hput := h5.ownM.put p (.int .u8 (((H.getD p 0) ^^^ X).toNat : Int)) (by omega)
  have hvs : (vals H).set p (.int .u8 (((H.getD p 0) ^^^ X).toNat : Int)) = vals (H.set p ((H.getD p 0) ^^^ X)) := by simp [vals, List.map_set]
  rw [hvs] at hput
  generalize (H.getD p 0) = c0 at hxor hcell hput HT hvs
  obtain ⟨y, hy⟩ : ∃ y, c0 ^^^ X = y := ⟨_, rfl⟩
  rw [hy] at hxor hput HT hvs
  clear hy
  obtain ⟨F, r1, r2, r3⟩ := h5.open
  have h6 := r3 (w' := w5.setCell ⟨g, p, none⟩ (.int .u8 (y.toNat : Int))) (F' := F) (ownM 5 1 (.slice (some ⟨g, 0, none⟩) 64 c5) 64 (vals (H.set p y))) ((mod_set w5 g p _).mono (fun i _ e => by subst e; exact r1.2.1 _ rfl)) ⟨hput, r1.2.1, fun k hk => by have := r1.2.2 k hk; simpa [World.setCell] using this⟩ (fun k hk => .inl hk)
  have hcv := conv_ownM (P := Try.prog) 34 9 5 Try.underlying34 Try.underlying5 Try.underlying9 _ _ 64 _ h6.ownM
  have hBl : (H.set p y).length = 64 := by rw [List.length_set]; exact HL.out.2
  obtain ⟨B, hB⟩ : ∃ B, H.set p y = B := ⟨_, rfl⟩
  rw [hB] at h6 hcv hBl HT
  clear hvs hput r1 r2 r3 h4 h5 hB
  have m1 : (p : Int) < 64 := by omega
  have m2 : (0 : Int) ≤ (p : Int) := by omega
  have k6 := parse_spec B (by omega)
  have H6 := Lib.hid h6
  have HB := Lib.hid hBl
  clear h6 hBl
  by_cases hg : Sh.good B = true
  · rw [parse_good hg] at k6
    have hul : (Sh.unhex B 32).length = 32 := Sh.unhex_length _ _
    have hne : x ≠ 0 → Sh.unhex B 32 ≠ D := fun h => HT.out.1 (HT.out.2 h) hg
    obtain ⟨Y, hY⟩ : ∃ Y, Sh.unhex B 32 = Y := ⟨_, rfl⟩
    rw [hY] at k6 hul hne
    clear hY hg HT
    go_wp2_with fail
    refine (k6 _).mono ?_
    rintro e w7 ⟨rfl, b7⟩
    have h7 := H6.out.under b7
    clear k6 b7 hcv hr hcell hfz hxor
    have g1 : ((Y.length : Int) == 32) = true := by rw [hul]; rfl
    by_cases h0 : x = 0
    · subst h0
      have HE := Lib.hid hul
      clear hul hne
      go_wp2
      go_ret
      exact ⟨rfl, h7.below⟩
    · have g2 : ((x : Int) == 0) = false := by rw [beq_eq_false_iff_ne]; omega
      have g3 := hne h0
      have g4 : (Y == D) = false := beq_eq_false_iff_ne.2 g3
      have HE := Lib.hid hul
      clear hul hne
      go_wp2
      go_ret
      exact ⟨rfl, h7.below⟩
  · rw [parse_bad (by simpa using hg)] at k6
    clear hg HT
    go_wp2_with fail
    refine (k6 _).mono ?_
    rintro e w7 ⟨rfl, b7⟩
    have h7 := H6.out.under b7
    clear k6 b7 hcv hr hcell hfz hxor
    by_cases h0 : x = 0
    · subst h0
      go_wp2
      go_ret
      exact ⟨rfl, h7.below⟩
    · have g2 : ((x : Int) == 0) = false := by rw [beq_eq_false_iff_ne]; omega
      go_wp2
      go_ret
      exact ⟨rfl, h7.below⟩
end Go.Proofs.Ytolgldgabhhmaaa
