/-
  Digits read, in the program and in the reference. Conditions: at most 2^30 bytes.
-/
import Derived.Test.YtolgldgabhhmaaaShY
import Derived.Lib.Walk
namespace Go.Proofs.Ytolgldgabhhmaaa
set_option linter.unusedVariables false
open Go.RowKit

def parseR (s : Sh.Str) : Value := if Sh.good s then .tuple #[.string ⟨(Sh.unhex s 32).toArray⟩, .int .i64 0] else .tuple #[.string .empty, .int .i64 3]
theorem parse_good {s : Sh.Str} (h : Sh.good s = true) : parseR s = .tuple #[.string ⟨(Sh.unhex s 32).toArray⟩, .int .i64 0] := by unfold parseR; rw [if_pos h]
theorem parse_bad {s : Sh.Str} (h : Sh.good s = false) : parseR s = .tuple #[.string .empty, .int .i64 3] := by unfold parseR; rw [if_neg (by simp [h])]
set_option maxHeartbeats 1000000 in
set_option maxRecDepth 100000 in
theorem liteix_spec (s : ByteArray) (c : Int) (w : World) : Calls Try.prog 42 #[.string s, .int .u8 c] w fun e w' => e = .returned (.int .i64 (Lib.indexByte s.data.toList c.toNat.toUInt8)) ∧ w' = w := by
  go_enter Try.func42, Try.ntmps42
  go_wp2
  rw [run_callFunc_extern Try.func53 (by kernel_rfl) (by kernel_rfl) (by kernel_rfl) (e := Extern.BytealgIndexByte.indexByte) (by kernel_rfl), Lib.run_indexByteString]
  simp only [Result.andThen]
  rw [Oper.upon_value]
  go_wp2
  go_ret
  exact ⟨rfl, rfl⟩
theorem ixbyte_spec (c : UInt8) (w : World) : Calls Try.prog 32 #[.string ⟨#[48, 49, 50, 51, 52, 53, 54, 55, 56, 57, 97, 98, 99, 100, 101, 102]⟩, .int .u8 (c.toNat : Int)] w fun e w' => e = .returned (.int .i64 (Sh.dig c)) ∧ w = w' := by
  have hx := liteix_spec ⟨#[48, 49, 50, 51, 52, 53, 54, 55, 56, 57, 97, 98, 99, 100, 101, 102]⟩ (c.toNat : Int) w
  have hd : Lib.indexByte (⟨#[48, 49, 50, 51, 52, 53, 54, 55, 56, 57, 97, 98, 99, 100, 101, 102]⟩ : ByteArray).data.toList (c.toNat : Int).toNat.toUInt8 = Sh.dig c := by
    unfold Sh.dig Sh.digs
    congr 1
    simp
  rw [hd] at hx
  clear hd
  generalize Sh.dig c = d at hx ⊢
  go_enter Try.func32, Try.ntmps32
  go_wp2_with fail
  refine hx.mono ?_
  rintro e w' ⟨rfl, rfl⟩
  go_wp2
  go_ret
  exact ⟨rfl, rfl⟩
theorem rdigit_spec (c : UInt8) (w : World) : Calls Try.prog 33 #[.int .u8 (c.toNat : Int)] w fun e w' => e = .returned (.int .i64 (Sh.dig c)) ∧ w' = w := by
  have hd := Sh.dig_eq c
  unfold Sh.dig' at hd
  have hc := c.toNat_lt
  generalize c.toNat = n at hd hc
  by_cases h1 : 48 ≤ n ∧ n ≤ 57
  · rw [if_pos h1] at hd
    obtain ⟨a, b⟩ := h1
    have f1 : decide ((n : Int) ≥ 48) = true := by simp; omega
    have f2 : decide ((n : Int) ≤ 57) = true := by simp; omega
    have f3 : IntKind.u8.wrap ((n : Int) - 48) = (n : Int) - 48 := by rw [IntKind.wrap_u8]; omega
    have HD := Lib.hid hd
    clear hd
    go_enter Try.func33, Try.ntmps33
    go_wp2
    go_ret
    exact ⟨by rw [HD.out]; rfl, rfl⟩
  · rw [if_neg h1] at hd
    by_cases h2 : 97 ≤ n ∧ n ≤ 102
    · rw [if_pos h2] at hd
      obtain ⟨a, b⟩ := h2
      have f1 : decide ((n : Int) ≥ 48) = true := by simp; omega
      have f2 : decide ((n : Int) ≤ 57) = false := by simp; omega
      have f3 : IntKind.u8.wrap ((n : Int) - 97) = (n : Int) - 97 := by rw [IntKind.wrap_u8]; omega
      have f4 : decide ((n : Int) ≥ 97) = true := by simp; omega
      have f5 : decide ((n : Int) ≤ 102) = true := by simp; omega
      have HD := Lib.hid hd
      clear hd h1
      go_enter Try.func33, Try.ntmps33
      go_wp2
      go_ret
      exact ⟨by rw [HD.out]; rfl, rfl⟩
    · rw [if_neg h2] at hd
      have HD := Lib.hid hd
      clear hd
      have H12 := Lib.hid (And.intro h1 h2)
      clear h1 h2
      go_enter Try.func33, Try.ntmps33
      by_cases g1 : 48 ≤ n
      · have f1 : decide ((n : Int) ≥ 48) = true := by simp; omega
        have g2 : 57 < n := by have := H12.out.1; omega
        have f2 : decide ((n : Int) ≤ 57) = false := by simp; omega
        by_cases g3 : 97 ≤ n
        · have f3 : decide ((n : Int) ≥ 97) = true := by simp; omega
          have f4 : decide ((n : Int) ≤ 102) = false := by have := H12.out.2; simp; omega
          go_wp2
          go_ret
          exact ⟨by rw [HD.out]; rfl, rfl⟩
        · have f3 : decide ((n : Int) ≥ 97) = false := by simp; omega
          go_wp2
          go_ret
          exact ⟨by rw [HD.out]; rfl, rfl⟩
      · have f1 : decide ((n : Int) ≥ 48) = false := by simp; omega
        have f3 : decide ((n : Int) ≥ 97) = false := by simp; omega
        go_wp2
        go_ret
        exact ⟨by rw [HD.out]; rfl, rfl⟩
set_option maxRecDepth 20000 in
set_option maxHeartbeats 2000000 in
theorem rparse_spec (s : Sh.Str) (hs : s.length ≤ 1073741824) (w : World) : Calls Try.prog 17 #[.string ⟨s.toArray⟩] w fun e w' => e = .returned (parseR s) ∧ Below w.heap.size w w' := by
  by_cases hl : s.length = 64
  · have f1 : ((s.length : Int) != 64) = false := by rw [hl]; rfl
    have f2 : ((s.length : Int) == 64) = true := by rw [hl]; rfl
    have h1 : St w.heap.size w (w.alloc (.cells #[] 5)) (ownR 5 1 (.slice (some ⟨w.heap.size, 0, none⟩) 0 0) 0 (vals []) :: []) := (St.nil w).new_own ((Below.refl _ w).alloc (Nat.le_refl _) _) (World.ownsRow_lit w #[] 0 (Nat.le_refl _) (by decide) rfl)
    have HL := Lib.hid hl
    clear hl
    go_enter Try.func17, Try.ntmps17
    go_wp2
    generalize w.alloc (.cells #[] 5) = W at h1 ⊢
    go_loopw [4, 5] (fun v i wr => ∃ (k : Nat) (v' : Value), k ≤ 32 ∧ i = .int .i64 (2 * (k : Int)) ∧ v' = v ∧ (∀ j, j < 2 * k → 0 ≤ Sh.dig (s.getD j 0)) ∧ St w.heap.size w wr (ownR 5 1 v' k (vals (Sh.unhex s k)) :: [])) (fun _ i _ => (64 - intOf i).toNat)
    case atStart => exact ⟨0, _, by omega, rfl, rfl, fun j hj => by omega, h1⟩
    case round =>
      clear h1
      obtain ⟨k, v, hk, hi, rfl, hall, h⟩ := hrel
      have HA := Lib.hid hall
      clear hall
      by_cases hlt : k < 32
      · subst hi
        have hl4 : 2 * (k : Int) < 64 := by omega
        have ha0 : (0 : Int) ≤ 2 * (k : Int) := by omega
        have hb0 : 2 * (k : Int) < (s.length : Int) := by rw [HL.out]; omega
        have hc0 : (2 * (k : Int)).toNat = 2 * k := by omega
        have hd0 : 2 * k < s.length := by rw [HL.out]; omega
        have ha1 : (0 : Int) ≤ 2 * (k : Int) + 1 := by omega
        have hb1 : 2 * (k : Int) + 1 < (s.length : Int) := by rw [HL.out]; omega
        have hc1 : (2 * (k : Int) + 1).toNat = 2 * k + 1 := by omega
        have hd1 : 2 * k + 1 < s.length := by rw [HL.out]; omega
        have w1 : IntKind.i64.wrap (2 * (k : Int) + 1) = 2 * (k : Int) + 1 := by rw [IntWalk.i64_left, IntWalk.wrap64_in _ (by omega)]
        obtain ⟨x0, hx0⟩ : ∃ x, s.getD (2 * k) 0 = x := ⟨_, rfl⟩
        obtain ⟨x1, hx1⟩ : ∃ x, s.getD (2 * k + 1) 0 = x := ⟨_, rfl⟩
        have t0 : ∀ hh, (⟨s.toArray⟩ : ByteArray)[2 * k]'hh = x0 := fun hh => by
          rw [← hx0, List.getD_eq_getElem?_getD, List.getElem?_eq_getElem hd0]; rfl
        have t1 : ∀ hh, (⟨s.toArray⟩ : ByteArray)[2 * k + 1]'hh = x1 := fun hh => by
          rw [← hx1, List.getD_eq_getElem?_getD, List.getElem?_eq_getElem hd1]; rfl
        have hby : Sh.byteOf s k = UInt8.ofNat (16 * (Sh.dig x0).toNat + (Sh.dig x1).toNat) := by unfold Sh.byteOf; rw [hx0, hx1]
        have k0 := rdigit_spec x0
        have k1 := rdigit_spec x1
        obtain ⟨bl0, bu0⟩ := Sh.dig_bounds x0
        obtain ⟨bl1, bu1⟩ := Sh.dig_bounds x1
        have HX := Lib.hid (And.intro hx0 (And.intro hx1 hby))
        clear hx0 hx1 hby
        obtain ⟨d0, hd0'⟩ : ∃ d, Sh.dig x0 = d := ⟨_, rfl⟩
        obtain ⟨d1, hd1'⟩ : ∃ d, Sh.dig x1 = d := ⟨_, rfl⟩
        rw [hd0'] at k0 bl0 bu0
        rw [hd1'] at k1 bl1 bu1
        have HD := Lib.hid (And.intro hd0' hd1')
        clear hd0' hd1'
        have q1 : (k + 1) * 1 ≤ 140737488355328 := by omega
        have q2 : k + 1 ≤ maxLen := by unfold maxLen; omega
        have hbad : d0 < 0 ∨ d1 < 0 → Sh.good s = false := fun hb => by
          rcases hb with hb | hb
          · exact Sh.bad_at s HL.out (2 * k) (by omega) (by rw [HX.out.1, HD.out.1]; exact hb)
          · exact Sh.bad_at s HL.out (2 * k + 1) (by omega) (by rw [HX.out.2.1, HD.out.2]; exact hb)
        have HB := Lib.hid hbad
        clear hbad
        go_wp2_with fail
        go_quiet (first
          | (go_at_call 33; first | with_reducible exact Calls.quiet_of_same (k0 _) | with_reducible exact Calls.quiet_of_same (k1 _)))
        clear k0 k1 t0 t1 w1 ha0 hb0 hc0 hd0 ha1 hb1 hc1 hd1
        by_cases e0 : d0 < 0
        · have g0 : decide (d0 < 0) = true := by simp; exact e0
          have HQ := Lib.hid (h.drewN nq).below
          clear h
          go_wp2
          go_ret2
          exact ⟨by rw [parse_bad (HB.out (.inl e0))]; rfl, HQ.out⟩
        · have g0 : decide (d0 < 0) = false := by simp; omega
          by_cases e1 : d1 < 0
          · have g1 : decide (d1 < 0) = true := by simp; exact e1
            have HQ := Lib.hid (h.drewN nq).below
            clear h
            go_wp2
            go_ret2
            exact ⟨by rw [parse_bad (HB.out (.inr e1))]; rfl, HQ.out⟩
          · have g1 : decide (d1 < 0) = false := by simp; omega
            have hy : IntKind.u8.wrap (16 * d0 + d1) = ((UInt8.ofNat (16 * d0.toNat + d1.toNat)).toNat : Int) := by rw [UInt8.toNat_ofNat', IntKind.wrap_u8]; omega
            have hnx : Sh.unhex s (k + 1) = Sh.unhex s k ++ [UInt8.ofNat (16 * d0.toNat + d1.toNat)] := by rw [Sh.unhex_succ, HX.out.2.2, HD.out.1, HD.out.2]
            generalize UInt8.ofNat (16 * d0.toNat + d1.toNat) = y at hy hnx
            have HN := Lib.hid hnx
            clear hnx
            have h' := h.drewN nq
            clear h
            generalize wr.drewN nq = W2 at h' ⊢
            go_wp2_with (at_builtin; go_must (refine appendO 34 (u := .int .u8 (y.toNat : Int)) h' Try.underlying34 info_u8 rfl rfl _ _ rfl rfl rfl rfl q2 q1 (fun v2 w5 h8 => ?_)))
            go_roundw
            case rel =>
              refine ⟨k + 1, v2, by omega, by congr 1 <;> omega, rfl, fun j hj => ?_, ?_⟩
              · by_cases c0 : j < 2 * k
                · exact HA.out j c0
                · by_cases c1 : j = 2 * k
                  · rw [c1, HX.out.1, HD.out.1]; omega
                  · have c2 : j = 2 * k + 1 := by omega
                    rw [c2, HX.out.2.1, HD.out.2]; omega
              · rw [HN.out, vals_append]
                exact h8
            case measure => simp [intOf]; omega
      · obtain rfl : k = 32 := by omega
        have hi2 := hi.trans (show Value.int .i64 (2 * ((32 : Nat) : Int)) = .int .i64 64 from rfl)
        subst hi2
        clear hi
        have hg := Sh.good_of s HL.out HA.out
        have hcv := conv_own (P := Try.prog) 34 9 5 Try.underlying34 Try.underlying5 Try.underlying9 wr 0 v 32 (Sh.unhex s 32) h.own
        have HH := Lib.hid (And.intro h.below hg)
        clear h hg
        obtain ⟨Z, hZ⟩ : ∃ Z, Sh.unhex s 32 = Z := ⟨_, rfl⟩
        rw [hZ] at hcv
        have HZ := Lib.hid hZ
        clear hZ
        go_wp2
        go_ret2
        exact ⟨by rw [parse_good HH.out.2, HZ.out]; rfl, HH.out.1⟩
  · have f1 : ((s.length : Int) != 64) = true := by simp; omega
    have f2 : ((s.length : Int) == 64) = false := by rw [beq_eq_false_iff_ne]; omega
    have HB := Lib.hid (Sh.bad_len s hl)
    clear hl
    go_enter Try.func17, Try.ntmps17
    go_wp2
    go_ret2
    exact ⟨by rw [parse_bad HB.out]; rfl, Below.refl _ _⟩
end Go.Proofs.Ytolgldgabhhmaaa
