/-
  The program's Parse. Conditions: at most 2^30 bytes.
-/
import Derived.Test.YtolgldgabhhmaaaShZ
namespace Go.Proofs.Ytolgldgabhhmaaa
set_option linter.unusedVariables false
open Go.RowKit

theorem or_shl (x d : Nat) (hx : x < 16) (hd : d < 16) : bits .or .u8 ((x : Int) * 16) (d : Int) = ((16 * x + d : Nat) : Int) := by
  rw [show (x : Int) * 16 = ((x * 16 : Nat) : Int) from by omega, u8_or_nat _ _ (by omega) (by omega)]
  have := Nat.two_pow_add_eq_or_of_lt (i := 4) (b := d) (by omega) x
  rw [show 2 ^ 4 * x = x * 16 by omega] at this
  rw [← this]
  congr 1
  omega
theorem vals_cell (l : List UInt8) (j : Nat) (h : j < l.length) : (vals l).toArray[j]? = some (.int .u8 ((l.getD j 0).toNat : Int)) := by
  simp [vals, List.getD_eq_getElem?_getD, h]
theorem vals_set (l : List UInt8) (j : Nat) (y : UInt8) : (vals l).toArray.setIfInBounds j (.int .u8 (y.toNat : Int)) = (vals (l.set j y)).toArray := by
  simp [vals, List.map_set]
theorem made_zero (n : Nat) : madeCells (Value.int .u8 0).cells n = (vals (List.replicate n 0)).toArray := by
  apply Array.ext
  · rw [size_madeCells]
    simp [vals]
  · intro i h1 h2
    simp [madeCells, vals, Value.cells, Nat.mod_one]
set_option maxRecDepth 20000 in
set_option maxHeartbeats 2000000 in
theorem parse_spec (s : Sh.Str) (hs : s.length ≤ 1073741824) (w : World) : Calls Try.prog 16 #[.string ⟨s.toArray⟩] w fun e w' => e = .returned (parseR s) ∧ Below w.heap.size w w' := by
  by_cases hl : s.length = 64
  · have f1 : ((s.length : Int) != 64) = false := by rw [hl]; rfl
    have f2 : ((s.length : Int) == 64) = true := by rw [hl]; rfl
    obtain ⟨i1, hi1, hy0, hy1, hy2⟩ := info_parts info_u8
    have hr := run_make (P := Try.prog) w 34 5 i1 (.int .u8 0) Try.underlying34 hi1 hy0 .i64 .i64 32 32 (by decide) (by decide) (by rw [hy2]; decide) (by decide)
    have hcs : madeCells (Value.int .u8 0).cells ((32 : Int).toNat * i1.size) = (vals (Sh.half s 0)).toArray := by
      rw [hy1, Sh.half_zero]
      exact made_zero 32
    rw [hcs] at hr
    have h1 := (St.nil w).alloc 5 (vals (Sh.half s 0)).toArray
    have HL := Lib.hid hl
    clear hl hi1 hy0 hy1 hy2 hcs
    have hr' : (Instr.makeSlice 34 (.int .i64 32) (.int .i64 32)).run Try.prog w = .ok (.slice (some ⟨w.heap.size, 0, none⟩) 32 32) (w.alloc (.cells (vals (Sh.half s 0)).toArray 5)) := hr
    clear hr
    generalize w.alloc (.cells (vals (Sh.half s 0)).toArray 5) = W at hr' h1
    generalize hg : w.heap.size = g at hr' h1
    have h1 : St w.heap.size w W [cellsR g 5 (vals (Sh.half s 0)).toArray] := by rw [hg]; exact h1
    have HG := Lib.hid hg
    clear hg
    go_enter Try.func16, Try.ntmps16
    go_wp2
    clear hr'
    go_loopw [13] (fun i wr => ∃ (k : Nat), k ≤ 64 ∧ i = .int .i64 (k : Int) ∧ (∀ j, j < k → 0 ≤ Sh.dig (s.getD j 0)) ∧ St w.heap.size w wr (cellsR g 5 (vals (Sh.half s k)).toArray :: [])) (fun i _ => (64 - intOf i).toNat)
    case atStart => exact ⟨0, by omega, rfl, fun j hj => by omega, h1⟩
    case round =>
      clear h1
      obtain ⟨k, hk, hi, hall, h⟩ := hrel
      have HA := Lib.hid hall
      clear hall
      by_cases hlt : k < 64
      · subst hi
        have hl4 : (k : Int) < (s.length : Int) := by rw [HL.out]; omega
        have ha0 : (0 : Int) ≤ (k : Int) := by omega
        have hd0 : k < s.length := by rw [HL.out]; omega
        obtain ⟨x0, hx0⟩ : ∃ x, s.getD k 0 = x := ⟨_, rfl⟩
        have t0 : ∀ hh, (⟨s.toArray⟩ : ByteArray)[k]'hh = x0 := fun hh => by
          rw [← hx0, List.getD_eq_getElem?_getD, List.getElem?_eq_getElem hd0]; rfl
        have k0 := ixbyte_spec x0
        obtain ⟨bl0, bu0⟩ := Sh.dig_bounds x0
        have hdn : Sh.dn s k = (Sh.dig x0).toNat := by unfold Sh.dn; rw [hx0]
        obtain ⟨d0, hd0'⟩ : ∃ d, Sh.dig x0 = d := ⟨_, rfl⟩
        rw [hd0'] at k0 bl0 bu0 hdn
        have HX := Lib.hid (And.intro hx0 (And.intro hd0' hdn))
        clear hx0 hd0' hdn
        go_wp2_with fail
        refine (k0 _).mono ?_
        rintro e w5 ⟨rfl, rfl⟩
        clear k0 t0
        by_cases e0 : d0 < 0
        · have g0 : decide (d0 < 0) = true := by simp; exact e0
          have HQ := Lib.hid (And.intro h.below (Sh.bad_at s HL.out k hlt (by rw [HX.out.1, HX.out.2.1]; exact e0)))
          clear h
          go_wp2
          go_ret2
          exact ⟨by rw [parse_bad HQ.out.2]; rfl, HG.out ▸ HQ.out.1⟩
        · have g0 : decide (d0 < 0) = false := by simp; omega
          obtain ⟨j, hj⟩ : ∃ j, k / 2 = j := ⟨_, rfl⟩
          have hj32 : j < 32 := by omega
          have e1 : (k : Int).tdiv 2 = (j : Int) := by rw [Int.tdiv_eq_ediv_of_nonneg (by omega)]; omega
          have e2 : (k : Int) / 2 = (j : Int) := by omega
          have m1 : (j : Int) < 32 := by omega
          have m2 : (0 : Int) ≤ (j : Int) := by omega
          have cj := h.blk.cell j
          rw [vals_cell _ _ (by rw [Sh.half_length]; exact hj32), Sh.half_get _ _ _ hj32] at cj
          have fj := h.blk.frozen j
          have lg := h.blk.lt
          have hcl := Sh.cellN_lt s k
          have hcn := Sh.cellN_next s k
          have hst := Sh.half_set s k hlt
          have hdl := Sh.dn_lt s k
          rw [hj] at hcl hcn hst
          rw [HX.out.2.2] at hcn hdl
          obtain ⟨x, hx⟩ : ∃ x, Sh.cellN s k j = x := ⟨_, rfl⟩
          rw [hx] at cj hcl hcn
          have hxu : (UInt8.ofNat x).toNat = x := by rw [UInt8.toNat_ofNat']; omega
          rw [hxu] at cj
          obtain ⟨d, hd⟩ : ∃ d, d0.toNat = d := ⟨_, rfl⟩
          rw [hd] at hcn hdl
          have hdd : d0 = (d : Int) := by omega
          have HXX := Lib.hid (And.intro hx (And.intro hd hj))
          clear hx hd hj hxu
          subst hdd
          have o1 := or_shl x d hcl hdl
          have o2 : IntKind.u8.wrap ((x : Int) * 16) = (x : Int) * 16 := by rw [IntKind.wrap_u8]; omega
          have o3 : IntKind.u8.wrap (d : Int) = (d : Int) := by rw [IntKind.wrap_u8]; omega
          have hyu : (UInt8.ofNat (16 * x + d)).toNat = 16 * x + d := by rw [UInt8.toNat_ofNat']; omega
          rw [← hyu] at o1
          rw [hcn] at hst
          generalize UInt8.ofNat (16 * x + d) = y at o1 hst hyu
          have HS := Lib.hid (And.intro hst (And.intro hyu hcn))
          clear hst hyu hcn
          go_wp2
          go_roundw
          case rel =>
            refine ⟨k + 1, by omega, by go_num, fun j' hj' => ?_, ?_⟩
            · by_cases c0 : j' < k
              · exact HA.out j' c0
              · have c1 : j' = k := by omega
                rw [c1, HX.out.1, HX.out.2.1]; omega
            · have h3 := h.set_ j (.int .u8 (y.toNat : Int))
              rw [vals_set, HS.out.1] at h3
              exact h3
          case measure => simp [intOf]; omega
      · obtain rfl : k = 64 := by omega
        have hi2 := hi.trans (show Value.int .i64 ((64 : Nat) : Int) = .int .i64 64 from rfl)
        subst hi2
        clear hi
        have hg := Sh.good_of s HL.out HA.out
        have hge : decide ((64 : Int) < (s.length : Int)) = false := by rw [HL.out]; rfl
        rw [Sh.half_full] at h
        have hul : (Sh.unhex s 32).length = 32 := Sh.unhex_length _ _
        have hcv := run_convert_bytes_back (P := Try.prog) wr 34 9 5 ⟨g, 0, none⟩ 32 (Sh.unhex s 32) Try.underlying34 Try.underlying5 Try.underlying9 (fun j hj => by
          rw [Addr.add_lit, Nat.zero_add, h.blk.cell, vals_cell _ _ hj, List.getD_eq_getElem?_getD, List.getElem?_eq_getElem hj]; rfl)
        rw [hul] at hcv
        have HH := Lib.hid (And.intro h.below hg)
        clear h hg hul
        obtain ⟨Z, hZ⟩ : ∃ Z, Sh.unhex s 32 = Z := ⟨_, rfl⟩
        rw [hZ] at hcv
        have HZ := Lib.hid hZ
        clear hZ
        go_wp2
        go_ret2
        exact ⟨by rw [parse_good HH.out.2, HZ.out]; rfl, HG.out ▸ HH.out.1⟩
  · have f1 : ((s.length : Int) != 64) = true := by simp; omega
    have f2 : ((s.length : Int) == 64) = false := by rw [beq_eq_false_iff_ne]; omega
    have HB := Lib.hid (Sh.bad_len s hl)
    clear hl
    go_enter Try.func16, Try.ntmps16
    go_wp2
    go_ret2
    exact ⟨by rw [parse_bad HB.out]; rfl, Below.refl _ _⟩
end Go.Proofs.Ytolgldgabhhmaaa
