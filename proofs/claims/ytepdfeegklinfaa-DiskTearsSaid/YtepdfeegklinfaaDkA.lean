/-
  The methods of a disk that only look: has, Pages, Pending, Read. Conditions: none.
-/
import Derived.Test.YtepdfeegklinfaaDk
import Derived.Test.YtepdfeegklinfaaStrs
namespace Go.Proofs.Ytepdfeegklinfaa
set_option linter.unusedVariables false
open Go.RowKit

theorem law_int : Maps.Keyed Try.prog 3 := Maps.int_keyed Try.underlying3
theorem zero_int (w : World) : (zeroValue 3).run Try.prog w = .ok (.int .i64 0) w := by kernel_rfl

theorem has_spec (F : Nat → Prop) (d : Nat) (S : Dk.Ds) (p : Int) (w : World) (h : Dsk w F d S) (t : Bool) (ht : decide (0 ≤ p ∧ p < (S.dur.length : Int)) = t) :
    Calls Try.prog 37 #[.pointer (some ⟨d, 0, none⟩), .int .i64 p] w fun e w' => e = .returned (.bool t) ∧ w = w' := by
  obtain ⟨m, n, v0, v1, v4, D, h⟩ := h
  obtain ⟨A, c, rfl, hc1, hc2⟩ := own_form h.dur
  have c0 := h.blk.cell 0
  simp at c0
  clear h hc1 hc2
  subst ht
  by_cases hp : 0 ≤ p
  · by_cases hq : p < (S.dur.length : Int)
    · have hd : decide (p < (S.dur.length : Int)) = true := by simpa using hq
      go_enter Try.func37, Try.ntmps37
      go_wp2
      go_ret
      exact ⟨by simp [hp, hq], rfl⟩
    · have hd : decide (p < (S.dur.length : Int)) = false := by simpa using hq
      have hq' : (S.dur.length : Int) ≤ p := by omega
      clear hq
      go_enter Try.func37, Try.ntmps37
      go_wp2
      go_ret
      exact ⟨by simp [hp]; omega, rfl⟩
  · have hd : decide (p ≥ 0) = false := by simpa using hp
    have hp' : p < 0 := by omega
    clear hp
    go_enter Try.func37, Try.ntmps37
    go_wp2
    go_ret
    exact ⟨by simp; omega, rfl⟩
theorem pages_spec (F : Nat → Prop) (d : Nat) (S : Dk.Ds) (w : World) (h : Dsk w F d S) :
    Calls Try.prog 22 #[.pointer (some ⟨d, 0, none⟩)] w fun e w' => e = .returned (.int .i64 S.dur.length) ∧ w = w' := by
  obtain ⟨m, n, v0, v1, v4, D, h⟩ := h
  obtain ⟨A, c, rfl, hc1, hc2⟩ := own_form h.dur
  have c0 := h.blk.cell 0
  simp at c0
  clear h hc1 hc2
  go_enter Try.func22, Try.ntmps22
  go_wp2
  go_ret
  exact ⟨rfl, rfl⟩
theorem pending_spec (F : Nat → Prop) (d : Nat) (S : Dk.Ds) (w : World) (h : Dsk w F d S) :
    Calls Try.prog 16 #[.pointer (some ⟨d, 0, none⟩)] w fun e w' => e = .returned (.int .i64 S.pend.length) ∧ w = w' := by
  obtain ⟨m, n, v0, v1, v4, D, h⟩ := h
  obtain ⟨A, c, rfl, hc1, hc2⟩ := own_form h.pen
  have c1 := h.blk.cell 1
  simp at c1
  clear h hc1 hc2
  go_enter Try.func16, Try.ntmps16
  go_wp2
  go_ret
  exact ⟨rfl, rfl⟩

theorem has_no {dur : List Dk.Str} {p : Int} (h : p < 0 ∨ (dur.length : Int) ≤ p) : decide (0 ≤ p ∧ p < (dur.length : Int)) = false := by simp; omega
theorem has_yes {n q : Nat} (h : q < n) : decide (0 ≤ (q : Int) ∧ (q : Int) < (n : Int)) = true := by simp; omega

set_option maxRecDepth 20000 in
set_option maxHeartbeats 1000000 in
theorem read_spec (F : Nat → Prop) (d : Nat) (S : Dk.Ds) (p : Int) (w : World) (h : Dsk w F d S) :
    Calls Try.prog 20 #[.pointer (some ⟨d, 0, none⟩), .int .i64 p] w fun e w' => e = .returned (.tuple #[.string ⟨(Dk.read S.dur S.pend p).1.toArray⟩, .int .i64 (Dk.read S.dur S.pend p).2]) ∧ w = w' := by
  have hh := h
  obtain ⟨m, n, v0, v1, v4, D, h⟩ := h
  by_cases hp : p < 0 ∨ (S.dur.length : Int) ≤ p
  · have kH := has_spec F d S p w hh false (has_no hp)
    rw [show Dk.read S.dur S.pend p = ([], 2) from by unfold Dk.read; rw [if_pos hp]]
    clear hp h hh
    go_enter Try.func20, Try.ntmps20
    go_wp2_with fail
    refine kH.mono ?_
    rintro e w' ⟨rfl, rfl⟩
    go_wp2
    go_ret2
    exact ⟨rfl, rfl⟩
  obtain ⟨q, rfl⟩ : ∃ q : Nat, p = q := ⟨p.toNat, by omega⟩
  have hq : q < S.dur.length := by omega
  have kH := has_spec F d S q w hh true (has_yes hq)
  have hsm := h.small
  have hq2 : (q : Int) ≤ 9223372036854775807 := by omega
  obtain ⟨hl1, hl2⟩ := h.lat.2 q hq2
  obtain ⟨A0, c0, rfl, hx0, hy0⟩ := own_form h.dur
  obtain ⟨A1, c1, rfl, hx1, hy1⟩ := own_form h.pen
  have k0 := h.blk.cell 0
  have k1 := h.blk.cell 1
  have k2 := h.blk.cell 2
  simp at k0 k1 k2
  have hmap := h.map
  have hrd : Dk.read S.dur S.pend (q : Int) = if Dk.cont S.dur S.pend q = Dk.unread then ([], 21) else (Dk.cont S.dur S.pend q, 0) := by unfold Dk.read; rw [if_neg hp]; rfl
  cases hi : Dk.lastIx S.pend q with
  | some i =>
    rw [hi] at hl1 hl2
    have hil := Dk.lastIx_lt hi
    have hlast := Dk.last_some_ix hi
    rw [List.getElem?_eq_getElem hil] at hlast
    simp at hlast
    have hlen := Dk.last_len h.ok hlast
    have hcont : Dk.cont S.dur S.pend q = S.pend[i].2 := by simp [Dk.cont, hlast]
    rw [hrd, hcont, if_neg (by intro he; rw [he] at hlen; simp [Dk.unread] at hlen)]
    obtain ⟨b, off, rfl, hbl, hc⟩ := rd_elem (fun x : Dk.Wr => [.int .i64 x.1, .string ⟨x.2.toArray⟩]) 2 (fun _ => rfl) (Rd.of_own h.pen) hil (by omega)
    have hc1 := hc 1 _ rfl
    have hi0 : (0 : Int) ≤ (i : Int) := by omega
    have hi1 : (i : Int) < (S.pend.length : Int) := by omega
    have HL := Lib.hid (And.intro hl1 hl2)
    clear hl1 hl2 hlast hlen hcont hrd hc hi hp h hh hq hx0 hy0 hx1 hy1
    go_enter Try.func20, Try.ntmps20
    go_wp2_with fail
    refine kH.mono ?_
    rintro e w' ⟨rfl, rfl⟩
    clear kH
    go_wp2_with (at_lookup; refine wpList_lookup_own_ok_int _ rfl _ _ 70 rfl 3 3 .i64 law_int Try.underlying70 Try.underlying3 (zero_int _) m n D rfl hmap _ _ rfl (Maps.keyOf_int_mk Try.underlying3 (by first | exact WalkArith.wf_i64 (by omega))) ?_; intro c hat hwc; rw [HL.out.2] at hat; injection hat with hat; injection hat with _ hat; subst hat; rw [HL.out.1]; clear hwc)
    go_wp2
    go_ret2
    exact ⟨rfl, rfl⟩
  | none =>
    rw [hi] at hl1 hl2
    have hlast := Dk.last_none_ix hi
    have hcont : Dk.cont S.dur S.pend q = S.dur[q] := by simp [Dk.cont, hlast, hq]
    rw [hrd, hcont]
    obtain ⟨b, off, rfl, hc⟩ := (Rd.of_own h.dur).str hq
    have hbl := World.block_lt_of_cell? w _ hc
    have hi0 : (0 : Int) ≤ (q : Int) := by omega
    have hi1 : (q : Int) < (S.dur.length : Int) := by omega
    obtain ⟨x, hx⟩ : ∃ x, S.dur[q] = x := ⟨_, rfl⟩
    rw [hx] at hc ⊢
    have HL := Lib.hid (And.intro hl1 hl2)
    clear hl1 hl2 hlast hcont hrd hi hp h hh hq hx0 hy0 hx1 hy1 hx
    by_cases hu : x = Dk.unread
    · rw [if_pos hu]
      subst hu
      unfold Dk.unread at hc
      go_enter Try.func20, Try.ntmps20
      go_wp2_with fail
      refine kH.mono ?_
      rintro e w' ⟨rfl, rfl⟩
      clear kH
      go_wp2_with (at_lookup; refine wpList_lookup_own_ok_int _ rfl _ _ 70 rfl 3 3 .i64 law_int Try.underlying70 Try.underlying3 (zero_int _) m n D rfl hmap _ _ rfl (Maps.keyOf_int_mk Try.underlying3 (by first | exact WalkArith.wf_i64 (by omega))) ?_; intro c hat hwc; clear hat hwc; rw [HL.out.1])
      go_wp2
      go_ret2
      exact ⟨rfl, rfl⟩
    · rw [if_neg hu]
      have hb : (x == [33]) = false := by rw [beq_eq_false_iff_ne]; exact hu
      clear hu
      go_enter Try.func20, Try.ntmps20
      go_wp2_with fail
      refine kH.mono ?_
      rintro e w' ⟨rfl, rfl⟩
      clear kH
      go_wp2_with (at_lookup; refine wpList_lookup_own_ok_int _ rfl _ _ 70 rfl 3 3 .i64 law_int Try.underlying70 Try.underlying3 (zero_int _) m n D rfl hmap _ _ rfl (Maps.keyOf_int_mk Try.underlying3 (by first | exact WalkArith.wf_i64 (by omega))) ?_; intro c hat hwc; clear hat hwc; rw [HL.out.1])
      go_wp2
      go_ret2
      exact ⟨rfl, rfl⟩
end Go.Proofs.Ytepdfeegklinfaa
