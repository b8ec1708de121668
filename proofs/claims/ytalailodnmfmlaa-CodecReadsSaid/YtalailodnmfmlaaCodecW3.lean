/-
  Int and Texts of the program and of the reference. Conditions: lengths below 2^40.
-/
import Derived.Test.YtalailodnmfmlaaCodecW2
namespace Go.Proofs.Ytalailodnmfmlaa
set_option linter.unusedVariables false
open Go.RowKit

theorem xor_neg1 (m : Nat) (h : m ≤ 9223372036854775807) : bits BinOp.xor IntKind.i64 (-1) (-(m : Int) - 1) = m := by
  have e : (BitVec.ofInt 64 (-1) ^^^ BitVec.ofInt 64 (-(m : Int) - 1)) = BitVec.ofNat 64 m := by
    have h1 : BitVec.ofInt 64 (-1) = BitVec.allOnes 64 := by decide
    have h2 : BitVec.ofInt 64 (-(m : Int) - 1) = ~~~ (BitVec.ofNat 64 m) := by
      apply BitVec.eq_of_toNat_eq
      rw [BitVec.toNat_ofInt, BitVec.toNat_not, BitVec.toNat_ofNat]
      omega
    rw [h1, h2, BitVec.allOnes_xor, BitVec.not_not]
  have hw : IntKind.i64.wrap (m : Int) = m := by rw [IntKind.wrap_i64]; omega
  show IntKind.i64.wrap ((BitVec.ofInt 64 (-1) ^^^ BitVec.ofInt 64 (-(m : Int) - 1)).toNat : Int) = m
  rw [e, BitVec.toNat_ofNat, Nat.mod_eq_of_lt (by omega), hw]
theorem or1 (m : Nat) (h : m ≤ 9223372036854775807) : bits BinOp.or IntKind.u64 ((m : Int) * 2) 1 = ((2 * m + 1 : Nat) : Int) := by
  have := u64_or_nat (2 * m) 1 (by omega) (by omega)
  rw [show ((m : Int) * 2) = ((2 * m : Nat) : Int) from by omega]
  rw [← nat_join 1 (2 * m) 1 (by omega) (by omega)]
  exact this

theorem int_neg (m : Nat) (h : m ≤ 9223372036854775807) (w : World) :
    Calls Try.prog 14 #[.int .i64 (-(m : Int) - 1)] w fun e w' => e = .returned (.string ⟨(Cd.uns (2 * m + 1)).toArray⟩) ∧ Below w.heap.size w w' := by
  have h1 : (m : Int) ≤ 9223372036854775807 := by omega
  have k1 := xor_neg1 m h
  have k2 := or1 m h
  have hu := fun w => unsigned_spec (2 * m + 1) (by omega) w
  have he : ((2 * m + 1 : Nat) : Int) = 2 * (m : Int) + 1 := by omega
  rw [he] at hu k2
  have k3 : IntKind.u64.wrap (m : Int) = m := by rw [IntKind.wrap_u64]; omega
  have k4 : IntKind.u64.wrap ((m : Int) * 2) = (m : Int) * 2 := by rw [IntKind.wrap_u64]; omega
  clear h he
  go_enter Try.func14, Try.ntmps14
  go_wp2_with fail
  clear k1 k2 k3 k4
  refine (hu _).mono ?_
  rintro e w' ⟨rfl, hb1⟩
  go_wp2
  go_ret
  exact ⟨rfl, hb1⟩
theorem int_pos (m : Nat) (h : m ≤ 9223372036854775807) (w : World) :
    Calls Try.prog 14 #[.int .i64 (m : Int)] w fun e w' => e = .returned (.string ⟨(Cd.uns (2 * m)).toArray⟩) ∧ Below w.heap.size w w' := by
  have h1 : (m : Int) ≤ 9223372036854775807 := by omega
  have hu := fun w => unsigned_spec (2 * m) (by omega) w
  have he : ((2 * m : Nat) : Int) = (m : Int) * 2 := by omega
  rw [he] at hu
  clear h he
  go_enter Try.func14, Try.ntmps14
  go_wp2_with (go_at_call 36; go_must (refine (hu _).mono ?_); rintro e w' ⟨rfl, hb1⟩)
  go_ret
  exact ⟨rfl, hb1⟩
theorem rint_neg (m : Nat) (h : m ≤ 9223372036854775807) (w : World) :
    Calls Try.prog 15 #[.int .i64 (-(m : Int) - 1)] w fun e w' => e = .returned (.string ⟨(Cd.uns (2 * m + 1)).toArray⟩) ∧ Below w.heap.size w w' := by
  have h1 : (m : Int) ≤ 9223372036854775807 := by omega
  have hu := fun w => unsigned_ref (2 * m + 1) (by omega) w
  have he : ((2 * m + 1 : Nat) : Int) = 2 * (m : Int) + 1 := by omega
  rw [he] at hu
  clear h he
  go_enter Try.func15, Try.ntmps15
  go_wp2_with (go_at_call 37; go_must (refine (hu _).mono ?_); rintro e w' ⟨rfl, hb1⟩)
  go_ret
  exact ⟨rfl, hb1⟩
theorem rint_pos (m : Nat) (h : m ≤ 9223372036854775807) (w : World) :
    Calls Try.prog 15 #[.int .i64 (m : Int)] w fun e w' => e = .returned (.string ⟨(Cd.uns (2 * m)).toArray⟩) ∧ Below w.heap.size w w' := by
  have h1 : (m : Int) ≤ 9223372036854775807 := by omega
  have hu := fun w => unsigned_ref (2 * m) (by omega) w
  have he : ((2 * m : Nat) : Int) = 2 * (m : Int) := by omega
  rw [he] at hu
  clear h he
  go_enter Try.func15, Try.ntmps15
  go_wp2_with (go_at_call 37; go_must (refine (hu _).mono ?_); rintro e w' ⟨rfl, hb1⟩)
  go_ret
  exact ⟨rfl, hb1⟩

theorem i64_split (n : Int) (h0 : -9223372036854775808 ≤ n) (h1 : n ≤ 9223372036854775807) : (∃ m : Nat, n = -(m : Int) - 1 ∧ m ≤ 9223372036854775807) ∨ (∃ m : Nat, n = m ∧ m ≤ 9223372036854775807) := by
  by_cases h : n < 0
  · exact .inl ⟨(-(n + 1)).toNat, by omega, by omega⟩
  · exact .inr ⟨n.toNat, by omega, by omega⟩
theorem cd_int_neg (m : Nat) : Cd.int (-(m : Int) - 1) = Cd.uns (2 * m + 1) := by
  unfold Cd.int
  rw [if_pos (by omega), show (-(-(m : Int) - 1 + 1)).toNat = m from by omega]
theorem cd_int_pos (m : Nat) : Cd.int (m : Int) = Cd.uns (2 * m) := by
  unfold Cd.int
  rw [if_neg (by omega), Int.toNat_natCast]
theorem int_spec (n : Int) (h0 : -9223372036854775808 ≤ n) (h1 : n ≤ 9223372036854775807) (w : World) :
    Calls Try.prog 14 #[.int .i64 n] w fun e w' => e = .returned (.string ⟨(Cd.int n).toArray⟩) ∧ Below w.heap.size w w' := by
  rcases i64_split n h0 h1 with ⟨m, rfl, hm⟩ | ⟨m, rfl, hm⟩
  · rw [cd_int_neg]; exact int_neg m hm w
  · rw [cd_int_pos]; exact int_pos m hm w
theorem int_ref (n : Int) (h0 : -9223372036854775808 ≤ n) (h1 : n ≤ 9223372036854775807) (w : World) :
    Calls Try.prog 15 #[.int .i64 n] w fun e w' => e = .returned (.string ⟨(Cd.int n).toArray⟩) ∧ Below w.heap.size w w' := by
  rcases i64_split n h0 h1 with ⟨m, rfl, hm⟩ | ⟨m, rfl, hm⟩
  · rw [cd_int_neg]; exact rint_neg m hm w
  · rw [cd_int_pos]; exact rint_pos m hm w

set_option maxHeartbeats 1000000 in
theorem texts_spec (A : Option Addr) (L : List (List UInt8)) (c : Nat) (w : World) (hR : Rd w A (strs L))
    (hlen : (Cd.body L).length ≤ 1000000000000) (hL : L.length ≤ 1000000000000) :
    Calls Try.prog 18 #[.slice A L.length c] w fun e w' => e = .returned (.string ⟨(Cd.texts L).toArray⟩) ∧ Below w.heap.size w w' := by
  have hu := fun w => unsigned_spec L.length (by omega) w
  have hl := Cd.uns_len L.length
  have hbu0 := Bu.new w
  have hA : 0 < L.length → ∀ p, A = some p → p.block < w.heap.size := fun h0 p hp => by
    obtain ⟨q, hq, hlt⟩ := hR.lt (fun e => by have := congrArg List.length e; rw [strs_length] at this; simp at this; subst this; simp at h0)
    rw [hp] at hq; injection hq with hq; subst hq; exact hlt
  have HA := Lib.hid hA; clear hA
  go_enter Try.func18, Try.ntmps18
  go_wp2_with fail
  go_must (refine (hu _).mono ?_)
  rintro e w1 ⟨rfl, hb1⟩
  have hbel1 : Below w.heap.size w w1 := ((Below.refl _ w).alloc (Nat.le_refl _) _).trans (hb1.mono (by simp))
  have hbu1 := hbu0.below hb1
  have hs1 := hbel1.size
  go_wp2_with fail
  go_must (refine (bu_write _ _ _ (Cd.uns L.length) _ hbu1 (by simp; omega) (by omega)).mono ?_)
  rintro e w2 ⟨rfl, hbu2, hb2⟩
  have hs2 := hb2.size
  have hbel2 := hbel1.trans hb2
  go_wp2_with fail
  go_must (refine (each_spec w.heap.size w.heap.size A L c _ w2 ((hR.mod (Mod.of_below hbel2 (fun _ => False)) (fun _ _ h => h))) HA.out hbu2 (by omega) (by simp; omega) (by omega)).mono ?_)
  rintro e w3 ⟨rfl, hbu3, hb3⟩
  have hs3 := hb3.size
  go_wp2_with fail
  go_must (refine (bu_string _ _ _ _ hbu3 (by omega)).mono ?_)
  rintro e w4 ⟨rfl, hbu4, hb4⟩
  go_wp2
  go_ret
  exact ⟨ret_eq (by simp [Cd.texts]), (hbel2.trans hb3).trans hb4⟩

set_option maxHeartbeats 1000000 in
theorem texts_ref (A : Option Addr) (L : List (List UInt8)) (c : Nat) (w : World) (hR : Rd w A (strs L)) (hlen : (Cd.body L).length ≤ 1000000000000) (hL : L.length ≤ 1000000000000) :
    Calls Try.prog 19 #[.slice A L.length c] w fun e w' => e = .returned (.string ⟨(Cd.texts L).toArray⟩) ∧ Below w.heap.size w w' := by
  have hu := fun w => unsigned_ref L.length (by omega) w
  have hl := Cd.uns_len L.length
  go_enter Try.func19, Try.ntmps19
  go_wp2_with fail
  go_must (refine (hu _).mono ?_)
  rintro e w1 ⟨rfl, hb1⟩
  have hR1 := hR.below hb1
  clear hu hR
  go_wp2_with fail
  go_loopw [4, 3] (fun i v wr => ∃ k : Nat, k ≤ L.length ∧ i = .int .i64 k ∧ v = .string ⟨(Cd.uns L.length ++ Cd.body (L.take k)).toArray⟩ ∧ Below w1.heap.size w1 wr) (fun i _ _ => L.length - (intOf i).toNat)
  case atStart => exact ⟨0, Nat.zero_le _, rfl, by simp [Cd.body], Below.refl _ _⟩
  case round =>
    obtain ⟨k, hk, rfl, rfl, hbel⟩ := hrel
    by_cases hlt : k < L.length
    · have hbt := body_take L k hlt
      have hle := body_take_le L (k + 1)
      rw [hbt] at hle
      simp only [List.length_append] at hle
      have htl := text_len L[k]
      obtain ⟨b0, off, rfl, hc⟩ : ∃ b0 off, A = some ⟨b0, off, none⟩ ∧ w1.cell? ⟨b0, off + k, none⟩ = some (.string ⟨L[k].toArray⟩) := by
        rcases hR1 with hR | ⟨b0, off, hA', hc⟩
        · have := congrArg List.length hR; rw [strs_length, List.length_nil] at this; omega
        · exact ⟨b0, off, hA', by have := hc k (by simpa [strs] using hlt); rwa [strs_get] at this⟩
      have hc' : wr.cell? ⟨b0, off + k, none⟩ = some (.string ⟨L[k].toArray⟩) := below_cell hbel hc
      have ht := fun w => text_ref L[k] (by omega) w
      have hsz := hbel.size
      have H1 := Lib.hid hbt; have H2 := Lib.hid htl
      clear hbt htl hc hR1
      have hsum : (Cd.body (List.take k L)).length ≤ 1000000000000 := by omega
      have hsum2 : (Cd.text L[k]).length ≤ 1000000000000 := by omega
      clear hle
      go_wp2_with (go_at_call 17; go_must (refine (ht _).mono ?_); rintro e w2 ⟨rfl, hb2⟩)
      go_roundw
      case rel => exact ⟨k + 1, by omega, by go_num, by rw [H1.out]; simp [bytes_append], hbel.trans (hb2.mono hsz)⟩
      case measure => simp [intOf]; omega
    · obtain rfl : k = L.length := by omega
      go_wp2
      go_ret
      exact ⟨ret_eq (by simp [Cd.texts]), hb1.trans (hbel.mono hb1.size)⟩
end Go.Proofs.Ytalailodnmfmlaa
