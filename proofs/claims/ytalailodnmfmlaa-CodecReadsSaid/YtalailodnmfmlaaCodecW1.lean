/-
  What the program and the reference write for a number: both give Cd.uns. Conditions: none.
-/
import Derived.Test.YtalailodnmfmlaaProg
import Derived.Test.YtalailodnmfmlaaCodecMath
namespace Go.Proofs.Ytalailodnmfmlaa
set_option linter.unusedVariables false
open Go.RowKit

theorem info_u8 : (Try.prog.info? 5).map (fun i => (i.zero, i.size, i.bytes)) = some (some (.int .u8 0), 1, 1) := by kernel_rfl

theorem or128 (m : Nat) : bits BinOp.or IntKind.u8 ((m : Int) % 256) 128 = ((UInt8.ofNat (m % 128 + 128)).toNat : Int) := by
  have h : ∀ r : Fin 256, bits BinOp.or IntKind.u8 ((r.val : Nat) : Int) 128 = ((UInt8.ofNat (r.val % 128 + 128)).toNat : Int) := by decide +kernel
  have := h ⟨m % 256, Nat.mod_lt _ (by decide)⟩
  simp only [] at this
  rw [show ((m : Int) % 256) = ((m % 256 : Nat) : Int) from by omega, this]
  congr 3; omega

theorem u8_nat' (n : Nat) (h : n < 256) : n % 256 = n := by omega
theorem uns_step {f m : Nat} (h : 127 < m) (hf : 0 < f) : Cd.unsF (f + 1) m = UInt8.ofNat (m % 128 + 128) :: Cd.unsF f (m / 128) := by
  rw [Cd.unsF, if_neg (by omega)]
theorem uns_last {f m : Nat} (h : ¬ 127 < m) : Cd.unsF (f + 1) m = [UInt8.ofNat m] := by
  rw [Cd.unsF, if_pos (by omega)]
theorem uns_room {f m : Nat} (h : 127 < m) (hm : m < 2 ^ (7 * f + 1)) : 0 < f ∧ m / 128 < 2 ^ (7 * (f - 1) + 1) := by
  have hf : 0 < f := by
    rcases Nat.eq_zero_or_pos f with rfl | h0
    · simp at hm; omega
    · exact h0
  have hp : 2 ^ (7 * f + 1) = 128 * 2 ^ (7 * (f - 1) + 1) := by
    rw [show 7 * f + 1 = 7 + (7 * (f - 1) + 1) from by omega, Nat.pow_add]
  exact ⟨hf, by omega⟩
theorem uns_64 {pre : List UInt8} {f m : Nat} (hm : m < 2 ^ (7 * f + 1)) (hf : pre.length + f + 1 = 10) : (m : Int) ≤ 18446744073709551615 := by
  have : 2 ^ (7 * f + 1) ≤ 2 ^ 64 := Nat.pow_le_pow_right (by decide) (by omega)
  have : m < 2 ^ 64 := by omega
  omega

set_option maxHeartbeats 400000 in
theorem unsigned_spec (n : Nat) (hn : n < 18446744073709551616) (w : World) :
    Calls Try.prog 36 #[.int .u64 n] w fun e w' => e = .returned (.string ⟨(Cd.uns n).toArray⟩) ∧ Below w.heap.size w w' := by
  go_enter Try.func36, Try.ntmps36
  go_wp2
  go_loopw [0, 3] (fun x v wr => ∃ (pre : List UInt8) (f m : Nat), Cd.uns n = pre ++ Cd.unsF (f + 1) m ∧ x = .int .u64 m ∧ m < 2 ^ (7 * f + 1) ∧ pre.length + f + 1 = 10 ∧ wr.ownsRow w.heap.size 5 1 v pre.length (vals pre) ∧ Below w.heap.size w wr)
     (fun x _ _ => (intOf x).toNat)
  case atStart => exact ⟨[], 9, n, rfl, rfl, hn, rfl, World.ownsRow_nil _ _ _ _, Below.refl _ _⟩
  case round =>
    obtain ⟨pre, f, m, hu, rfl, hm, hf, hown, hbel⟩ := hrel
    have hm64 := uns_64 hm hf
    have HU := hide hu; clear hu
    have HF := hide hf; clear hf
    have HM := hide hm; clear hm
    have hsz := hbel.size
    have hpl : pre.length ≤ 9 := by have := HF.out; omega
    have b1 : (pre.length + 1) * 1 ≤ 140737488355328 := by omega
    have b2 : pre.length + 1 ≤ maxLen := by unfold maxLen; omega
    by_cases hlt : 127 < m
    · go_wp2_with (at_builtin; go_must (refine append1 _ 58 5 (.int .u8 0) 1 w.heap.size Try.underlying58 info_u8 rfl rfl _ _ rfl _ _ _ _ _ (hown.alloc _) rfl rfl (one_new _ _ _) rfl b1 b2 (by simp; omega) ?_); intro v' w1 hown1 hg1)
      go_roundw
      case rel =>
        have hr := uns_room hlt HM.out
        refine ⟨pre ++ [UInt8.ofNat (m % 128 + 128)], f - 1, m / 128, ?_, by go_num, hr.2, ?_, ?_, ?_⟩
        · rw [HU.out, uns_step hlt hr.1, show f - 1 + 1 = f from by omega]; simp
        · have := HF.out; simp; omega
        · rw [or128] at hown1
          simpa [vals] using hown1
        · exact (hbel.alloc hsz _).grown hg1 (by simp; omega) (fun k hk => (hown.lt k hk).1)
      case measure => simp [intOf]; omega
    · have hcv := fun (v' : Value) (w1 : World) (h : w1.ownsRow w.heap.size 5 1 v' (pre.length + 1) (vals pre ++ [Value.int IntKind.u8 (m : Int)])) => conv_own (P := Try.prog) 58 9 5 Try.underlying58 Try.underlying5 Try.underlying9 w1 w.heap.size v' _ (pre ++ [UInt8.ofNat m]) (by simpa [vals, show m % 256 = m from by omega] using h)
      go_wp2_with (at_builtin; go_must (refine append1 _ 58 5 (.int .u8 0) 1 w.heap.size Try.underlying58 info_u8 rfl rfl _ _ rfl _ _ _ _ _ (hown.alloc _) rfl rfl (one_new _ _ _) rfl b1 b2 (by simp; omega) ?_); intro v' w1 hown1 hg1; have hcv := hcv v' w1 hown1)
      go_ret
      refine ⟨ret_eq (str_eq ?_), (hbel.alloc hsz _).grown hg1 (by simp; omega) (fun k hk => (hown.lt k hk).1)⟩
      rw [HU.out, uns_last hlt]

set_option maxRecDepth 4000 in
set_option maxHeartbeats 400000 in
theorem unsigned_ref (n : Nat) (hn : n < 18446744073709551616) (w : World) :
    Calls Try.prog 37 #[.int .u64 n] w fun e w' => e = .returned (.string ⟨(Cd.uns n).toArray⟩) ∧ Below w.heap.size w w' := by
  go_enter Try.func37, Try.ntmps37
  go_wp2
  go_loopw [0, 3] (fun x v wr => ∃ (pre : List UInt8) (f m : Nat), Cd.uns n = pre ++ Cd.unsF (f + 1) m ∧ x = .int .u64 m ∧ m < 2 ^ (7 * f + 1) ∧ pre.length + f + 1 = 10 ∧ wr.ownsRow w.heap.size 5 1 v pre.length (vals pre) ∧ Below w.heap.size w wr)
     (fun x _ _ => (intOf x).toNat)
  case atStart =>
    refine ⟨[], 9, n, rfl, rfl, hn, rfl, ?_, (Below.refl _ _).alloc (Nat.le_refl _) _⟩
    exact World.ownsRow_lit w #[] 0 (Nat.le_refl _) (by decide) rfl
  case round =>
    obtain ⟨pre, f, m, hu, rfl, hm, hf, hown, hbel⟩ := hrel
    have hm64 := uns_64 hm hf
    have HU := hide hu; clear hu
    have HF := hide hf; clear hf
    have HM := hide hm; clear hm
    have hsz := hbel.size
    have hpl : pre.length ≤ 9 := by have := HF.out; omega
    have b1 : (pre.length + 1) * 1 ≤ 140737488355328 := by omega
    have b2 : pre.length + 1 ≤ maxLen := by unfold maxLen; omega
    by_cases hlt : 127 < m
    · have hlt1 : (128 : Int) ≤ (m : Int) := by omega
      go_wp2_with (at_builtin; go_must (refine append1 _ 58 5 (.int .u8 0) 1 w.heap.size Try.underlying58 info_u8 rfl rfl _ _ rfl _ _ _ _ _ (hown.alloc _) rfl rfl (one_new _ _ _) rfl b1 b2 (by simp; omega) ?_); intro v' w1 hown1 hg1)
      go_roundw
      case rel =>
        have hr := uns_room hlt HM.out
        refine ⟨pre ++ [UInt8.ofNat (m % 128 + 128)], f - 1, m / 128, ?_, by go_num, hr.2, ?_, ?_, ?_⟩
        · rw [HU.out, uns_step hlt hr.1, show f - 1 + 1 = f from by omega]; simp
        · have := HF.out; simp; omega
        · simpa [vals, u8_nat' (m % 128 + 128) (by omega)] using hown1
        · exact (hbel.alloc hsz _).grown hg1 (by simp; omega) (fun k hk => (hown.lt k hk).1)
      case measure => simp [intOf]; omega
    · have hlt1 : (m : Int) ≤ 127 := by omega
      have HL := hide hlt; clear hlt
      have hcv := fun (v' : Value) (w1 : World) (h : w1.ownsRow w.heap.size 5 1 v' (pre.length + 1) (vals pre ++ [Value.int IntKind.u8 (m : Int)])) => conv_own (P := Try.prog) 58 9 5 Try.underlying58 Try.underlying5 Try.underlying9 w1 w.heap.size v' _ (pre ++ [UInt8.ofNat m]) (by simpa [vals, show m % 256 = m from by omega] using h)
      go_wp2_with (at_builtin; go_must (refine append1 _ 58 5 (.int .u8 0) 1 w.heap.size Try.underlying58 info_u8 rfl rfl _ _ rfl _ _ _ _ _ (hown.alloc _) rfl rfl (one_new _ _ _) rfl b1 b2 (by simp; omega) ?_); intro v' w1 hown1 hg1; have hcv := hcv v' w1 hown1)
      go_ret
      refine ⟨ret_eq (str_eq ?_), (hbel.alloc hsz _).grown hg1 (by simp; omega) (fun k hk => (hown.lt k hk).1)⟩
      rw [HU.out, uns_last HL.out]
end Go.Proofs.Ytalailodnmfmlaa
