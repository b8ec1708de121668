/-
  number: eight bytes of a number. Conditions: none.
-/
import Derived.Test.YtiklfjehhdbhfaaShF
namespace Go.Proofs.Ytiklfjehhdbhfaa
set_option linter.unusedVariables false
open Go.RowKit

def byteAt (n i : Nat) : UInt8 := UInt8.ofNat (n / 2 ^ (56 - 8 * i))
/-- the first i bytes, then zeros -/
def nb (n i : Nat) : List UInt8 := (List.range i).map (byteAt n) ++ List.replicate (8 - i) 0
theorem nb_get (n i : Nat) (h : i < 8) : (vals (nb n i)).toArray[i]? = some (.int .u8 0) := by
  rcases lt8 h with rfl | rfl | rfl | rfl | rfl | rfl | rfl | rfl <;> rfl
theorem nb_set (n i : Nat) (h : i < 8) : (vals (nb n i)).toArray.setIfInBounds i (.int .u8 ((byteAt n i).toNat : Int)) = (vals (nb n (i + 1))).toArray := by
  rcases lt8 h with rfl | rfl | rfl | rfl | rfl | rfl | rfl | rfl <;> rfl
theorem nb_full (n : Nat) : nb n 8 = Sh.be8 n := by simp [nb, Sh.be8, byteAt, List.range, List.range.loop]
theorem byteAt_nat (n i : Nat) : ((byteAt n i).toNat : Int) = ((n : Int) / 2 ^ (56 - 8 * i)) % 256 := by
  unfold byteAt
  rw [UInt8.toNat_ofNat']
  simp
set_option maxRecDepth 20000 in
set_option maxHeartbeats 2000000 in
theorem number_spec (n : Nat) (hn : n < 18446744073709551616) (w : World) : Calls Try.prog 79 #[.int .u64 (n : Int)] w fun e w' => e = .returned (.string ⟨(Sh.be8 n).toArray⟩) ∧ Below w.heap.size w w' := by
  have h0 := (St.nil w).alloc 101 (vals (nb n 0)).toArray
  go_enter Try.func79, Try.ntmps79
  go_wp2
  change Code.wp _ _ _ _ (w.alloc (.cells (vals (nb n 0)).toArray 101))
  generalize w.alloc (.cells (vals (nb n 0)).toArray 101) = W at h0 ⊢
  obtain ⟨g, hg⟩ : ∃ g, w.heap.size = g := ⟨_, rfl⟩
  have HG := Lib.hid hg
  rw [hg] at h0 ⊢
  clear hg
  go_loopw [5] (fun i wr => ∃ k : Nat, k ≤ 8 ∧ i = .int .i64 k ∧ St g w wr [cellsR g 101 (vals (nb n k)).toArray]) (fun i _ => 8 - (intOf i).toNat)
  case atStart => exact ⟨0, by omega, rfl, h0⟩
  case round =>
    obtain ⟨k, hk, rfl, h⟩ := hrel
    clear h0
    by_cases hlt : k < 8
    · have hk1 : (k : Int) < 8 := by omega
      have hk0 : (0 : Int) ≤ (k : Int) := by omega
      have ck : wr.cell? ⟨g, k, none⟩ = some (.int .u8 0) := by rw [h.blk.cell, nb_get n k hlt]
      have fg := h.blk.frozen k
      have lg := h.blk.lt
      have hnx := nb_set n k hlt
      have HN := Lib.hid hnx
      clear hnx
      have e1 : (56 : Int) - 8 * (k : Int) = ((56 - 8 * k : Nat) : Int) := by omega
      have hby := byteAt_nat n k
      obtain ⟨m, hm⟩ : ∃ m, 56 - 8 * k = m := ⟨_, rfl⟩
      have hm56 : m ≤ 56 := by omega
      rw [hm] at e1 hby
      clear hm
      generalize byteAt n k = y at hby HN
      go_wp2
      go_roundw
      case rel =>
        refine ⟨k + 1, by omega, by go_num, ?_⟩
        have h2 := h.set_ k (.int .u8 (y.toNat : Int))
        rw [HN.out, hby] at h2
        exact h2
      case measure => simp [intOf]; omega
    · have hk8 : k = 8 := by omega
      have hd : decide ((k : Int) < 8) = false := by simp; omega
      have hb : Blk wr g 101 (vals (Sh.be8 n)).toArray := by rw [← nb_full, ← hk8]; exact h.blk
      have hcv := run_convert_bytes_back (P := Try.prog) wr 70 9 5 ⟨g, 0, none⟩ 8 (Sh.be8 n) Try.underlying70 Try.underlying5 Try.underlying9 (fun j hj => by
        rw [Addr.add_lit, hb.cell]
        simp [vals, hj])
      have h8 : (Sh.be8 n).length = 8 := rfl
      rw [h8] at hcv
      have HB := Lib.hid h.below
      clear hk8 hb h8 h
      obtain ⟨z, hz⟩ : ∃ z, Sh.be8 n = z := ⟨_, rfl⟩
      rw [hz] at hcv
      have HZ := Lib.hid hz
      clear hz
      go_wp2
      go_ret
      exact ⟨by rw [HZ.out]; rfl, by rw [HG.out]; exact HB.out⟩
end Go.Proofs.Ytiklfjehhdbhfaa
