/-
  (*Hash).Write of the program's SHA-256. Conditions: at most 2^40 bytes together.
-/
import Derived.Test.YtiklfjehhdbhfaaShE
import Derived.Test.YtiklfjehhdbhfaaStrs
namespace Go.Proofs.Ytiklfjehhdbhfaa
set_option linter.unusedVariables false
open Go.RowKit

theorem blocks_congr (s : Sh.W8) (m x : Sh.Str) : ∀ n, 64 * n ≤ m.length → Sh.blocks s (m ++ x) n = Sh.blocks s m n
  | 0, _ => rfl
  | n + 1, h => by
    rw [Sh.blocks, Sh.blocks, blocks_congr s m x n (by omega)]
    congr 1
    rw [List.drop_append_of_le_length (by omega), List.take_append_of_le_length (by rw [List.length_drop]; omega)]
/-- the state of a digest to which m is written -/
def msgR (g : Nat) (m : Sh.Str) : Res := hashR g (Sh.blocks Sh.iv m (m.length / 64)).list (m.drop (64 * (m.length / 64))) m.length
def strLen : Value → Nat
  | .string b => b.size
  | _ => 0
set_option maxRecDepth 20000 in
set_option maxHeartbeats 4000000 in
theorem hwrite_spec {lo : Nat} {w0 w : World} {Rs : List Res} {g : Nat} (m s : Sh.Str) (h : St lo w0 w (msgR g m :: Rs)) (hm : (m ++ s).length ≤ 1099511627776) :
    Calls Try.prog 64 #[.pointer (some ⟨g, 0, none⟩), .string ⟨s.toArray⟩] w fun e w' => e = .returned (.tuple #[]) ∧ St lo w0 w' (msgR g (m ++ s) :: Rs) := by
  obtain ⟨q0, q1, q2, q3, q4, q5, q6, q7, q8, q9⟩ := hash_cells h.blk
  have fg := fun i => h.blk.frozen i
  have lg := h.blk.lt
  have hlen : (m ++ s).length = m.length + s.length := List.length_append
  have hcat : m.drop (64 * (m.length / 64)) ++ s = (m ++ s).drop (64 * (m.length / 64)) := by rw [List.drop_append_of_le_length (by omega)]
  have hbl : Sh.blocks Sh.iv (m ++ s) (m.length / 64) = Sh.blocks Sh.iv m (m.length / 64) := blocks_congr _ _ _ _ (by omega)
  have hml : m.length ≤ 1099511627776 := by omega
  have hsl : s.length ≤ 1099511627776 := by omega
  have hba := bytes_append (m.drop (64 * (m.length / 64))) s
  rw [hcat] at hba
  obtain ⟨rest, hrest⟩ : ∃ rest, m.drop (64 * (m.length / 64)) = rest := ⟨_, rfl⟩
  rw [hrest] at q8 hba
  unfold msgR at h ⊢
  rw [hrest, ← hbl] at h
  have hwrap : IntKind.u64.wrap ((m.length : Int) + (s.length : Int)) = (((m ++ s).length : Nat) : Int) := by rw [IntKind.wrap_u64, hlen]; omega
  have hrl : rest.length ≤ 1099511627776 := by rw [← hrest, List.length_drop]; omega
  have hrl2 : rest.length + s.length ≤ 9223372036854775807 := by omega
  have HW := Lib.hid (And.intro hlen (And.intro hcat (And.intro hbl hrest)))
  obtain ⟨q, hq⟩ : ∃ q, m.length / 64 = q := ⟨_, rfl⟩
  have hq64 : 64 * q ≤ (m ++ s).length := by omega
  rw [hq] at h hba
  clear hlen hcat hbl hrest hq
  go_enter Try.func64, Try.ntmps64
  go_wp2
  have h1 := h.set_ 9 (.int .u64 (((m ++ s).length : Nat) : Int))
  have hs9 : (hcells (Sh.blocks Sh.iv (m ++ s) q).list rest m.length).setIfInBounds 9 (.int .u64 (((m ++ s).length : Nat) : Int)) = hcells (Sh.blocks Sh.iv (m ++ s) q).list rest (m ++ s).length := rfl
  rw [hs9] at h1
  have hsum : ((m.length : Int) + (s.length : Int)) = (((m ++ s).length : Nat) : Int) := by rw [HW.out.1]; omega
  rw [hsum]
  clear h hs9 hsum hwrap q0 q1 q2 q3 q4 q5 q6 q7 q8 q9 fg lg hba
  generalize w.setCell ⟨g, 9, none⟩ (.int .u64 (((m ++ s).length : Nat) : Int)) = W at h1 ⊢
  obtain ⟨X, hX⟩ : ∃ X, m ++ s = X := ⟨_, rfl⟩
  rw [hX] at h1 hq64 hm ⊢
  have HX := Lib.hid hX
  clear hX HW
  go_loopw [1] (fun t wr => ∃ j : Nat, 64 * j ≤ X.length ∧ t = .string ⟨(X.drop (64 * j)).toArray⟩ ∧ St lo w0 wr (hashR g (Sh.blocks Sh.iv X j).list rest X.length :: Rs)) (fun t _ => strLen t)
  case atStart => exact ⟨q, hq64, rfl, h1⟩
  case round =>
    obtain ⟨j, hj, rfl, h⟩ := hrel
    clear h1 hq64
    have hDl : (X.drop (64 * j)).length = X.length - 64 * j := List.length_drop
    have hbk : Sh.blocks Sh.iv X (j + 1) = Sh.block (Sh.blocks Sh.iv X j) ((X.drop (64 * j)).take 64) := rfl
    have hdd : (X.drop (64 * j)).drop 64 = X.drop (64 * (j + 1)) := by rw [List.drop_drop, Nat.mul_add]
    obtain ⟨D, hD⟩ : ∃ D, X.drop (64 * j) = D := ⟨_, rfl⟩
    rw [hD] at hDl hbk hdd ⊢
    have hDm : D.length ≤ 1099511627776 := by omega
    by_cases hlt : 64 ≤ D.length
    · have hge : decide ((D.length : Int) ≥ 64) = true := by simp; omega
      have hcut1 : (⟨D.toArray⟩ : ByteArray).extract 0 64 = ⟨(D.take 64).toArray⟩ := by rw [bytes_cut]; rfl
      have hcut2 : (⟨D.toArray⟩ : ByteArray).extract 64 D.length = ⟨(X.drop (64 * (j + 1))).toArray⟩ := by rw [bytes_cut, List.take_of_length_le (by rw [List.length_drop]; omega), hdd]
      have hb64 : (D.take 64).length = 64 := by rw [List.length_take]; omega
      have HB := Lib.hid (And.intro hb64 (And.intro hbk (And.intro hDl hdd)))
      have hi1 : (64 : Int) ≤ (D.length : Int) := by omega
      clear hDl hbk hdd hD hb64
      go_wp2_with fail
      refine (add_spec h (Sh.blocks_ok Sh.iv_ok _ _) (D.take 64) HB.out.1).mono ?_
      rintro e w1 ⟨rfl, h2⟩
      rw [← HB.out.2.1] at h2
      go_wp2
      go_roundw
      case rel => exact ⟨j + 1, by have := HB.out.2.2.1; omega, rfl, h2⟩
      case measure =>
        have h3 := HB.out.2.2
        show ByteArray.size _ < ByteArray.size _
        rw [bytes_size, bytes_size, ← h3.2, List.length_drop]
        omega
    · have hge : decide ((D.length : Int) ≥ 64) = false := by simp; omega
      have HB := Lib.hid (And.intro hDl hD)
      clear hDl hbk hdd hD
      go_wp2_with fail
      refine (strclone_spec D (by omega) wr).mono ?_
      rintro e w1 ⟨rfl, hb⟩
      have h2 := h.under hb
      clear h
      obtain ⟨q0, q1, q2, q3, q4, q5, q6, q7, q8, q9⟩ := hash_cells h2.blk
      have fg := fun i => h2.blk.frozen i
      have lg := h2.blk.lt
      go_wp2
      go_end0
      refine ⟨rfl, ?_⟩
      have h3 := h2.set_ 8 (.string ⟨D.toArray⟩)
      have hs8 : (hcells (Sh.blocks Sh.iv X j).list rest X.length).setIfInBounds 8 (.string ⟨D.toArray⟩) = hcells (Sh.blocks Sh.iv X j).list D X.length := rfl
      rw [hs8] at h3
      rw [HX.out]
      have hjj : X.length / 64 = j := by have := HB.out.1; omega
      rw [hjj, HB.out.2]
      exact h3
end Go.Proofs.Ytiklfjehhdbhfaa
