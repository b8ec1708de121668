/-
  strings.Join with the empty separator, by the shelf's contract. Conditions: at most 2^47 bytes together.
-/
import Derived.Test.YtiklfjehhdbhfaaLayJ
import Derived.Test.YtiklfjehhdbhfaaStrs
namespace Go.Proofs.Ytiklfjehhdbhfaa
set_option linter.unusedVariables false
open Go.RowKit Go.Shelf

theorem join_extra : Builder.Extra Try.prog Try.laysJoin_ren where
  sizeBuilder := by kernel_rfl
  liesBuilder := by kernel_rfl
  t5 := Try.underlying5
  a5 := Try.isAgg5
  z5 := Try.sizeOf5
  v5 := Try.zeroValue5
  infoByte := by kernel_rfl
  cellsByte := by kernel_rfl
  sizeByte := by kernel_rfl
  neB5 := by decide
theorem join_f : Try.laysJoin_ren.f 156 = 59 := by kernel_rfl
theorem join_flat (L : List (List UInt8)) : Lib.join ((L.map fun s => (⟨s.toArray⟩ : ByteArray)).map (·.data.toList)) [] = L.flatten := by
  have e : (L.map fun s => (⟨s.toArray⟩ : ByteArray)).map (·.data.toList) = L := by
    rw [List.map_map]
    conv => rhs; rw [← List.map_id L]
    rfl
  rw [e]
  induction L with
  | nil => rfl
  | cons x L ih =>
    have h : ∀ (r : List (List UInt8)), Lib.joinTail [] r = r.flatten := fun r => by unfold Lib.joinTail; simp
    rw [Lib.join_cons, h]
    rfl
theorem join_spec (A : Option Addr) (L : List (List UInt8)) (c : Nat) (w : World) (hR : Rd w A (strs L)) (hc : L.length ≤ c) (hl : weight L ≤ 140737488355328) :
    Calls Try.prog 59 #[.slice A L.length c, .string .empty] w fun e w' => e = .returned (.string ⟨L.flatten.toArray⟩) ∧ Below w.heap.size w w' := by
  by_cases hL : L = []
  · subst hL
    have h := Any.strings_Join_none Try.laysJoin join_extra A c .empty w
    rw [join_f] at h
    exact h.mono fun e w' ⟨he, hw⟩ => ⟨he, hw ▸ Below.refl _ _⟩
  · rcases hR with hR | ⟨b, off, rfl, hcell⟩
    · exact absurd (List.eq_nil_of_length_eq_zero (by have := congrArg List.length hR; simpa [strs] using this)) hL
    · have hpos : 0 < L.length := by cases L; exact absurd rfl hL; simp
      have hb := World.block_lt_of_cell? w _ (hcell 0 (by rw [strs_length]; exact hpos))
      have hj := join_flat L
      have hfl : L.flatten.length = (L.map List.length).sum := List.length_flatten
      have h := Any.strings_Join Try.laysJoin join_extra b off c (L.map fun s => (⟨s.toArray⟩ : ByteArray)) .empty w (fun j x hx => by
        have hj : j < L.length := by
          have := (List.getElem?_eq_some_iff.1 hx).1
          simpa using this
        rw [hcell j (by rw [strs_length]; exact hj), strs_get]
        simp [hj] at hx
        rw [← hx]) hb (by rw [List.length_map]; unfold weight at hl; omega) (by rw [List.length_map]; exact hc) (by
          show (Lib.join _ []).length ≤ _
          rw [hj, hfl]; unfold weight at hl; omega)
      rw [join_f, List.length_map] at h
      refine h.mono fun e w' ⟨he, hw⟩ => ⟨?_, hw⟩
      rw [he]
      show Ending.returned (.string ⟨(Lib.join _ []).toArray⟩) = _
      rw [hj]
end Go.Proofs.Ytiklfjehhdbhfaa
