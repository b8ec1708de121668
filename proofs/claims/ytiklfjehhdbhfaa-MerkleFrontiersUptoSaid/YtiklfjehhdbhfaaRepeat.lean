/-
  strings.Repeat of one byte, by the shelf's contract. Conditions: at most 2^47 bytes.
-/
import Derived.Test.YtiklfjehhdbhfaaLay
import Derived.Test.YtiklfjehhdbhfaaKit
namespace Go.Proofs.Ytiklfjehhdbhfaa
set_option linter.unusedVariables false
open Go.RowKit Go.Shelf

theorem repeat_extra : Builder.Extra Try.prog Try.laysRepeat_ren where
  sizeBuilder := by kernel_rfl
  liesBuilder := by kernel_rfl
  t5 := Try.laysRepeat.t5
  a5 := Try.laysRepeat.a5
  z5 := Try.laysRepeat.z5
  v5 := Try.laysRepeat.v5
  infoByte := by kernel_rfl
  cellsByte := by kernel_rfl
  sizeByte := by kernel_rfl
  neB5 := by decide
theorem repeat_f : Try.laysRepeat_ren.f 105 = 78 := by kernel_rfl
theorem repeat_one (b : UInt8) (c : Nat) (w : World) (hc : c ≤ 140737488355328) :
    Calls Try.prog 78 #[.string ⟨[b].toArray⟩, .int .i64 c] w fun e w' => e = .returned (.string ⟨(List.replicate c b).toArray⟩) ∧ Below w.heap.size w w' := by
  have h := Any.strings_Repeat Try.laysRepeat repeat_extra ⟨[b].toArray⟩ c w (by omega) (by show 1 * c ≤ _; omega)
  rw [repeat_f] at h
  refine h.mono fun e w' ⟨he, hw⟩ => ⟨?_, hw⟩
  rw [he]
  have := Lib.repeatL_replicate b 1 c
  rw [Nat.mul_one] at this
  rw [← this]
  rfl
