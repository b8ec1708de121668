/-
  A page of equal bytes (strings.Repeat by the shelf's contract). Conditions: none.
-/
import Derived.Test.YtepdfeegklinfaaLay
import Derived.Test.YtepdfeegklinfaaKit
namespace Go.Proofs.Ytepdfeegklinfaa
set_option linter.unusedVariables false
open Go.RowKit Go.Shelf

theorem repeat_extra : Builder.Extra Try.prog Try.laysRepeat_ren where
  sizeBuilder := by kernel_rfl
  liesBuilder := by kernel_rfl
  t5 := Try.laysRepeat.t5
  a5 := Try.laysRepeat.a5
  z5 := Try.laysRepeat.z5
  v5 := Try.laysRepeat.v5
  infoByte := by kernel_rfl
  cellsByte := by kernel_rfl
  sizeByte := by kernel_rfl
  neB5 := by decide
theorem repeat_f : Try.laysRepeat_ren.f 105 = 46 := by kernel_rfl
theorem repeat_one (b : UInt8) (c : Nat) (w : World) (hc : c ≤ 140737488355328) :
    Calls Try.prog 46 #[.string ⟨[b].toArray⟩, .int .i64 c] w fun e w' => e = .returned (.string ⟨(List.replicate c b).toArray⟩) ∧ Below w.heap.size w w' := by
  have h := Any.strings_Repeat Try.laysRepeat repeat_extra ⟨[b].toArray⟩ c w (by omega) (by show 1 * c ≤ _; omega)
  rw [repeat_f] at h
  refine h.mono fun e w' ⟨he, hw⟩ => ⟨?_, hw⟩
  rw [he]
  have := Lib.repeatL_replicate b 1 c
  rw [Nat.mul_one] at this
  rw [← this]
  rfl
theorem page_spec (b : UInt8) (w : World) :
    Calls Try.prog 34 #[.int .u8 b.toNat] w fun e w' => e = .returned (.string ⟨(List.replicate 512 b).toArray⟩) ∧ Below w.heap.size w w' := by
  have hcv := conv_own (P := Try.prog) 91 9 5 Try.underlying91 Try.underlying5 Try.underlying9 (w.alloc (.cells #[.int .u8 b.toNat] 5)) w.heap.size (.slice (some ⟨w.heap.size, 0, none⟩) 1 1) 1 [b] (show World.ownsRow (w.alloc (.cells #[.int .u8 b.toNat] 5)) w.heap.size 5 1 (.slice (some ⟨w.heap.size, 0, none⟩) 1 1) 1 (vals [b]) from World.ownsRow_lit w #[.int .u8 b.toNat] 1 (Nat.le_refl _) (by decide) rfl)
  have hrep := repeat_one b 512 (w.alloc (.cells #[.int .u8 b.toNat] 5)) (by decide)
  obtain ⟨s, hs⟩ : ∃ s, List.replicate 512 b = s := ⟨_, rfl⟩
  rw [hs] at hrep ⊢
  clear hs
  go_enter Try.func34, Try.ntmps34
  go_wp2_with fail
  refine hrep.mono ?_
  rintro e w' ⟨rfl, hb⟩
  go_wp2
  go_ret
  exact ⟨rfl, ((Below.refl _ w).alloc (Nat.le_refl _) _).trans (hb.mono (by simp))⟩
end Go.Proofs.Ytepdfeegklinfaa
