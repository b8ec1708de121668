/-
  DiskTears holds of the program: the given statement DiskTearsSaid. Conditions: none.
-/
import Derived.Test.YtepdfeegklinfaaLTears
import Derived.Test.YtepdfeegklinfaaFrame
namespace Go.Proofs.Ytepdfeegklinfaa
set_option linter.unusedVariables false
open Go.ChangeShapes hiding strs
open Go.WideShapes Go.ChangeAt Go.RowKit
namespace pDiskTears

set_option maxRecDepth 20000 in
theorem contract (H : Type) (enc : TypeId × Value → H) (W : World) (base : Nat) (args : Array Value) (ds gs : List (DataW H)) (before : List MemPlace)
    (hval : ∀ (j : Nat) t v, Try.f7.params[j]? = some t → args[j]? = some v → Value.okWide Try.prog W .any base t v)
    (hW : DataW.Whole enc Try.prog Try.f7.params.toList Rows.diskTearsSpec.vars false W args.toList ds gs before) :
    Calls Try.prog 7 args W fun e W' => ∃ v, e = .returned v ∧ Rows.diskTearsSpec.post enc Try.prog Try.f7 false true false false W args v W' := by
  have hW' := hW
  obtain ⟨p, q, hA0, hV, rfl, hfz, hnd⟩ := hW
  have hA : DataW.TrodAll enc Try.prog W 0 (fun _ => true) true Try.f7.params.toList args.toList ds p := hA0
  rw [Try.params7] at hA hval
  obtain ⟨v0, vs0, d0, ds0, p0, q0, hargs, rfl, rfl, k0, r0⟩ := trodAll_cons hA
  obtain ⟨v1, vs1, d1, ds1, p1, q1, rfl, rfl, rfl, k1, r1⟩ := trodAll_cons r0
  obtain ⟨v2, vs2, d2, ds2, p2, q2, rfl, rfl, rfl, k2, r2⟩ := trodAll_cons r1
  obtain ⟨rfl, rfl, rfl⟩ := trodAll_nil r2
  obtain rfl : args = #[v0, v1, v2] := by cases args; simp_all
  obtain ⟨rfl, rfl⟩ := trodVars_none hV
  obtain ⟨pages, rfl, rfl, rfl, wpages⟩ := Go.ChangeShapes.open_int Try.underlying5 (hval 0 5 v0 rfl rfl) k0
  obtain ⟨AL, L, cL, rfl, hnilL, hlcL, hcmL, hRL, hokL⟩ := acts_open (hval 1 22 v1 rfl rfl) k1
  obtain ⟨AC, C, cC, rfl, hnilC, hlcC, hcmC, hRC⟩ := open_ints Try.underlying39 Try.underlying3 (by kernel_rfl) (hval 2 39 v2 rfl rfl) k2
  obtain ⟨qpages, rfl⟩ : ∃ m : Nat, pages = m := ⟨pages.toNat, by have := u8_bounds wpages; omega⟩
  refine (diskTears_walk qpages (by have := u8_bounds wpages; omega) AL L cL AC C cC W hRL (Nat.le_trans hlcL hcmL) hokL hRC (Nat.le_trans hlcC hcmC)).mono fun e W' ⟨he, bel⟩ => ?_
  subst he
  exact ⟨_, rfl, law_post laid_out (by kernel_rfl) rfl Try.underlying4 rfl hW' rfl rfl rfl bel⟩

set_option maxRecDepth 100000 in
theorem lifted (os : Os) (started : os.Started) (H : Type) (enc : TypeId × Value → H) :
    ReturnsInHanded {} Try.checked os 7 .any (Rows.diskTearsSpec.pre6 enc Try.prog Try.f7 Rows.diskTearsRow.domain false) (Rows.diskTearsSpec.post enc Try.prog Try.f7 false true false false) := by
  refine returnsInHanded_of_change (C := Try.checked) own_knob started (by kernel_rfl) Try.func7
    (ChangeSpec.witness6 (enc := enc) (C := Try.checked) false ⟨#[], #[.int .u8 0, .slice none 0 0, .slice none 0 0], []⟩ 8 (by kernel_rfl) (by kernel_rfl) (by kernel_rfl) (by kernel_rfl)) ?_
  intro W base args ds gs before hval hW hcnd _
  exact contract H enc W base args ds gs before hval hW

theorem over : Rows.diskTearsRow.holds Try.pinned (OpenSpec.ofChange Rows.diskTearsSpec) :=
  OpenClaim.holds_of_wide 7 Try.f7 rfl rfl rfl rfl rfl rfl rfl ⟨rfl, rfl, rfl, rfl, rfl⟩ rfl rfl rfl rfl rfl (by kernel_rfl) Try.func7 (by kernel_rfl)
    (of_decide_eq_true (by kernel_rfl)) (by unfold Func.isWrapper; first | (rw [if_pos (by decide +kernel)]; kernel_rfl) | (rw [if_neg (by decide +kernel)]; exact ⟨rfl, rfl⟩))
    (fun os started H enc _ => lifted os started H enc)

theorem proved : Rows.DiskTearsSaid := over
end pDiskTears
end Go.Proofs.Ytepdfeegklinfaa
