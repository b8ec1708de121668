/-
  SignatureOnce holds of the program: the given statement SignatureOnceSaid. Conditions: none.
-/
import Derived.Test.YtnlpakalcckaiaaLSigOnce
import Derived.Test.YtnlpakalcckaiaaOpenU
import Derived.Test.YtnlpakalcckaiaaFrame
namespace Go.Proofs.Ytnlpakalcckaiaa
set_option linter.unusedVariables false
open Go.ChangeShapes hiding strs
open Go.WideShapes Go.ChangeAt Go.RowKit
namespace pSignatureOnce

set_option maxRecDepth 20000 in
theorem contract (H : Type) (enc : TypeId × Value → H) (W : World) (base : Nat) (args : Array Value) (ds gs : List (DataW H)) (before : List MemPlace)
    (hval : ∀ (j : Nat) t v, Try.f4.params[j]? = some t → args[j]? = some v → Value.okWide Try.prog W .any base t v)
    (hW : DataW.Whole enc Try.prog Try.f4.params.toList Rows.signatureOnceSpec.vars false W args.toList ds gs before) :
    Calls Try.prog 4 args W fun e W' => ∃ v, e = .returned v ∧ Rows.signatureOnceSpec.post enc Try.prog Try.f4 false true false false W args v W' := by
  have hW' := hW
  obtain ⟨p, q, hA0, hV, rfl, hfz, hnd⟩ := hW
  have hA : DataW.TrodAll enc Try.prog W 0 (fun _ => true) true Try.f4.params.toList args.toList ds p := hA0
  rw [Try.params4] at hA hval
  obtain ⟨v0, vs0, d0, ds0, p0, q0, hargs, rfl, rfl, k0, r0⟩ := trodAll_cons hA
  obtain ⟨v1, vs1, d1, ds1, p1, q1, rfl, rfl, rfl, k1, r1⟩ := trodAll_cons r0
  obtain ⟨v2, vs2, d2, ds2, p2, q2, rfl, rfl, rfl, k2, r2⟩ := trodAll_cons r1
  obtain ⟨rfl, rfl, rfl⟩ := trodAll_nil r2
  obtain rfl : args = #[v0, v1, v2] := by cases args; simp_all
  obtain ⟨rfl, rfl⟩ := trodVars_none hV
  obtain ⟨b, rfl, rfl, rfl, wb⟩ := Go.ChangeShapes.open_int Try.underlying5 (hval 0 5 v0 rfl rfl) k0
  obtain ⟨hh, rfl, rfl, rfl, whh⟩ := Go.ChangeShapes.open_int Try.underlying5 (hval 1 5 v1 rfl rfl) k1
  obtain ⟨AL, L, cL, rfl, hnilL, hlcL, hcmL, hRL⟩ := open_vals Try.underlying41 Try.underlying5 (by kernel_rfl) (hval 2 41 v2 rfl rfl) k2
  obtain ⟨qb, rfl⟩ : ∃ m : Nat, b = m := ⟨b.toNat, by have := u8_bounds wb; omega⟩
  obtain ⟨qhh, rfl⟩ : ∃ m : Nat, hh = m := ⟨hh.toNat, by have := u8_bounds whh; omega⟩
  refine (sigOnce_walk qb qhh AL L cL W (by have := u8_bounds wb; omega) (by have := u8_bounds whh; omega) hRL hlcL hcmL).mono fun e W' ⟨he, bel⟩ => ?_
  subst he
  exact ⟨_, rfl, law_post laid_out (by kernel_rfl) rfl Try.underlying4 rfl hW' rfl rfl rfl bel⟩

set_option maxRecDepth 100000 in
theorem lifted (os : Os) (started : os.Started) (H : Type) (enc : TypeId × Value → H) :
    ReturnsInHanded {} Try.checked os 4 .any (Rows.signatureOnceSpec.pre6 enc Try.prog Try.f4 Rows.signatureOnceRow.domain false) (Rows.signatureOnceSpec.post enc Try.prog Try.f4 false true false false) := by
  refine returnsInHanded_of_change (C := Try.checked) own_knob started (by kernel_rfl) Try.func4
    (ChangeSpec.witness6 (enc := enc) (C := Try.checked) false ⟨#[], #[.int .u8 0, .int .u8 0, .slice none 0 0], []⟩ 8 (by kernel_rfl) (by kernel_rfl) (by kernel_rfl) (by kernel_rfl)) ?_
  intro W base args ds gs before hval hW hcnd _
  exact contract H enc W base args ds gs before hval hW

theorem over : Rows.signatureOnceRow.holds Try.pinned (OpenSpec.ofChange Rows.signatureOnceSpec) :=
  OpenClaim.holds_of_wide 4 Try.f4 rfl rfl rfl rfl rfl rfl rfl ⟨rfl, rfl, rfl, rfl, rfl⟩ rfl rfl rfl rfl rfl (by kernel_rfl) Try.func4 (by kernel_rfl)
    (of_decide_eq_true (by kernel_rfl)) (by unfold Func.isWrapper; first | (rw [if_pos (by decide +kernel)]; kernel_rfl) | (rw [if_neg (by decide +kernel)]; exact ⟨rfl, rfl⟩))
    (fun os started H enc _ => lifted os started H enc)

theorem proved : Rows.SignatureOnceSaid := over
end pSignatureOnce
end Go.Proofs.Ytnlpakalcckaiaa
