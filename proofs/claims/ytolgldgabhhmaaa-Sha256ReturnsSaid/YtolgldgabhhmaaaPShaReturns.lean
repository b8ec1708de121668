/-
  Sha256Returns holds of the program: the given statement Sha256ReturnsSaid. Conditions: none.
-/
import Derived.Test.YtolgldgabhhmaaaLShReturns
import Derived.Test.YtolgldgabhhmaaaFrame
namespace Go.Proofs.Ytolgldgabhhmaaa
set_option linter.unusedVariables false
open Go.ChangeShapes hiding strs
open Go.WideShapes Go.ChangeAt Go.RowKit
namespace pSha256Returns

set_option maxRecDepth 20000 in
theorem contract (H : Type) (enc : TypeId × Value → H) (W : World) (base : Nat) (args : Array Value) (ds gs : List (DataW H)) (before : List MemPlace)
    (hval : ∀ (j : Nat) t v, Try.f6.params[j]? = some t → args[j]? = some v → Value.okWide Try.prog W .any base t v)
    (hW : DataW.Whole enc Try.prog Try.f6.params.toList Rows.sha256ReturnsSpec.vars false W args.toList ds gs before) :
    Calls Try.prog 6 args W fun e W' => ∃ v, e = .returned v ∧ Rows.sha256ReturnsSpec.post enc Try.prog Try.f6 false true false false W args v W' := by
  have hW' := hW
  obtain ⟨p, q, hA0, hV, rfl, hfz, hnd⟩ := hW
  have hA : DataW.TrodAll enc Try.prog W 0 (fun _ => true) true Try.f6.params.toList args.toList ds p := hA0
  rw [Try.params6] at hA hval
  obtain ⟨v0, vs0, d0, ds0, p0, q0, hargs, rfl, rfl, k0, r0⟩ := trodAll_cons hA
  obtain ⟨v1, vs1, d1, ds1, p1, q1, rfl, rfl, rfl, k1, r1⟩ := trodAll_cons r0
  obtain ⟨v2, vs2, d2, ds2, p2, q2, rfl, rfl, rfl, k2, r2⟩ := trodAll_cons r1
  obtain ⟨rfl, rfl, rfl⟩ := trodAll_nil r2
  obtain rfl : args = #[v0, v1, v2] := by cases args; simp_all
  obtain ⟨rfl, rfl⟩ := trodVars_none hV
  obtain ⟨s, rfl, rfl, ms⟩ := open_bytes Try.underlying9 (hval 0 9 v0 rfl rfl) k0
  obtain ⟨at_, rfl, rfl, rfl, wat_⟩ := Go.ChangeShapes.open_int Try.underlying5 (hval 1 5 v1 rfl rfl) k1
  obtain ⟨xor_, rfl, rfl, rfl, wxor_⟩ := Go.ChangeShapes.open_int Try.underlying5 (hval 2 5 v2 rfl rfl) k2
  obtain ⟨qat_, rfl⟩ : ∃ m : Nat, at_ = m := ⟨at_.toNat, by have := u8_bounds wat_; omega⟩
  obtain ⟨qxor_, rfl⟩ : ∃ m : Nat, xor_ = m := ⟨xor_.toNat, by have := u8_bounds wxor_; omega⟩
  refine (shaReturns_walk s qat_ qxor_ ms (by have := u8_bounds wat_; omega) (by have := u8_bounds wxor_; omega) W).mono fun e W' ⟨he, bel⟩ => ?_
  subst he
  exact ⟨_, rfl, law_post laid_out (by kernel_rfl) rfl Try.underlying4 rfl hW' rfl rfl rfl bel⟩

set_option maxRecDepth 100000 in
theorem lifted (os : Os) (started : os.Started) (H : Type) (enc : TypeId × Value → H) :
    ReturnsInHanded {} Try.checked os 6 .any (Rows.sha256ReturnsSpec.pre6 enc Try.prog Try.f6 Rows.sha256ReturnsRow.domain false) (Rows.sha256ReturnsSpec.post enc Try.prog Try.f6 false true false false) := by
  refine returnsInHanded_of_change (C := Try.checked) own_knob started (by kernel_rfl) Try.func6
    (ChangeSpec.witness6 (enc := enc) (C := Try.checked) false ⟨#[], #[.string .empty, .int .u8 0, .int .u8 0], []⟩ 8 (by kernel_rfl) (by kernel_rfl) (by kernel_rfl) (by kernel_rfl)) ?_
  intro W base args ds gs before hval hW hcnd _
  exact contract H enc W base args ds gs before hval hW

theorem over : Rows.sha256ReturnsRow.holds Try.pinned (OpenSpec.ofChange Rows.sha256ReturnsSpec) :=
  OpenClaim.holds_of_wide 6 Try.f6 rfl rfl rfl rfl rfl rfl rfl ⟨rfl, rfl, rfl, rfl, rfl⟩ rfl rfl rfl rfl rfl (by kernel_rfl) Try.func6 (by kernel_rfl)
    (of_decide_eq_true (by kernel_rfl)) (by unfold Func.isWrapper; first | (rw [if_pos (by decide +kernel)]; kernel_rfl) | (rw [if_neg (by decide +kernel)]; exact ⟨rfl, rfl⟩))
    (fun os started H enc _ => lifted os started H enc)

theorem proved : Rows.Sha256ReturnsSaid := over
end pSha256Returns
end Go.Proofs.Ytolgldgabhhmaaa
