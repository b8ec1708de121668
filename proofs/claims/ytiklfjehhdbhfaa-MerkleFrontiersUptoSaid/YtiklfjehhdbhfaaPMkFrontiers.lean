/-
  MerkleFrontiers holds of the program: the given statement MerkleFrontiersUptoSaid. Conditions: the arguments are of bulk at most 1048576 (the statement's own).
-/
import Derived.Test.YtiklfjehhdbhfaaLMkFrontiers
import Derived.Test.YtiklfjehhdbhfaaOpenF
import Derived.Test.YtiklfjehhdbhfaaFrame
namespace Go.Proofs.Ytiklfjehhdbhfaa
set_option linter.unusedVariables false
open Go.ChangeShapes hiding strs
open Go.WideShapes Go.ChangeAt Go.RowKit
namespace pMerkleFrontiers

set_option maxRecDepth 20000 in
theorem contract (H : Type) (enc : TypeId × Value → H) (W : World) (base : Nat) (args : Array Value) (ds gs : List (DataW H)) (before : List MemPlace)
    (hval : ∀ (j : Nat) t v, Try.f4.params[j]? = some t → args[j]? = some v → Value.okWide Try.prog W .any base t v)
    (hW : DataW.Whole enc Try.prog Try.f4.params.toList Rows.merkleFrontiersSpec.vars false W args.toList ds gs before) (hk : Rows.uptoSmall H (ds ++ gs) = true) :
    Calls Try.prog 4 args W fun e W' => ∃ v, e = .returned v ∧ Rows.merkleFrontiersSpec.post enc Try.prog Try.f4 false true false false W args v W' := by
  have hW' := hW
  obtain ⟨p, q, hA0, hV, rfl, hfz, hnd⟩ := hW
  have hA : DataW.TrodAll enc Try.prog W 0 (fun _ => true) true Try.f4.params.toList args.toList ds p := hA0
  rw [Try.params4] at hA hval
  obtain ⟨v0, vs0, d0, ds0, p0, q0, hargs, rfl, rfl, k0, r0⟩ := trodAll_cons hA
  obtain ⟨v1, vs1, d1, ds1, p1, q1, rfl, rfl, rfl, k1, r1⟩ := trodAll_cons r0
  obtain ⟨rfl, rfl, rfl⟩ := trodAll_nil r1
  obtain rfl : args = #[v0, v1] := by cases args; simp_all
  obtain ⟨rfl, rfl⟩ := trodVars_none hV
  have hb := bulk_all hk
  simp only [List.append_nil, Rows.uptoBulkAll] at hb
  obtain ⟨zL, AL, L, cL, rfl, hRL, hnilL, hlcL, hcmL, wL, hbsL⟩ := open_frontier Try.underlying34 (by kernel_rfl) (by kernel_rfl) rfl rfl Try.underlying3 Try.underlying22 Try.underlying9 (by kernel_rfl) (hval 0 34 v0 rfl rfl) k0
  obtain ⟨x, rfl, rfl, mx⟩ := open_bytes Try.underlying9 (hval 1 9 v1 rfl rfl) k1
  simp only [Rows.uptoBulk] at hb
  refine (merkleFrontiers_walk zL AL L cL x W (i64_bounds wL).1 (i64_bounds wL).2 hRL hnilL hlcL (by unfold weight; omega)).mono fun e W' ⟨he, bel⟩ => ?_
  subst he
  exact ⟨_, rfl, law_post laid_out (by kernel_rfl) rfl Try.underlying4 rfl hW' rfl rfl rfl bel⟩

set_option maxRecDepth 100000 in
theorem lifted (os : Os) (started : os.Started) (H : Type) (enc : TypeId × Value → H) (F : Stop.Interp) :
    ReturnsInHanded {} Try.checked os 4 .any ((Rows.OpenSpec.upto Rows.merkleFrontiersSpec).pre6 enc Try.prog Try.f4 Rows.merkleFrontiersUptoRow.domain false) (((Rows.OpenSpec.upto Rows.merkleFrontiersSpec).at F).post enc Try.prog Try.f4 false true false false) := by
  refine returnsInHanded_of_cond (C := Try.checked) (s := Rows.OpenSpec.upto Rows.merkleFrontiersSpec) (k := Rows.uptoSmall) rfl own_knob started (by kernel_rfl) Try.func4
    (OpenSpec.witness (enc := enc) (C := Try.checked) (s := Rows.OpenSpec.upto Rows.merkleFrontiersSpec) (k := Rows.uptoSmall) rfl false ⟨#[], #[.agg #[.int .i64 0, .slice none 0 0], .string .empty], []⟩ 8 (by kernel_rfl) (by kernel_rfl) (by kernel_rfl)
      (x := ([.agg [.lit (.int .i64 0), .nil], .lit (.string [])], [], [])) (by kernel_rfl) rfl (by kernel_rfl)) ?_
  intro W base args ds gs before hval hW _ hk _
  exact contract H enc W base args ds gs before hval hW hk

theorem over : Rows.merkleFrontiersUptoRow.holds Try.pinned (Rows.OpenSpec.upto Rows.merkleFrontiersSpec) :=
  OpenClaim.holds_of_cond 4 Try.f4 rfl rfl rfl rfl rfl rfl rfl ⟨rfl, rfl, rfl, rfl, rfl⟩ rfl rfl rfl rfl rfl (by kernel_rfl) Try.func4 (by kernel_rfl)
    (of_decide_eq_true (by kernel_rfl)) (by unfold Func.isWrapper; first | (rw [if_pos (by decide +kernel)]; kernel_rfl) | (rw [if_neg (by decide +kernel)]; exact ⟨rfl, rfl⟩))
    (fun os started H enc _ F => lifted os started H enc F)

theorem proved : Rows.MerkleFrontiersUptoSaid := over
end pMerkleFrontiers
end Go.Proofs.Ytiklfjehhdbhfaa
