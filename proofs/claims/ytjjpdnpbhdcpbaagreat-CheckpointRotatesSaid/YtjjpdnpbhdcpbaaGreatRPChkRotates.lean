/-
  CheckpointRotates holds of the program: the given statement CheckpointRotatesSaid. Conditions: none.
-/
import Derived.Test.YtjjpdnpbhdcpbaaGreatRLCkRotates
import Derived.Test.YtjjpdnpbhdcpbaaGreatRPa
namespace Go.Proofs.YtjjpdnpbhdcpbaaGreat
set_option linter.unusedVariables false
open Go.ChangeShapes hiding strs
open Go.WideShapes Go.ChangeAt Go.RowKit
namespace pCheckpointRotates
set_option maxRecDepth 20000 in
theorem contract (H : Type) (enc : TypeId × Value → H) (W : World) (base : Nat) (args : Array Value) (ds gs : List (DataW H)) (before : List MemPlace)
 (hval : ∀ (j : Nat) t v, Tryz.f10.params[j]? = some t → args[j]? = some v → Value.okWide Tryz.prog W .any base t v)
 (hW : DataW.Whole enc Tryz.prog Tryz.f10.params.toList Rows.checkpointRotatesSpec.vars false W args.toList ds gs before) :
 Calls Tryz.prog 10 args W fun e W' => ∃ v, e = .returned v ∧ Rows.checkpointRotatesSpec.post enc Tryz.prog Tryz.f10 false true false false W args v W' := by
 have hW' := hW
 obtain ⟨p, q, hA0, hV, rfl, hfz, hnd⟩ := hW
 have hA : DataW.TrodAll enc Tryz.prog W 0 (fun _ => true) true Tryz.f10.params.toList args.toList ds p := hA0
 rw [Tryz.params10] at hA hval
 obtain ⟨v0, vs0, d0, ds0, p0, q0, hargs, rfl, rfl, k0, r0⟩ := trodAll_cons hA
 obtain ⟨v1, vs1, d1, ds1, p1, q1, rfl, rfl, rfl, k1, r1⟩ := trodAll_cons r0
 obtain ⟨rfl, rfl, rfl⟩ := trodAll_nil r1
 obtain rfl : args = #[v0, v1] := by cases args; simp_all
 obtain ⟨rfl, rfl⟩ := trodVars_none hV
 obtain ⟨AL, L, cL, rfl, hnilL, hlcL, hcmL, hRL⟩ := open_vals Tryz.underlying76 Tryz.underlying5 (by kernel_rfl) (hval 0 76 v0 rfl rfl) k0
 obtain ⟨dr, rfl, rfl, rfl, wdr⟩ := Go.ChangeShapes.open_int Tryz.underlying5 (hval 1 5 v1 rfl rfl) k1
 obtain ⟨qdr, rfl⟩ : ∃ m : Nat, dr = m := ⟨dr.toNat, by have := u8_bounds wdr; omega⟩
 refine (ckRotates_walk AL L cL qdr W (by have := u8_bounds wdr; omega) hRL hlcL hcmL).mono fun e W' ⟨he, bel⟩ => ?_
 subst he
 exact ⟨_, rfl, law_post laid_out (by kernel_rfl) rfl Tryz.underlying4 rfl hW' rfl rfl rfl bel⟩
set_option maxRecDepth 100000 in
theorem lifted (os : Os) (started : os.Started) (H : Type) (enc : TypeId × Value → H) :
 ReturnsInHanded {} Tryz.checked os 10 .any (Rows.checkpointRotatesSpec.pre6 enc Tryz.prog Tryz.f10 Rows.checkpointRotatesRow.domain false) (Rows.checkpointRotatesSpec.post enc Tryz.prog Tryz.f10 false true false false) := by
 refine returnsInHanded_of_change (C := Tryz.checked) own_knob started (by kernel_rfl) Tryz.func10
  (ChangeSpec.witness6 (enc := enc) (C := Tryz.checked) false ⟨#[], #[.slice none 0 0, .int .u8 0], []⟩ 8 (by kernel_rfl) (by kernel_rfl) (by kernel_rfl) (by kernel_rfl)) ?_
 intro W base args ds gs before hval hW hcnd _
 exact contract H enc W base args ds gs before hval hW
theorem over : Rows.checkpointRotatesRow.holds Tryz.pinned (OpenSpec.ofChange Rows.checkpointRotatesSpec) :=
 OpenClaim.holds_of_wide 10 Tryz.f10 rfl rfl rfl rfl rfl rfl rfl ⟨rfl, rfl, rfl, rfl, rfl⟩ rfl rfl rfl rfl rfl (by kernel_rfl) Tryz.func10 (by kernel_rfl)
  (of_decide_eq_true (by kernel_rfl)) (by unfold Func.isWrapper; first | (rw [if_pos (by decide +kernel)]; kernel_rfl) | (rw [if_neg (by decide +kernel)]; exact ⟨rfl, rfl⟩))
  (fun os started H enc _ => lifted os started H enc)
theorem proved : Rows.CheckpointRotatesSaid := over
end pCheckpointRotates
end Go.Proofs.YtjjpdnpbhdcpbaaGreat
