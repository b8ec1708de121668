/-
  CheckpointHonest holds of the program: the given statement CheckpointHonestUptoSaid. Conditions: the arguments are of bulk at most 1048576 (the statement's own).
-/
import Derived.Test.YtjjpdnpbhdcpbaaGreatHLCkHonest
import Derived.Test.YtjjpdnpbhdcpbaaGreatHPa
namespace Go.Proofs.YtjjpdnpbhdcpbaaGreat
set_option linter.unusedVariables false
open Go.ChangeShapes hiding strs
open Go.WideShapes Go.ChangeAt Go.RowKit
namespace pCheckpointHonest
set_option maxRecDepth 20000 in
theorem contract (H : Type) (enc : TypeId × Value → H) (W : World) (base : Nat) (args : Array Value) (ds gs : List (DataW H)) (before : List MemPlace)
 (hval : ∀ (j : Nat) t v, Tryz.f8.params[j]? = some t → args[j]? = some v → Value.okWide Tryz.prog W .any base t v)
 (hW : DataW.Whole enc Tryz.prog Tryz.f8.params.toList Rows.checkpointHonestSpec.vars false W args.toList ds gs before) (hk : Rows.uptoSmall H (ds ++ gs) = true) :
 Calls Tryz.prog 8 args W fun e W' => ∃ v, e = .returned v ∧ Rows.checkpointHonestSpec.post enc Tryz.prog Tryz.f8 false true false false W args v W' := by
 have hW' := hW
 obtain ⟨p, q, hA0, hV, rfl, hfz, hnd⟩ := hW
 have hA : DataW.TrodAll enc Tryz.prog W 0 (fun _ => true) true Tryz.f8.params.toList args.toList ds p := hA0
 rw [Tryz.params8] at hA hval
 obtain ⟨v0, vs0, d0, ds0, p0, q0, hargs, rfl, rfl, k0, r0⟩ := trodAll_cons hA
 obtain ⟨v1, vs1, d1, ds1, p1, q1, rfl, rfl, rfl, k1, r1⟩ := trodAll_cons r0
 obtain ⟨rfl, rfl, rfl⟩ := trodAll_nil r1
 obtain rfl : args = #[v0, v1] := by cases args; simp_all
 obtain ⟨rfl, rfl⟩ := trodVars_none hV
 have hb := bulk_all hk
 simp only [List.append_nil, Rows.uptoBulkAll] at hb
 obtain ⟨AD, D, cD, rfl, hRD, hnilD, hlcD, hcmD, hLsD, hdD⟩ := open_strs Tryz.underlying27 Tryz.underlying9 (by kernel_rfl) (hval 0 27 v0 rfl rfl) k0
 have hbsD := bulk_slice hdD
 obtain ⟨AV, V, cV, rfl, hnilV, hlcV, hcmV, hRV⟩ := open_vals Tryz.underlying76 Tryz.underlying5 (by kernel_rfl) (hval 1 76 v1 rfl rfl) k1
 refine (ckHonest_walk AD D cD AV V cV W hRD (by unfold weight; omega) hRV).mono fun e W' ⟨he, bel⟩ => ?_
 subst he
 exact ⟨_, rfl, law_post laid_out (by kernel_rfl) rfl Tryz.underlying4 rfl hW' rfl rfl rfl bel⟩
set_option maxRecDepth 100000 in
theorem lifted (os : Os) (started : os.Started) (H : Type) (enc : TypeId × Value → H) (F : Stop.Interp) :
 ReturnsInHanded {} Tryz.checked os 8 .any ((Rows.OpenSpec.upto Rows.checkpointHonestSpec).pre6 enc Tryz.prog Tryz.f8 Rows.checkpointHonestUptoRow.domain false) (((Rows.OpenSpec.upto Rows.checkpointHonestSpec).at F).post enc Tryz.prog Tryz.f8 false true false false) := by
 refine returnsInHanded_of_cond (C := Tryz.checked) (s := Rows.OpenSpec.upto Rows.checkpointHonestSpec) (k := Rows.uptoSmall) rfl own_knob started (by kernel_rfl) Tryz.func8
  (OpenSpec.witness (enc := enc) (C := Tryz.checked) (s := Rows.OpenSpec.upto Rows.checkpointHonestSpec) (k := Rows.uptoSmall) rfl false ⟨#[], #[.slice none 0 0, .slice none 0 0], []⟩ 8 (by kernel_rfl) (by kernel_rfl) (by kernel_rfl)
    (x := ([.nil, .nil], [], [])) (by kernel_rfl) rfl (by kernel_rfl)) ?_
 intro W base args ds gs before hval hW _ hk _
 exact contract H enc W base args ds gs before hval hW hk
theorem over : Rows.checkpointHonestUptoRow.holds Tryz.pinned (Rows.OpenSpec.upto Rows.checkpointHonestSpec) :=
 OpenClaim.holds_of_cond 8 Tryz.f8 rfl rfl rfl rfl rfl rfl rfl ⟨rfl, rfl, rfl, rfl, rfl⟩ rfl rfl rfl rfl rfl (by kernel_rfl) Tryz.func8 (by kernel_rfl)
  (of_decide_eq_true (by kernel_rfl)) (by unfold Func.isWrapper; first | (rw [if_pos (by decide +kernel)]; kernel_rfl) | (rw [if_neg (by decide +kernel)]; exact ⟨rfl, rfl⟩))
  (fun os started H enc _ F => lifted os started H enc F)
theorem proved : Rows.CheckpointHonestUptoSaid := over
end pCheckpointHonest
end Go.Proofs.YtjjpdnpbhdcpbaaGreat
