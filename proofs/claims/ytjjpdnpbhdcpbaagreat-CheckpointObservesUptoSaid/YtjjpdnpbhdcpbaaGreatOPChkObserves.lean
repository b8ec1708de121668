/-
  CheckpointObserves holds of the program: the given statement CheckpointObservesUptoSaid. Conditions: the arguments are of bulk at most 1048576 (the statement's own).
-/
import Derived.Test.YtjjpdnpbhdcpbaaGreatOLCkObserves
import Derived.Test.YtjjpdnpbhdcpbaaGreatOOpenCT
import Derived.Test.YtjjpdnpbhdcpbaaGreatOPa
namespace Go.Proofs.YtjjpdnpbhdcpbaaGreat
set_option linter.unusedVariables false
open Go.ChangeShapes hiding strs
open Go.WideShapes Go.ChangeAt Go.RowKit
namespace pCheckpointObserves
set_option maxRecDepth 20000 in
theorem contract (H : Type) (enc : TypeId × Value → H) (W : World) (base : Nat) (args : Array Value) (ds gs : List (DataW H)) (before : List MemPlace)
 (hval : ∀ (j : Nat) t v, Tryz.f6.params[j]? = some t → args[j]? = some v → Value.okWide Tryz.prog W .any base t v)
 (hW : DataW.Whole enc Tryz.prog Tryz.f6.params.toList Rows.checkpointObservesSpec.vars false W args.toList ds gs before) (hk : Rows.uptoSmall H (ds ++ gs) = true) :
 Calls Tryz.prog 6 args W fun e W' => ∃ v, e = .returned v ∧ Rows.checkpointObservesSpec.post enc Tryz.prog Tryz.f6 false true false false W args v W' := by
 have hW' := hW
 obtain ⟨p, q, hA0, hV, rfl, hfz, hnd⟩ := hW
 have hA : DataW.TrodAll enc Tryz.prog W 0 (fun _ => true) true Tryz.f6.params.toList args.toList ds p := hA0
 rw [Tryz.params6] at hA hval
 obtain ⟨v0, vs0, d0, ds0, p0, q0, hargs, rfl, rfl, k0, r0⟩ := trodAll_cons hA
 obtain ⟨v1, vs1, d1, ds1, p1, q1, rfl, rfl, rfl, k1, r1⟩ := trodAll_cons r0
 obtain ⟨v2, vs2, d2, ds2, p2, q2, rfl, rfl, rfl, k2, r2⟩ := trodAll_cons r1
 obtain ⟨rfl, rfl, rfl⟩ := trodAll_nil r2
 obtain rfl : args = #[v0, v1, v2] := by cases args; simp_all
 obtain ⟨rfl, rfl⟩ := trodVars_none hV
 have hb := bulk_all hk
 simp only [List.append_nil, Rows.uptoBulkAll] at hb
 obtain ⟨x, rfl, bwx⟩ := open_wit baseT ⟨_, _, _, Tryz.underlying23, rfl, rfl, rfl, rfl, rfl, rfl⟩ (by kernel_rfl) ckT.h ckT.H ⟨_, _, _, _, Tryz.underlying37, rfl, rfl, rfl, rfl, rfl, rfl, rfl, rfl⟩ (by kernel_rfl) (hval 0 37 v0 rfl rfl) k0
 obtain ⟨y, rfl, oky, fewy, iy⟩ := open_ck ckT (hval 1 32 v1 rfl rfl) k1
 obtain ⟨AP, P, cP, rfl, hRP, hnilP, hlcP, hcmP, hLsP, hdP⟩ := open_strs Tryz.underlying27 Tryz.underlying9 (by kernel_rfl) (hval 2 27 v2 rfl rfl) k2
 have hbsP := bulk_slice hdP
 refine (ckObserves_walk x y AP P cP W oky (fewy (by omega)) hRP hlcP hcmP (by unfold weight; omega) (by omega) (by omega) (by omega) (by omega) (by omega)).mono fun e W' ⟨he, bel⟩ => ?_
 subst he
 exact ⟨_, rfl, law_post laid_out (by kernel_rfl) rfl Tryz.underlying4 rfl hW' rfl rfl rfl bel⟩
set_option maxRecDepth 100000 in
theorem lifted (os : Os) (started : os.Started) (H : Type) (enc : TypeId × Value → H) (F : Stop.Interp) :
 ReturnsInHanded {} Tryz.checked os 6 .any ((Rows.OpenSpec.upto Rows.checkpointObservesSpec).pre6 enc Tryz.prog Tryz.f6 Rows.checkpointObservesUptoRow.domain false) (((Rows.OpenSpec.upto Rows.checkpointObservesSpec).at F).post enc Tryz.prog Tryz.f6 false true false false) := by
 refine returnsInHanded_of_cond (C := Tryz.checked) (s := Rows.OpenSpec.upto Rows.checkpointObservesSpec) (k := Rows.uptoSmall) rfl own_knob started (by kernel_rfl) Tryz.func6
  (OpenSpec.witness (enc := enc) (C := Tryz.checked) (s := Rows.OpenSpec.upto Rows.checkpointObservesSpec) (k := Rows.uptoSmall) rfl false ⟨#[], #[.agg #[.string .empty, .string .empty, .string .empty, .int .i64 0, .int .i64 0, .string .empty, .int .i64 0, .string .empty], .agg #[.string .empty, .int .i64 0, .string .empty, .int .i64 0, .slice none 0 0, .slice none 0 0, .slice none 0 0], .slice none 0 0], []⟩ 8 (by kernel_rfl) (by kernel_rfl) (by kernel_rfl)
    (x := ([.agg [.lit (.string []), .lit (.string []), .agg [.lit (.string []), .lit (.int .i64 0), .lit (.int .i64 0)], .agg [.lit (.string []), .lit (.int .i64 0), .lit (.string [])]], .agg [.agg [.lit (.string []), .lit (.int .i64 0), .lit (.string [])], .agg [.lit (.int .i64 0), .nil, .nil], .nil], .nil], [], [])) (by kernel_rfl) rfl (by kernel_rfl)) ?_
 intro W base args ds gs before hval hW _ hk _
 exact contract H enc W base args ds gs before hval hW hk
theorem over : Rows.checkpointObservesUptoRow.holds Tryz.pinned (Rows.OpenSpec.upto Rows.checkpointObservesSpec) :=
 OpenClaim.holds_of_cond 6 Tryz.f6 rfl rfl rfl rfl rfl rfl rfl ⟨rfl, rfl, rfl, rfl, rfl⟩ rfl rfl rfl rfl rfl (by kernel_rfl) Tryz.func6 (by kernel_rfl)
  (of_decide_eq_true (by kernel_rfl)) (by unfold Func.isWrapper; first | (rw [if_pos (by decide +kernel)]; kernel_rfl) | (rw [if_neg (by decide +kernel)]; exact ⟨rfl, rfl⟩))
  (fun os started H enc _ F => lifted os started H enc F)
theorem proved : Rows.CheckpointObservesUptoSaid := over
end pCheckpointObserves
end Go.Proofs.YtjjpdnpbhdcpbaaGreat
