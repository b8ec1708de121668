/-
  CheckpointBytes holds of the program: the given statement CheckpointBytesUptoSaid. Conditions: the arguments are of bulk at most 1048576 (the statement's own).
-/
import Derived.Test.YtjjpdnpbhdcpbaaGreatBLCkBytes
import Derived.Test.YtjjpdnpbhdcpbaaGreatBOpenCT
import Derived.Test.YtjjpdnpbhdcpbaaGreatBPa
namespace Go.Proofs.YtjjpdnpbhdcpbaaGreat
set_option linter.unusedVariables false
open Go.ChangeShapes hiding strs
open Go.WideShapes Go.ChangeAt Go.RowKit
namespace pCheckpointBytes
set_option maxRecDepth 20000 in
theorem contract (H : Type) (enc : TypeId × Value → H) (W : World) (base : Nat) (args : Array Value) (ds gs : List (DataW H)) (before : List MemPlace)
 (hval : ∀ (j : Nat) t v, Tryz.f5.params[j]? = some t → args[j]? = some v → Value.okWide Tryz.prog W .any base t v)
 (hW : DataW.Whole enc Tryz.prog Tryz.f5.params.toList Rows.checkpointBytesSpec.vars false W args.toList ds gs before) (hk : Rows.uptoSmall H (ds ++ gs) = true) :
 Calls Tryz.prog 5 args W fun e W' => ∃ v, e = .returned v ∧ Rows.checkpointBytesSpec.post enc Tryz.prog Tryz.f5 false true false false W args v W' := by
 have hW' := hW
 obtain ⟨p, q, hA0, hV, rfl, hfz, hnd⟩ := hW
 have hA : DataW.TrodAll enc Tryz.prog W 0 (fun _ => true) true Tryz.f5.params.toList args.toList ds p := hA0
 rw [Tryz.params5] at hA hval
 obtain ⟨v0, vs0, d0, ds0, p0, q0, hargs, rfl, rfl, k0, r0⟩ := trodAll_cons hA
 obtain ⟨v1, vs1, d1, ds1, p1, q1, rfl, rfl, rfl, k1, r1⟩ := trodAll_cons r0
 obtain ⟨rfl, rfl, rfl⟩ := trodAll_nil r1
 obtain rfl : args = #[v0, v1] := by cases args; simp_all
 obtain ⟨rfl, rfl⟩ := trodVars_none hV
 have hb := bulk_all hk
 simp only [List.append_nil, Rows.uptoBulkAll] at hb
 obtain ⟨x, rfl, okx, fewx, ix⟩ := open_ck ckT (hval 0 32 v0 rfl rfl) k0
 obtain ⟨data, rfl, rfl, mdata⟩ := open_bytes Tryz.underlying9 (hval 1 9 v1 rfl rfl) k1
 simp only [Rows.uptoBulk] at hb
 refine (ckBytes_walk x data W okx (fewx (by omega)) ix).mono fun e W' ⟨he, bel⟩ => ?_
 subst he
 exact ⟨_, rfl, law_post laid_out (by kernel_rfl) rfl Tryz.underlying4 rfl hW' rfl rfl rfl bel⟩
set_option maxRecDepth 100000 in
theorem lifted (os : Os) (started : os.Started) (H : Type) (enc : TypeId × Value → H) (F : Stop.Interp) :
 ReturnsInHanded {} Tryz.checked os 5 .any ((Rows.OpenSpec.upto Rows.checkpointBytesSpec).pre6 enc Tryz.prog Tryz.f5 Rows.checkpointBytesUptoRow.domain false) (((Rows.OpenSpec.upto Rows.checkpointBytesSpec).at F).post enc Tryz.prog Tryz.f5 false true false false) := by
 refine returnsInHanded_of_cond (C := Tryz.checked) (s := Rows.OpenSpec.upto Rows.checkpointBytesSpec) (k := Rows.uptoSmall) rfl own_knob started (by kernel_rfl) Tryz.func5
  (OpenSpec.witness (enc := enc) (C := Tryz.checked) (s := Rows.OpenSpec.upto Rows.checkpointBytesSpec) (k := Rows.uptoSmall) rfl false ⟨#[], #[.agg #[.string .empty, .int .i64 0, .string .empty, .int .i64 0, .slice none 0 0, .slice none 0 0, .slice none 0 0], .string .empty], []⟩ 8 (by kernel_rfl) (by kernel_rfl) (by kernel_rfl)
    (x := ([.agg [.agg [.lit (.string []), .lit (.int .i64 0), .lit (.string [])], .agg [.lit (.int .i64 0), .nil, .nil], .nil], .lit (.string [])], [], [])) (by kernel_rfl) rfl (by kernel_rfl)) ?_
 intro W base args ds gs before hval hW _ hk _
 exact contract H enc W base args ds gs before hval hW hk
theorem over : Rows.checkpointBytesUptoRow.holds Tryz.pinned (Rows.OpenSpec.upto Rows.checkpointBytesSpec) :=
 OpenClaim.holds_of_cond 5 Tryz.f5 rfl rfl rfl rfl rfl rfl rfl ⟨rfl, rfl, rfl, rfl, rfl⟩ rfl rfl rfl rfl rfl (by kernel_rfl) Tryz.func5 (by kernel_rfl)
  (of_decide_eq_true (by kernel_rfl)) (by unfold Func.isWrapper; first | (rw [if_pos (by decide +kernel)]; kernel_rfl) | (rw [if_neg (by decide +kernel)]; exact ⟨rfl, rfl⟩))
  (fun os started H enc _ F => lifted os started H enc F)
theorem proved : Rows.CheckpointBytesUptoSaid := over
end pCheckpointBytes
end Go.Proofs.YtjjpdnpbhdcpbaaGreat
