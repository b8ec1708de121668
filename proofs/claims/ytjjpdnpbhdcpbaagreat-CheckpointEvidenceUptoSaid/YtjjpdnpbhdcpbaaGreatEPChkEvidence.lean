/-
  CheckpointEvidence holds of the program: the given statement CheckpointEvidenceUptoSaid. Conditions: the arguments are of bulk at most 1048576 (the statement's own).
-/
import Derived.Test.YtjjpdnpbhdcpbaaGreatEPc
import Derived.Test.YtjjpdnpbhdcpbaaGreatEPa
namespace Go.Proofs.YtjjpdnpbhdcpbaaGreat
set_option linter.unusedVariables false
open Go.ChangeShapes hiding strs
open Go.WideShapes Go.ChangeAt Go.RowKit
namespace pCheckpointEvidence
set_option maxRecDepth 20000 in
theorem contract (H : Type) (enc : TypeId × Value → H) (W : World) (base : Nat) (args : Array Value) (ds gs : List (DataW H)) (before : List MemPlace)
 (hval : ∀ (j : Nat) t v, Tryz.f7.params[j]? = some t → args[j]? = some v → Value.okWide Tryz.prog W .any base t v)
 (hW : DataW.Whole enc Tryz.prog Tryz.f7.params.toList Rows.checkpointEvidenceSpec.vars false W args.toList ds gs before) (hk : Rows.uptoSmall H (ds ++ gs) = true) :
 Calls Tryz.prog 7 args W fun e W' => ∃ v, e = .returned v ∧ Rows.checkpointEvidenceSpec.post enc Tryz.prog Tryz.f7 false true false false W args v W' := by
 have hW' := hW
 obtain ⟨p, q, hA0, hV, rfl, hfz, hnd⟩ := hW
 have hA : DataW.TrodAll enc Tryz.prog W 0 (fun _ => true) true Tryz.f7.params.toList args.toList ds p := hA0
 rw [Tryz.params7] at hA hval
 obtain ⟨v0, vs0, d0, ds0, p0, q0, hargs, rfl, rfl, k0, r0⟩ := trodAll_cons hA
 obtain ⟨v1, vs1, d1, ds1, p1, q1, rfl, rfl, rfl, k1, r1⟩ := trodAll_cons r0
 obtain ⟨v2, vs2, d2, ds2, p2, q2, rfl, rfl, rfl, k2, r2⟩ := trodAll_cons r1
 obtain ⟨rfl, rfl, rfl⟩ := trodAll_nil r2
 obtain rfl : args = #[v0, v1, v2] := by cases args; simp_all
 obtain ⟨rfl, rfl⟩ := trodVars_none hV
 have hb := bulk_all hk
 simp only [List.append_nil, Rows.uptoBulkAll] at hb
 obtain ⟨pub, rfl, rfl, mpub⟩ := open_bytes Tryz.underlying9 (hval 0 9 v0 rfl rfl) k0
 obtain ⟨x, x', rx, Ax, Lx, cx, rfl, inx, inx', hRx, hlcx, hcmx, hwx⟩ := open_ev ckT ⟨_, _, _, _, Tryz.underlying70, rfl, rfl, rfl, rfl, rfl, rfl, rfl, rfl⟩ (by kernel_rfl) (hval 1 70 v1 rfl rfl) k1
 obtain ⟨AL, L, cL, rfl, hRL, hnilL, hlcL, hcmL, hLsL, hdL⟩ := open_strs Tryz.underlying27 Tryz.underlying9 (by kernel_rfl) (hval 2 27 v2 rfl rfl) k2
 have hbsL := bulk_slice hdL
 simp only [Rows.uptoBulk] at hb
 refine (ckEvidence_walk pub x x' rx Ax Lx cx AL L cL W inx.1 (inx.2.1 (by omega)) inx'.1 (inx'.2.1 (by omega)) hRx hlcx hcmx (by omega) hRL hlcL hcmL (by unfold weight; omega)).mono fun e W' ⟨he, bel⟩ => ?_
 subst he
 exact ⟨_, rfl, law_post laid_out (by kernel_rfl) rfl Tryz.underlying4 rfl hW' rfl rfl rfl bel⟩
set_option maxRecDepth 100000 in
theorem lifted (os : Os) (started : os.Started) (H : Type) (enc : TypeId × Value → H) (F : Stop.Interp) :
 ReturnsInHanded {} Tryz.checked os 7 .any ((Rows.OpenSpec.upto Rows.checkpointEvidenceSpec).pre6 enc Tryz.prog Tryz.f7 Rows.checkpointEvidenceUptoRow.domain false) (((Rows.OpenSpec.upto Rows.checkpointEvidenceSpec).at F).post enc Tryz.prog Tryz.f7 false true false false) := by
 refine returnsInHanded_of_cond (C := Tryz.checked) (s := Rows.OpenSpec.upto Rows.checkpointEvidenceSpec) (k := Rows.uptoSmall) rfl own_knob started (by kernel_rfl) Tryz.func7
  (OpenSpec.witness (enc := enc) (C := Tryz.checked) (s := Rows.OpenSpec.upto Rows.checkpointEvidenceSpec) (k := Rows.uptoSmall) rfl false ⟨#[], #[.string .empty, .agg #[.string .empty, .int .i64 0, .string .empty, .int .i64 0, .slice none 0 0, .slice none 0 0, .slice none 0 0, .string .empty, .int .i64 0, .string .empty, .int .i64 0, .slice none 0 0, .slice none 0 0, .slice none 0 0, .string .empty, .slice none 0 0], .slice none 0 0], []⟩ 8 (by kernel_rfl) (by kernel_rfl) (by kernel_rfl)
    (x := ([.lit (.string []), .agg [.agg [.agg [.lit (.string []), .lit (.int .i64 0), .lit (.string [])], .agg [.lit (.int .i64 0), .nil, .nil], .nil], .agg [.agg [.lit (.string []), .lit (.int .i64 0), .lit (.string [])], .agg [.lit (.int .i64 0), .nil, .nil], .nil], .lit (.string []), .nil], .nil], [], [])) (by kernel_rfl) rfl (by kernel_rfl)) ?_
 intro W base args ds gs before hval hW _ hk _
 exact contract H enc W base args ds gs before hval hW hk
theorem over : Rows.checkpointEvidenceUptoRow.holds Tryz.pinned (Rows.OpenSpec.upto Rows.checkpointEvidenceSpec) :=
 OpenClaim.holds_of_cond 7 Tryz.f7 rfl rfl rfl rfl rfl rfl rfl ⟨rfl, rfl, rfl, rfl, rfl⟩ rfl rfl rfl rfl rfl (by kernel_rfl) Tryz.func7 (by kernel_rfl)
  (of_decide_eq_true (by kernel_rfl)) (by unfold Func.isWrapper; first | (rw [if_pos (by decide +kernel)]; kernel_rfl) | (rw [if_neg (by decide +kernel)]; exact ⟨rfl, rfl⟩))
  (fun os started H enc _ F => lifted os started H enc F)
theorem proved : Rows.CheckpointEvidenceUptoSaid := over
end pCheckpointEvidence
end Go.Proofs.YtjjpdnpbhdcpbaaGreat
