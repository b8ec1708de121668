/-
  What Skip returns, in the program. Conditions: none.
-/
import Derived.Test.YtjjpdnpbhdcpbaaGreatQSgH
import Derived.Laws.ResultCell
namespace Go.Proofs.YtjjpdnpbhdcpbaaGreat
set_option linter.unusedVariables false
open Go.RowKit
theorem results_ct {P : Program} {fn : Func} {p u : Tmp} {ty : TypeId} (h : fn.results = #[.cell p ty, .tmp u]) (tmps : Array Value) (w : World) (g : Nat) (t : TypeId) (cs : Array Value) (fr : Nat × Nat) (d : TypeDesc)
 (hp : tmps.getD p undef = .pointer (some ⟨g, 0, none⟩)) (hg : w.heap[g]? = some (.cells cs t fr)) (hu : P.underlying ty = some d) (hd : (match d with | .struct _ | .array _ _ => true | _ => false) = true) (hi : (P.info? ty).map (·.size) = some cs.size) :
 (results fn tmps).run P w = .ok (.tuple #[.agg cs, tmps.getD u undef]) w := by
 rw [results_cell_tmp h, hp]
 simp [asAddr, run_loadVar_row w g t ty cs fr d hg hu hd hi, Result.andThen]
theorem size_key : (Tryz.prog.info? 23).map (·.size) = some 3 := by kernel_rfl
def keyA (seed : Sg.Str) (h n : Int) : Array Value := #[.string ⟨seed.toArray⟩, .int .i64 h, .int .i64 n]
def skipR (seed : Sg.Str) (h n c : Int) : (Sg.Str × Int × Int) × Int :=
 if validB seed h n = true then
  if 0 ≤ c then
   if c ≤ ((2 ^ h.toNat : Nat) : Int) - n then ((seed, h, n + c), 0) else (([], 0, 0), 22)
  else (([], 0, 0), 2)
 else (([], 0, 0), 1)
set_option maxRecDepth 20000 in
set_option maxHeartbeats 4000000 in
theorem skip_spec (seed : Sg.Str) (h n c : Int) (w : World) :
 Calls Tryz.prog 57 #[.agg #[.string ⟨seed.toArray⟩, .int .i64 h, .int .i64 n], .int .i64 c] w fun e w' => e = .returned (.tuple #[.agg (keyA (skipR seed h n c).1.1 (skipR seed h n c).1.2.1 (skipR seed h n c).1.2.2), .int .i64 (skipR seed h n c).2]) ∧ Below w.heap.size w w' := by
 obtain ⟨W0, hW0⟩ : ∃ W0, w.alloc (.cells #[.string ⟨seed.toArray⟩, .int .i64 h, .int .i64 n] 23) = W0 := ⟨_, rfl⟩
 have hs0 : W0.heap.size = w.heap.size + 1 := by rw [← hW0]; simp
 obtain ⟨W, hW⟩ : ∃ W, W0.alloc (.cells #[.string ⟨#[]⟩, .int .i64 0, .int .i64 0] 23) = W := ⟨_, rfl⟩
 have b0 : Below w.heap.size w W := by rw [← hW, ← hW0]; exact ((Below.refl _ w).alloc (Nat.le_refl _) _).alloc (by simp) _
 have bk : Blk W w.heap.size 23 #[.string ⟨seed.toArray⟩, .int .i64 h, .int .i64 n] := by rw [← hW, ← hW0]; exact (Blk.new w _ _).alloc _
 have br : Blk W (w.heap.size + 1) 23 #[.string ⟨#[]⟩, .int .i64 0, .int .i64 0] := by rw [← hW, ← hs0]; exact Blk.new W0 _ _
 have kt := valid_key seed h n W
 unfold skipR
 have c0 := bk.cell 0
 have c1 := bk.cell 1
 have c2 := bk.cell 2
 have HB := Lib.hid (And.intro b0 (And.intro bk br))
 cases hv : validB seed h n with
 | false =>
   rw [hv] at kt
   rw [if_neg (by simp)]
   clear b0 bk br
   go_enter Tryz.func57, Tryz.ntmps57
   go_wp2_with fail
   refine kt.mono ?_
   rintro e w1 ⟨rfl, b1⟩
   have r1 := HB.out.2.2.below b1
   have d0 := r1.cell 0
   have d1 := r1.cell 1
   have d2 := r1.cell 2
   have e0 := r1.frozen 0
   have e1 := r1.frozen 1
   have e2 := r1.frozen 2
   have HR := Lib.hid (And.intro r1 b1)
   clear r1 b1 c0 c1 c2 kt
   go_wp2
   refine bodyPost_ret (results_ct rfl _ _ _ _ _ _ _ rfl (((HR.out.1.set_ 0 _).set_ 1 _).set_ 2 _) Tryz.underlying23 rfl size_key) rfl ?_
   exact ⟨rfl, (((HB.out.1.trans (HR.out.2.mono HB.out.1.size)).setCell (p := ⟨w.heap.size + 1, 0, none⟩) (by simp) _).setCell (p := ⟨w.heap.size + 1, 1, none⟩) (by simp) _).setCell (p := ⟨w.heap.size + 1, 2, none⟩) (by simp) _⟩
 | true =>
   rw [hv] at kt
   rw [if_pos rfl]
   have hv' := hv
   unfold validB at hv'
   simp only [Bool.and_eq_true, decide_eq_true_eq] at hv'
   obtain ⟨ht, hn0, hn1⟩ := hv'
   obtain ⟨_, m, rfl, hm⟩ := treeB_parts ht
   rw [Int.toNat_natCast] at hn1 ⊢
   obtain ⟨P, hP⟩ : ∃ P, 2 ^ m = P := ⟨_, rfl⟩
   obtain ⟨h5, h6⟩ := shl_facts m P hm hP
   have hP6 := pow6 hm
   rw [hP] at hn1 hP6 ⊢
   obtain ⟨q, rfl⟩ : ∃ q : Nat, n = (q : Int) := ⟨n.toNat, by omega⟩
   have es : wrap64 ((P : Int) - (q : Int)) = (P : Int) - (q : Int) := IntWalk.wrap64_in _ (by omega)
   have es' : IntKind.i64.wrap ((P : Int) - (q : Int)) = (P : Int) - (q : Int) := by rw [IntKind.wrap_i64]; omega
   clear b0 bk br hv ht hn0
   by_cases h1 : 0 ≤ c
   ·rw [if_pos h1]
    have h1' : ¬ (c < 0) := by omega
    by_cases h2 : c ≤ (P : Int) - (q : Int)
    ·rw [if_pos h2]
     have h2' : ¬ ((P : Int) - (q : Int) < c) := by omega
     have h3' : decide (c ≤ (P : Int) - (q : Int)) = true := decide_eq_true h2
     have ea : wrap64 ((q : Int) + c) = (q : Int) + c := IntWalk.wrap64_in _ (by omega)
     have ea' : IntKind.i64.wrap ((q : Int) + c) = (q : Int) + c := by rw [IntKind.wrap_i64]; omega
     go_enter Tryz.func57, Tryz.ntmps57
     go_wp2_with fail
     refine kt.mono ?_
     rintro e w1 ⟨rfl, b1⟩
     have k1 := HB.out.2.1.below b1
     have r1 := HB.out.2.2.below b1
     have d0 := r1.cell 0
     have d1 := r1.cell 1
     have d2 := r1.cell 2
     have e0 := r1.frozen 0
     have e1 := r1.frozen 1
     have e2 := r1.frozen 2
     have l0 := k1.cell 0
     have l1 := k1.cell 1
     have l2 := k1.cell 2
     have m2 := k1.frozen 2
     have HR := Lib.hid (And.intro r1 b1)
     clear r1 b1 c0 c1 c2 kt k1
     go_wp2_with fail
     refine wp_region_noPanic ?_
     refine wp_region_held_drew (S := (fun w' => w'.cell? ⟨w.heap.size, 1, none⟩ = some (.int .i64 (m : Int)) ∧ w'.cell? ⟨w.heap.size, 2, none⟩ = some (.int .i64 (q : Int)))) (by kernel_rfl) ?_ (fun hH0 => ?_)
     ·exact ⟨l1, l2⟩
     refine tk 0 16 hH0 ?_
     refine tk 1 17 hH0 ?_
     refine tk 2 18 hH0 ?_
     refine tk 3 19 hH0 ?_
     refine tk 4 20 hH0 ?_
     refine tk 5 21 hH0 ?_
     refine tk 6 22 hH0 ?_
     refine tk 7 23 hH0 ?_
     refine tk 8 15 hH0 ?_
     refine dn ?_ _
     all_goals (refine NoPanic.normal ?_)
     go_wp2
     refine bodyPost_ret (results_ct rfl _ _ _ _ _ _ _ rfl ((((HR.out.1.far (p := ⟨w.heap.size, 2, none⟩) (by simp) _).set_ 0 _).set_ 1 _).set_ 2 _) Tryz.underlying23 rfl size_key) rfl ?_
     exact ⟨rfl, (((((HB.out.1.trans (HR.out.2.mono HB.out.1.size)).setCell (p := ⟨w.heap.size, 2, none⟩) (by simp) _).setCell (p := ⟨w.heap.size + 1, 0, none⟩) (by simp) _).setCell (p := ⟨w.heap.size + 1, 1, none⟩) (by simp) _).setCell (p := ⟨w.heap.size + 1, 2, none⟩) (by simp) _).drew⟩
    ·rw [if_neg h2]
     have h2' : (P : Int) - (q : Int) < c := by omega
     have h3' : decide (c ≤ (P : Int) - (q : Int)) = false := decide_eq_false h2
     go_enter Tryz.func57, Tryz.ntmps57
     go_wp2_with fail
     refine kt.mono ?_
     rintro e w1 ⟨rfl, b1⟩
     have k1 := HB.out.2.1.below b1
     have r1 := HB.out.2.2.below b1
     have d0 := r1.cell 0
     have d1 := r1.cell 1
     have d2 := r1.cell 2
     have e0 := r1.frozen 0
     have e1 := r1.frozen 1
     have e2 := r1.frozen 2
     have l1 := k1.cell 1
     have l2 := k1.cell 2
     have HR := Lib.hid (And.intro r1 b1)
     clear r1 b1 c0 c1 c2 kt k1
     go_wp2_with fail
     refine wp_region_noPanic ?_
     refine wp_region_held_drew (S := (fun w' => w'.cell? ⟨w.heap.size, 1, none⟩ = some (.int .i64 (m : Int)) ∧ w'.cell? ⟨w.heap.size, 2, none⟩ = some (.int .i64 (q : Int)))) (by kernel_rfl) ?_ (fun hH0 => ?_)
     ·exact ⟨l1, l2⟩
     refine tk 0 16 hH0 ?_
     refine tk 1 17 hH0 ?_
     refine tk 2 18 hH0 ?_
     refine tk 3 19 hH0 ?_
     refine tk 4 20 hH0 ?_
     refine tk 5 21 hH0 ?_
     refine tk 6 22 hH0 ?_
     refine tk 7 23 hH0 ?_
     refine tk 8 15 hH0 ?_
     refine dn ?_ _
     all_goals (refine NoPanic.normal ?_)
     go_wp2
     refine bodyPost_ret (results_ct rfl _ _ _ _ _ _ _ rfl (((HR.out.1.set_ 0 _).set_ 1 _).set_ 2 _) Tryz.underlying23 rfl size_key) rfl ?_
     exact ⟨rfl, ((((HB.out.1.trans (HR.out.2.mono HB.out.1.size)).setCell (p := ⟨w.heap.size + 1, 0, none⟩) (by simp) _).setCell (p := ⟨w.heap.size + 1, 1, none⟩) (by simp) _).setCell (p := ⟨w.heap.size + 1, 2, none⟩) (by simp) _).drew⟩
   ·rw [if_neg h1]
    have h1' : c < 0 := by omega
    go_enter Tryz.func57, Tryz.ntmps57
    go_wp2_with fail
    refine kt.mono ?_
    rintro e w1 ⟨rfl, b1⟩
    have r1 := HB.out.2.2.below b1
    have d0 := r1.cell 0
    have d1 := r1.cell 1
    have d2 := r1.cell 2
    have e0 := r1.frozen 0
    have e1 := r1.frozen 1
    have e2 := r1.frozen 2
    have HR := Lib.hid (And.intro r1 b1)
    clear r1 b1 c0 c1 c2 kt
    go_wp2
    refine bodyPost_ret (results_ct rfl _ _ _ _ _ _ _ rfl (((HR.out.1.set_ 0 _).set_ 1 _).set_ 2 _) Tryz.underlying23 rfl size_key) rfl ?_
    exact ⟨rfl, (((HB.out.1.trans (HR.out.2.mono HB.out.1.size)).setCell (p := ⟨w.heap.size + 1, 0, none⟩) (by simp) _).setCell (p := ⟨w.heap.size + 1, 1, none⟩) (by simp) _).setCell (p := ⟨w.heap.size + 1, 2, none⟩) (by simp) _⟩
end Go.Proofs.YtjjpdnpbhdcpbaaGreat
