/-
  Checkpoints: a new witness, in the program. Conditions: none.
-/
import Derived.Test.YtjjpdnpbhdcpbaaGreatQCkK
namespace Go.Proofs.YtjjpdnpbhdcpbaaGreat
set_option linter.unusedVariables false
open Go.RowKit Go.Shelf
attribute [local go_sem] Oper.semAt_some
theorem size_wit : (Tryz.prog.info? 37).map (·.size) = some 8 := by kernel_rfl
structure Wit where
 o : Sg.Str
 key : Sg.Str
 seed : Sg.Str
 h : Int
 n : Int
 ho : Sg.Str
 z : Int
 r : Sg.Str
def witA (x : Wit) : Array Value := #[.string ⟨x.o.toArray⟩, .string ⟨x.key.toArray⟩, .string ⟨x.seed.toArray⟩, .int .i64 x.h, .int .i64 x.n, .string ⟨x.ho.toArray⟩, .int .i64 x.z, .string ⟨x.r.toArray⟩]
def noWit : Wit := ⟨[], [], [], 0, 0, [], 0, []⟩
def nwR (o key seed : Sg.Str) (h n : Int) : Wit × Int :=
 if 1 ≤ o.length then (if o.length ≤ 64 then (if vpB key = true then (if validB seed h n = true then (⟨o, key, seed, h, n, o, 0, Sh.sha []⟩, 0) else (noWit, 1)) else (noWit, 1)) else (noWit, 1)) else (noWit, 1)
theorem skip_zero (seed : Sg.Str) (h n : Int) (k : validB seed h n = true) : skipR seed h n 0 = ((seed, h, n), 0) := by
 have k2 := k
 unfold validB at k2
 simp only [Bool.and_eq_true, decide_eq_true_eq] at k2
 unfold skipR
 rw [if_pos k, if_pos (Int.le_refl _), if_pos (by omega), Int.add_zero]
theorem skip_bad (seed : Sg.Str) (h n : Int) (k : validB seed h n = false) : skipR seed h n 0 = (([], 0, 0), 1) := by
 unfold skipR
 rw [k, if_neg (by decide)]
set_option maxRecDepth 20000 in
set_option maxHeartbeats 4000000 in
theorem newwit_spec (o key seed : Sg.Str) (h n : Int) (w : World) :
 Calls Tryz.prog 14 #[.string ⟨o.toArray⟩, .string ⟨key.toArray⟩, .agg #[.string ⟨seed.toArray⟩, .int .i64 h, .int .i64 n]] w fun e w' => e = .returned (.tuple #[.agg (witA (nwR o key seed h n).1), .int .i64 (nwR o key seed h n).2]) ∧ Below w.heap.size w w' := by
 have zo := bytes_size o
 obtain ⟨W0, hW0⟩ : ∃ W0, w.alloc (.cells #[.string ⟨seed.toArray⟩, .int .i64 h, .int .i64 n] 23) = W0 := ⟨_, rfl⟩
 have hs0 : W0.heap.size = w.heap.size + 1 := by rw [← hW0]; simp
 obtain ⟨W, hW⟩ : ∃ W, W0.alloc (.cells #[.string ⟨#[]⟩, .string ⟨#[]⟩, .string ⟨#[]⟩, .int .i64 0, .int .i64 0, .string ⟨#[]⟩, .int .i64 0, .string ⟨#[]⟩] 37) = W := ⟨_, rfl⟩
 have y0 : St w.heap.size w W [cellsR (w.heap.size + 1) 37 #[.string ⟨#[]⟩, .string ⟨#[]⟩, .string ⟨#[]⟩, .int .i64 0, .int .i64 0, .string ⟨#[]⟩, .int .i64 0, .string ⟨#[]⟩], cellsR w.heap.size 23 #[.string ⟨seed.toArray⟩, .int .i64 h, .int .i64 n]] := by
  have := ((St.nil w).alloc 23 #[.string ⟨seed.toArray⟩, .int .i64 h, .int .i64 n]).alloc 37 #[.string ⟨#[]⟩, .string ⟨#[]⟩, .string ⟨#[]⟩, .int .i64 0, .int .i64 0, .string ⟨#[]⟩, .int .i64 0, .string ⟨#[]⟩]
  rw [hW0, hW, hs0] at this
  exact this
 have kp := fun W' => ckpub_spec key W'
 have kS := skip_spec seed h n 0 W
 have kc0 := y0.tail.blk.cell 0
 have kc1 := y0.tail.blk.cell 1
 have kc2 := y0.tail.blk.cell 2
 have Y := Lib.hid y0
 clear y0
 unfold nwR
 cases hv : validB seed h n with
 | false =>
   rw [skip_bad seed h n hv] at kS
   unfold keyA at kS
   dsimp only at kS
   have hcol : (if 1 ≤ o.length then (if o.length ≤ 64 then (if vpB key = true then (if false = true then ((⟨o, key, seed, h, n, o, 0, Sh.sha []⟩ : Wit), (0 : Int)) else (noWit, 1)) else (noWit, 1)) else (noWit, 1)) else (noWit, 1)) = (noWit, 1) := by
    split <;> try rfl
    split <;> try rfl
    split <;> try rfl
   rw [hcol]
   clear hcol hv
   by_cases c1 : 1 ≤ o.length
   ·have c1' : ¬ ((o.length : Int) < 1) := by omega
    by_cases c2 : o.length ≤ 64
    ·have c2' : ¬ ((64 : Int) < (o.length : Int)) := by omega
     cases hp : vpB key with
     | false =>
       rw [hp] at kp
       go_enter Tryz.func14, Tryz.ntmps14
       go_wp2_with fail
       refine kS.mono ?_
       rintro e w1 ⟨rfl, b1⟩
       have y1 := Y.out.under b1
       have tc0 := y1.blk.cell 0
       have tc1 := y1.blk.cell 1
       have tc2 := y1.blk.cell 2
       have tc3 := y1.blk.cell 3
       have tc4 := y1.blk.cell 4
       have tc5 := y1.blk.cell 5
       have tc6 := y1.blk.cell 6
       have tc7 := y1.blk.cell 7
       have tf0 := y1.blk.frozen 0
       have tf1 := y1.blk.frozen 1
       have tf2 := y1.blk.frozen 2
       have tf3 := y1.blk.frozen 3
       have tf4 := y1.blk.frozen 4
       have tf5 := y1.blk.frozen 5
       have tf6 := y1.blk.frozen 6
       have tf7 := y1.blk.frozen 7
       have tlt := y1.blk.lt
       have tne : ¬ (w1.heap.size = w.heap.size + 1) := Nat.ne_of_gt tlt
       have YE := Lib.hid (((((((((y1.set_ 0 (.string ⟨#[]⟩)).set_ 1 (.string ⟨#[]⟩)).set_ 2 (.string ⟨#[]⟩)).set_ 3 (.int .i64 0)).set_ 4 (.int .i64 0)).set_ 5 (.string ⟨#[]⟩)).set_ 6 (.int .i64 0)).set_ 7 (.string ⟨#[]⟩)).alloc0 (.cells #[.string ⟨#[]⟩, .int .i64 0, .int .i64 0] 23))
       clear y1 b1 kS hW hW0 hs0 kc0 kc1 kc2
       go_wp2_with fail
       refine (kp _).mono ?_
       rintro e w2 ⟨rfl, rfl⟩
       go_wp2
       refine bodyPost_ret (results_ct rfl _ _ _ _ _ _ _ rfl YE.out.blk Tryz.underlying37 rfl size_wit) rfl ?_
       exact ⟨rfl, YE.out.below⟩
     | true =>
       rw [hp] at kp
       go_enter Tryz.func14, Tryz.ntmps14
       go_wp2_with fail
       refine kS.mono ?_
       rintro e w1 ⟨rfl, b1⟩
       have y1 := Y.out.under b1
       have tc0 := y1.blk.cell 0
       have tc1 := y1.blk.cell 1
       have tc2 := y1.blk.cell 2
       have tc3 := y1.blk.cell 3
       have tc4 := y1.blk.cell 4
       have tc5 := y1.blk.cell 5
       have tc6 := y1.blk.cell 6
       have tc7 := y1.blk.cell 7
       have tf0 := y1.blk.frozen 0
       have tf1 := y1.blk.frozen 1
       have tf2 := y1.blk.frozen 2
       have tf3 := y1.blk.frozen 3
       have tf4 := y1.blk.frozen 4
       have tf5 := y1.blk.frozen 5
       have tf6 := y1.blk.frozen 6
       have tf7 := y1.blk.frozen 7
       have tlt := y1.blk.lt
       have tne : ¬ (w1.heap.size = w.heap.size + 1) := Nat.ne_of_gt tlt
       have YE := Lib.hid (((((((((y1.set_ 0 (.string ⟨#[]⟩)).set_ 1 (.string ⟨#[]⟩)).set_ 2 (.string ⟨#[]⟩)).set_ 3 (.int .i64 0)).set_ 4 (.int .i64 0)).set_ 5 (.string ⟨#[]⟩)).set_ 6 (.int .i64 0)).set_ 7 (.string ⟨#[]⟩)).alloc0 (.cells #[.string ⟨#[]⟩, .int .i64 0, .int .i64 0] 23))
       clear y1 b1 kS hW hW0 hs0 kc0 kc1 kc2
       go_wp2_with fail
       refine (kp _).mono ?_
       rintro e w2 ⟨rfl, rfl⟩
       go_wp2
       refine bodyPost_ret (results_ct rfl _ _ _ _ _ _ _ rfl YE.out.blk Tryz.underlying37 rfl size_wit) rfl ?_
       exact ⟨rfl, YE.out.below⟩
    ·have c2' : (64 : Int) < (o.length : Int) := by omega
     go_enter Tryz.func14, Tryz.ntmps14
     go_wp2_with fail
     refine kS.mono ?_
     rintro e w1 ⟨rfl, b1⟩
     have y1 := Y.out.under b1
     have tc0 := y1.blk.cell 0
     have tc1 := y1.blk.cell 1
     have tc2 := y1.blk.cell 2
     have tc3 := y1.blk.cell 3
     have tc4 := y1.blk.cell 4
     have tc5 := y1.blk.cell 5
     have tc6 := y1.blk.cell 6
     have tc7 := y1.blk.cell 7
     have tf0 := y1.blk.frozen 0
     have tf1 := y1.blk.frozen 1
     have tf2 := y1.blk.frozen 2
     have tf3 := y1.blk.frozen 3
     have tf4 := y1.blk.frozen 4
     have tf5 := y1.blk.frozen 5
     have tf6 := y1.blk.frozen 6
     have tf7 := y1.blk.frozen 7
     have tlt := y1.blk.lt
     have tne : ¬ (w1.heap.size = w.heap.size + 1) := Nat.ne_of_gt tlt
     have YE := Lib.hid (((((((((y1.set_ 0 (.string ⟨#[]⟩)).set_ 1 (.string ⟨#[]⟩)).set_ 2 (.string ⟨#[]⟩)).set_ 3 (.int .i64 0)).set_ 4 (.int .i64 0)).set_ 5 (.string ⟨#[]⟩)).set_ 6 (.int .i64 0)).set_ 7 (.string ⟨#[]⟩)).alloc0 (.cells #[.string ⟨#[]⟩, .int .i64 0, .int .i64 0] 23))
     clear y1 b1 kS hW hW0 hs0 kc0 kc1 kc2
     go_wp2
     refine bodyPost_ret (results_ct rfl _ _ _ _ _ _ _ rfl YE.out.blk Tryz.underlying37 rfl size_wit) rfl ?_
     exact ⟨rfl, YE.out.below⟩
   ·have c1' : (o.length : Int) < 1 := by omega
    go_enter Tryz.func14, Tryz.ntmps14
    go_wp2_with fail
    refine kS.mono ?_
    rintro e w1 ⟨rfl, b1⟩
    have y1 := Y.out.under b1
    have tc0 := y1.blk.cell 0
    have tc1 := y1.blk.cell 1
    have tc2 := y1.blk.cell 2
    have tc3 := y1.blk.cell 3
    have tc4 := y1.blk.cell 4
    have tc5 := y1.blk.cell 5
    have tc6 := y1.blk.cell 6
    have tc7 := y1.blk.cell 7
    have tf0 := y1.blk.frozen 0
    have tf1 := y1.blk.frozen 1
    have tf2 := y1.blk.frozen 2
    have tf3 := y1.blk.frozen 3
    have tf4 := y1.blk.frozen 4
    have tf5 := y1.blk.frozen 5
    have tf6 := y1.blk.frozen 6
    have tf7 := y1.blk.frozen 7
    have tlt := y1.blk.lt
    have tne : ¬ (w1.heap.size = w.heap.size + 1) := Nat.ne_of_gt tlt
    have YE := Lib.hid (((((((((y1.set_ 0 (.string ⟨#[]⟩)).set_ 1 (.string ⟨#[]⟩)).set_ 2 (.string ⟨#[]⟩)).set_ 3 (.int .i64 0)).set_ 4 (.int .i64 0)).set_ 5 (.string ⟨#[]⟩)).set_ 6 (.int .i64 0)).set_ 7 (.string ⟨#[]⟩)).alloc0 (.cells #[.string ⟨#[]⟩, .int .i64 0, .int .i64 0] 23))
    clear y1 b1 kS hW hW0 hs0 kc0 kc1 kc2
    go_wp2
    refine bodyPost_ret (results_ct rfl _ _ _ _ _ _ _ rfl YE.out.blk Tryz.underlying37 rfl size_wit) rfl ?_
    exact ⟨rfl, YE.out.below⟩
 | true =>
   rw [skip_zero seed h n hv] at kS
   unfold keyA at kS
   dsimp only at kS
   clear hv
   by_cases c1 : 1 ≤ o.length
   ·rw [if_pos c1]
    have c1' : ¬ ((o.length : Int) < 1) := by omega
    by_cases c2 : o.length ≤ 64
    ·rw [if_pos c2]
     have c2' : ¬ ((64 : Int) < (o.length : Int)) := by omega
     cases hp : vpB key with
     | false =>
       rw [hp] at kp
       rw [if_neg (by decide)]
       go_enter Tryz.func14, Tryz.ntmps14
       go_wp2_with fail
       refine kS.mono ?_
       rintro e w1 ⟨rfl, b1⟩
       have y1 := Y.out.under b1
       have tc0 := y1.blk.cell 0
       have tc1 := y1.blk.cell 1
       have tc2 := y1.blk.cell 2
       have tc3 := y1.blk.cell 3
       have tc4 := y1.blk.cell 4
       have tc5 := y1.blk.cell 5
       have tc6 := y1.blk.cell 6
       have tc7 := y1.blk.cell 7
       have tf0 := y1.blk.frozen 0
       have tf1 := y1.blk.frozen 1
       have tf2 := y1.blk.frozen 2
       have tf3 := y1.blk.frozen 3
       have tf4 := y1.blk.frozen 4
       have tf5 := y1.blk.frozen 5
       have tf6 := y1.blk.frozen 6
       have tf7 := y1.blk.frozen 7
       have tlt := y1.blk.lt
       have tne : ¬ (w1.heap.size = w.heap.size + 1) := Nat.ne_of_gt tlt
       have YE := Lib.hid (((((((((y1.set_ 0 (.string ⟨#[]⟩)).set_ 1 (.string ⟨#[]⟩)).set_ 2 (.string ⟨#[]⟩)).set_ 3 (.int .i64 0)).set_ 4 (.int .i64 0)).set_ 5 (.string ⟨#[]⟩)).set_ 6 (.int .i64 0)).set_ 7 (.string ⟨#[]⟩)).alloc0 (.cells #[.string ⟨seed.toArray⟩, .int .i64 h, .int .i64 n] 23))
       clear y1 b1 kS hW hW0 hs0 kc0 kc1 kc2
       go_wp2_with fail
       refine (kp _).mono ?_
       rintro e w2 ⟨rfl, rfl⟩
       go_wp2
       refine bodyPost_ret (results_ct rfl _ _ _ _ _ _ _ rfl YE.out.blk Tryz.underlying37 rfl size_wit) rfl ?_
       exact ⟨rfl, YE.out.below⟩
     | true =>
       rw [hp] at kp
       rw [if_pos rfl, if_pos rfl]
       have ks := fun W' => sum_below [] (by decide) W'
       go_enter Tryz.func14, Tryz.ntmps14
       go_wp2_with fail
       refine kS.mono ?_
       rintro e w1 ⟨rfl, b1⟩
       have y1 := (Y.out.under b1).alloc0 (.cells #[.string ⟨seed.toArray⟩, .int .i64 h, .int .i64 n] 23)
       clear b1 kS hW hW0 hs0 kc0 kc1 kc2
       go_wp2_with fail
       refine (kp _).mono ?_
       rintro e w2 ⟨rfl, rfl⟩
       go_wp2_with fail
       obtain ⟨W5, hW5⟩ : ∃ W5, w1.alloc (.cells #[.string ⟨seed.toArray⟩, .int .i64 h, .int .i64 n] 23) = W5 := ⟨_, rfl⟩
       rw [hW5] at y1 ⊢
       clear hW5
       have hS : ∀ W', Blk W' w.heap.size 23 #[.string ⟨seed.toArray⟩, .int .i64 h, .int .i64 n] → (W'.cell? ⟨w.heap.size, 0, none⟩ = some (.string ⟨seed.toArray⟩) ∧ W'.cell? ⟨w.heap.size, 1, none⟩ = some (.int .i64 h) ∧ W'.cell? ⟨w.heap.size, 2, none⟩ = some (.int .i64 n)) := fun W' hb => ⟨hb.cell 0, hb.cell 1, hb.cell 2⟩
       have HS := Lib.hid hS
       have s0 := hS _ y1.drew.tail.blk
       refine wp_region_noPanic ?_
       refine wp_region_held_drew (S := (fun W' => W'.cell? ⟨w.heap.size, 0, none⟩ = some (.string ⟨seed.toArray⟩) ∧ W'.cell? ⟨w.heap.size, 1, none⟩ = some (.int .i64 h) ∧ W'.cell? ⟨w.heap.size, 2, none⟩ = some (.int .i64 n))) (by kernel_rfl) ?_ (fun hH0 => ?_)
       ·with_reducible exact s0
       refine tk 0 33 hH0 ?_
       refine tk 1 34 hH0 ?_
       refine tk 2 35 hH0 ?_
       refine tk 3 36 hH0 ?_
       refine rdy [4] ?_
       refine an 37 fun K hK => ?_
       go_simp; (
        (with_reducible refine (ks _).mono ?_)
        rintro e w3 ⟨rfl, b3⟩
        have y3 := y1.drew.under b3
        have s1 := hS _ y3.tail.blk
        have tc0 := y3.blk.cell 0
        have tc1 := y3.blk.cell 1
        have tc2 := y3.blk.cell 2
        have tc3 := y3.blk.cell 3
        have tc4 := y3.blk.cell 4
        have tc5 := y3.blk.cell 5
        have tc6 := y3.blk.cell 6
        have tc7 := y3.blk.cell 7
        have tf0 := y3.blk.frozen 0
        have tf1 := y3.blk.frozen 1
        have tf2 := y3.blk.frozen 2
        have tf3 := y3.blk.frozen 3
        have tf4 := y3.blk.frozen 4
        have tf5 := y3.blk.frozen 5
        have tf6 := y3.blk.frozen 6
        have tf7 := y3.blk.frozen 7
        have YE := Lib.hid ((((((((y3.set_ 0 (.string ⟨o.toArray⟩)).set_ 1 (.string ⟨key.toArray⟩)).set_ 2 (.string ⟨seed.toArray⟩)).set_ 3 (.int .i64 h)).set_ 4 (.int .i64 n)).set_ 5 (.string ⟨o.toArray⟩)).set_ 6 (.int .i64 0)).set_ 7 (.string ⟨(Sh.sha []).toArray⟩))
        have s2 := hS _ YE.out.tail.blk); go_wp2_with fail
       refine hK.out _ _ (by with_reducible exact s1) fun hH1 => ?_
       clear hK K hH0
       try simp only [pu]
       refine tk 5 38 hH1 ?_
       refine tk 6 39 hH1 ?_
       refine rdy [7] ?_
       refine az fun K hK => ?_
       go_simp
       refine hK.out _ _ (by with_reducible exact s2) fun hH2 => ?_
       clear hK K hH1
       try simp only [pu]
       refine tk 8 7 hH2 ?_
       refine dn ?_ _
       all_goals (refine NoPanic.normal ?_)
       go_wp2
       refine bodyPost_ret (results_ct rfl _ _ _ _ _ _ _ rfl YE.out.blk Tryz.underlying37 rfl size_wit) rfl ?_
       exact ⟨rfl, YE.out.below⟩
    ·rw [if_neg c2]
     have c2' : (64 : Int) < (o.length : Int) := by omega
     go_enter Tryz.func14, Tryz.ntmps14
     go_wp2_with fail
     refine kS.mono ?_
     rintro e w1 ⟨rfl, b1⟩
     have y1 := Y.out.under b1
     have tc0 := y1.blk.cell 0
     have tc1 := y1.blk.cell 1
     have tc2 := y1.blk.cell 2
     have tc3 := y1.blk.cell 3
     have tc4 := y1.blk.cell 4
     have tc5 := y1.blk.cell 5
     have tc6 := y1.blk.cell 6
     have tc7 := y1.blk.cell 7
     have tf0 := y1.blk.frozen 0
     have tf1 := y1.blk.frozen 1
     have tf2 := y1.blk.frozen 2
     have tf3 := y1.blk.frozen 3
     have tf4 := y1.blk.frozen 4
     have tf5 := y1.blk.frozen 5
     have tf6 := y1.blk.frozen 6
     have tf7 := y1.blk.frozen 7
     have tlt := y1.blk.lt
     have tne : ¬ (w1.heap.size = w.heap.size + 1) := Nat.ne_of_gt tlt
     have YE := Lib.hid (((((((((y1.set_ 0 (.string ⟨#[]⟩)).set_ 1 (.string ⟨#[]⟩)).set_ 2 (.string ⟨#[]⟩)).set_ 3 (.int .i64 0)).set_ 4 (.int .i64 0)).set_ 5 (.string ⟨#[]⟩)).set_ 6 (.int .i64 0)).set_ 7 (.string ⟨#[]⟩)).alloc0 (.cells #[.string ⟨seed.toArray⟩, .int .i64 h, .int .i64 n] 23))
     clear y1 b1 kS hW hW0 hs0 kc0 kc1 kc2
     go_wp2
     refine bodyPost_ret (results_ct rfl _ _ _ _ _ _ _ rfl YE.out.blk Tryz.underlying37 rfl size_wit) rfl ?_
     exact ⟨rfl, YE.out.below⟩
   ·rw [if_neg c1]
    have c1' : (o.length : Int) < 1 := by omega
    go_enter Tryz.func14, Tryz.ntmps14
    go_wp2_with fail
    refine kS.mono ?_
    rintro e w1 ⟨rfl, b1⟩
    have y1 := Y.out.under b1
    have tc0 := y1.blk.cell 0
    have tc1 := y1.blk.cell 1
    have tc2 := y1.blk.cell 2
    have tc3 := y1.blk.cell 3
    have tc4 := y1.blk.cell 4
    have tc5 := y1.blk.cell 5
    have tc6 := y1.blk.cell 6
    have tc7 := y1.blk.cell 7
    have tf0 := y1.blk.frozen 0
    have tf1 := y1.blk.frozen 1
    have tf2 := y1.blk.frozen 2
    have tf3 := y1.blk.frozen 3
    have tf4 := y1.blk.frozen 4
    have tf5 := y1.blk.frozen 5
    have tf6 := y1.blk.frozen 6
    have tf7 := y1.blk.frozen 7
    have tlt := y1.blk.lt
    have tne : ¬ (w1.heap.size = w.heap.size + 1) := Nat.ne_of_gt tlt
    have YE := Lib.hid (((((((((y1.set_ 0 (.string ⟨#[]⟩)).set_ 1 (.string ⟨#[]⟩)).set_ 2 (.string ⟨#[]⟩)).set_ 3 (.int .i64 0)).set_ 4 (.int .i64 0)).set_ 5 (.string ⟨#[]⟩)).set_ 6 (.int .i64 0)).set_ 7 (.string ⟨#[]⟩)).alloc0 (.cells #[.string ⟨seed.toArray⟩, .int .i64 h, .int .i64 n] 23))
    clear y1 b1 kS hW hW0 hs0 kc0 kc1 kc2
    go_wp2
    refine bodyPost_ret (results_ct rfl _ _ _ _ _ _ _ rfl YE.out.blk Tryz.underlying37 rfl size_wit) rfl ?_
    exact ⟨rfl, YE.out.below⟩
end Go.Proofs.YtjjpdnpbhdcpbaaGreat
