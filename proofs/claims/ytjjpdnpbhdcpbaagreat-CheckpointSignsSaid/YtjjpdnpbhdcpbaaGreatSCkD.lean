/-
  Checkpoints: signing a head, in the reference. Conditions: none.
-/
import Derived.Test.YtjjpdnpbhdcpbaaGreatQPa
import Derived.Test.YtjjpdnpbhdcpbaaGreatQBase
import Derived.WalkKit
import Derived.WalkSpells
import Derived.WalkLawsBesides
import Derived.Lib.Hide
import Derived.RegionTactic
import Derived.Deep.Draws
import Derived.Deep.QuietTactic
import Derived.BigQuiet
import Derived.Deep.LoopGhost
import Derived.Deep.DeepFit
import Derived.Deep.DeepCutAuto
import Derived.Maps.AppendAt
import Derived.Deep.RegionHeld3
import Derived.Deep.MidRow
import Derived.Deep.AppendLies
import Derived.Test.YtjjpdnpbhdcpbaaGreatProg
import Derived.Test.YtjjpdnpbhdcpbaaGreatQCkC
import Derived.Test.YtjjpdnpbhdcpbaaGreatQPc
import Derived.Test.YtjjpdnpbhdcpbaaGreatSPa
import Derived.Test.YtjjpdnpbhdcpbaaGreatSSgR
namespace Go.Proofs.YtjjpdnpbhdcpbaaGreat
set_option linter.unusedVariables false
open Go.RowKit Go.Shelf
attribute [local go_sem] Oper.semAt_some
set_option maxRecDepth 20000 in
set_option maxHeartbeats 4000000 in
theorem rcksign_spec (seed : Sg.Str) (h n : Int) (o : Sg.Str) (z : Int) (r : Sg.Str) (w : World) :
 Calls Tryz.prog 13 #[.agg #[.string ⟨seed.toArray⟩, .int .i64 h, .int .i64 n], .agg #[.string ⟨o.toArray⟩, .int .i64 z, .string ⟨r.toArray⟩]] w (CkP (ckSgR seed h n o z r) w) := by
 obtain ⟨W0, hW0⟩ : ∃ W0, w.alloc (.cells #[.string ⟨seed.toArray⟩, .int .i64 h, .int .i64 n] 23) = W0 := ⟨_, rfl⟩
 have hs0 : W0.heap.size = w.heap.size + 1 := by rw [← hW0]; simp
 obtain ⟨W1, hW1⟩ : ∃ W1, W0.alloc (.cells #[.string ⟨o.toArray⟩, .int .i64 z, .string ⟨r.toArray⟩] 25) = W1 := ⟨_, rfl⟩
 have hs1 : W1.heap.size = w.heap.size + 1 + 1 := by rw [← hW1]; simp [hs0]
 obtain ⟨W2, hW2⟩ : ∃ W2, W1.alloc (.cells #[.string ⟨#[]⟩, .int .i64 0, .string ⟨#[]⟩, .int .i64 0, .slice none 0 0, .slice none 0 0, .slice none 0 0] 32) = W2 := ⟨_, rfl⟩
 have hs2 : W2.heap.size = w.heap.size + 1 + 1 + 1 := by rw [← hW2]; simp [hs1]
 obtain ⟨W, hW⟩ : ∃ W, W2.alloc (.cells #[.string ⟨#[]⟩, .int .i64 0, .int .i64 0] 23) = W := ⟨_, rfl⟩
 have Y0 : St w.heap.size w W [cellsR (w.heap.size + 1 + 1 + 1) 23 #[.string ⟨#[]⟩, .int .i64 0, .int .i64 0], cellsR (w.heap.size + 1 + 1) 32 #[.string ⟨#[]⟩, .int .i64 0, .string ⟨#[]⟩, .int .i64 0, .slice none 0 0, .slice none 0 0, .slice none 0 0], cellsR (w.heap.size + 1) 25 #[.string ⟨o.toArray⟩, .int .i64 z, .string ⟨r.toArray⟩], cellsR (w.heap.size) 23 #[.string ⟨seed.toArray⟩, .int .i64 h, .int .i64 n]] := by
  have := ((((St.nil w).alloc 23 #[.string ⟨seed.toArray⟩, .int .i64 h, .int .i64 n]).alloc 25 #[.string ⟨o.toArray⟩, .int .i64 z, .string ⟨r.toArray⟩]).alloc 32 #[.string ⟨#[]⟩, .int .i64 0, .string ⟨#[]⟩, .int .i64 0, .slice none 0 0, .slice none 0 0, .slice none 0 0]).alloc 23 #[.string ⟨#[]⟩, .int .i64 0, .int .i64 0]
  rw [hW0, hW1, hW2, hW, hs0, hs1, hs2] at this
  exact this
 have kh := fun W' => rheaded_spec o z r W'
 have hhc0 := Y0.tail.tail.blk.cell 0
 have hhc1 := Y0.tail.tail.blk.cell 1
 have hhc2 := Y0.tail.tail.blk.cell 2
 unfold ckSgR
 cases hh : headB o z r with
 | false =>
   rw [hh] at kh
   rw [if_neg (by decide)]
   clear hh
   have Y := Lib.hid Y0
   clear Y0
   go_enter Tryz.func13, Tryz.ntmps13
   go_wp2_with fail
   refine (kh _).mono ?_
   rintro e w1 ⟨rfl, b1⟩
   have y1 := Y.out.under b1
   have cc0 := y1.tail.blk.cell 0
   have cc1 := y1.tail.blk.cell 1
   have cc2 := y1.tail.blk.cell 2
   have cc3 := y1.tail.blk.cell 3
   have cc4 := y1.tail.blk.cell 4
   have cc5 := y1.tail.blk.cell 5
   have cc6 := y1.tail.blk.cell 6
   have cf0 := y1.tail.blk.frozen 0
   have cf1 := y1.tail.blk.frozen 1
   have cf2 := y1.tail.blk.frozen 2
   have cf3 := y1.tail.blk.frozen 3
   have cf4 := y1.tail.blk.frozen 4
   have cf5 := y1.tail.blk.frozen 5
   have cf6 := y1.tail.blk.frozen 6
   have zc0 := y1.blk.cell 0
   have zc1 := y1.blk.cell 1
   have zc2 := y1.blk.cell 2
   have zf0 := y1.blk.frozen 0
   have zf1 := y1.blk.frozen 1
   have zf2 := y1.blk.frozen 2
   have yE := (((((((((((y1.swap.set_ 0 (.string ⟨#[]⟩)).set_ 1 (.int .i64 0)).set_ 2 (.string ⟨#[]⟩)).set_ 3 (.int .i64 0)).set_ 4 (.slice none 0 0)).set_ 5 (.slice none 0 0)).set_ 6 (.slice none 0 0)).swap).set_ 0 (.string ⟨#[]⟩)).set_ 1 (.int .i64 0)).set_ 2 (.int .i64 0))
   have YE := Lib.hid yE
   clear yE y1 b1 kh hhc0 hhc1 hhc2
   go_wp2
   refine bodyPost_ret (results_cct rfl _ _ _ _ _ _ _ _ _ _ _ _ rfl YE.out.tail.blk Tryz.underlying32 rfl size_ck rfl YE.out.blk Tryz.underlying23 rfl size_key) rfl ?_
   exact ckP_bad 1 YE.out.tail.tail.tail.tail
 | true =>
   rw [hh] at kh
   rw [if_pos rfl]
   have kb := fun W' => rckbytes_spec o z r W' hh
   have hl := headS_len hh
   have ks := fun W' => rsign_spec seed (4 :: headS o z r) h n W' (by rw [List.length_cons]; omega)
   have g1 := cons_bytes 4 (headS o z r)
   obtain ⟨f1, f2⟩ := sg_cat [4] (headS o z r) (by rw [List.length_singleton]; omega)
   rw [List.length_singleton] at f1 f2
   obtain ⟨x, hx⟩ : ∃ x, signR seed h n (Sg.dgs (4 :: headS o z r)) = x := ⟨_, rfl⟩
   rw [hx] at ks ⊢
   obtain ⟨⟨i, C, T⟩, ⟨seed', h', n'⟩, er⟩ := x
   unfold SgP keyA at ks
   dsimp only at ks ⊢
   clear hh hx hl
   generalize hres : ite (er = 0) _ _ = res
   have HR := Lib.hid hres
   clear hres
   have Y := Lib.hid Y0
   clear Y0
   go_enter Tryz.func13, Tryz.ntmps13
   go_wp2_with fail
   refine (kh _).mono ?_
   rintro e w1 ⟨rfl, b1⟩
   have Y0 := Y.out.under b1
   clear Y b1 kh hhc0 hhc1 hhc2 hW hW0 hW1 hW2 hs0 hs1 hs2
   have hS : ∀ W', Blk W' (w.heap.size + 1) 25 #[.string ⟨o.toArray⟩, .int .i64 z, .string ⟨r.toArray⟩] → Blk W' w.heap.size 23 #[.string ⟨seed.toArray⟩, .int .i64 h, .int .i64 n] → (W'.cell? ⟨w.heap.size + 1, 0, none⟩ = some (.string ⟨o.toArray⟩) ∧ W'.cell? ⟨w.heap.size + 1, 1, none⟩ = some (.int .i64 z) ∧ W'.cell? ⟨w.heap.size + 1, 2, none⟩ = some (.string ⟨r.toArray⟩) ∧ W'.cell? ⟨w.heap.size, 0, none⟩ = some (.string ⟨seed.toArray⟩) ∧ W'.cell? ⟨w.heap.size, 1, none⟩ = some (.int .i64 h) ∧ W'.cell? ⟨w.heap.size, 2, none⟩ = some (.int .i64 n)) := fun W' hb hk => ⟨hb.cell 0, hb.cell 1, hb.cell 2, hk.cell 0, hk.cell 1, hk.cell 2⟩
   have kc0 := Y0.drew.tail.tail.tail.blk.cell 0
   have kc1 := Y0.drew.tail.tail.tail.blk.cell 1
   have kc2 := Y0.drew.tail.tail.tail.blk.cell 2
   go_wp2_with fail
   apply region_via6 (fun (pG pJ : Nat) (A1 A2 : Option Addr) (n1 n2 : Nat) w' => St w.heap.size w w' [cellsR (pG) 29 #[.int .i64 i, .slice A1 C.length n1, .slice A2 T.length n2], cellsR (pJ) 23 #[.string ⟨seed'.toArray⟩, .int .i64 h', .int .i64 n'], ownR 9 1 (.slice A1 C.length n1) C.length (strs C), ownR 9 1 (.slice A2 T.length n2) T.length (strs T), cellsR (w.heap.size + 1 + 1 + 1) 23 #[.string ⟨#[]⟩, .int .i64 0, .int .i64 0], cellsR (w.heap.size + 1 + 1) 32 #[.string ⟨#[]⟩, .int .i64 0, .string ⟨#[]⟩, .int .i64 0, .slice none 0 0, .slice none 0 0, .slice none 0 0], cellsR (w.heap.size + 1) 25 #[.string ⟨o.toArray⟩, .int .i64 z, .string ⟨r.toArray⟩], cellsR (w.heap.size) 23 #[.string ⟨seed.toArray⟩, .int .i64 h, .int .i64 n]])
   case h =>
    have q0 := Y0.drew
    have sf := hS _ (q0.tail.tail).blk (q0.tail.tail.tail).blk
    clear q0
    have qG0 := (Y0.alloc 29 #[.int .i64 0, .slice none 0 0, .slice none 0 0]).drew
    have sfG := hS _ (qG0.tail.tail.tail).blk (qG0.tail.tail.tail.tail).blk
    clear qG0
    have qGJ0 := ((Y0.alloc 29 #[.int .i64 0, .slice none 0 0, .slice none 0 0]).alloc 23 #[.string ⟨#[]⟩, .int .i64 0, .int .i64 0]).drew
    have sfGJ := hS _ (qGJ0.tail.tail.tail.tail).blk (qGJ0.tail.tail.tail.tail.tail).blk
    clear qGJ0
    have qJ0 := (Y0.alloc 23 #[.string ⟨#[]⟩, .int .i64 0, .int .i64 0]).drew
    have sfJ := hS _ (qJ0.tail.tail.tail).blk (qJ0.tail.tail.tail.tail).blk
    clear qJ0
    have qJG0 := ((Y0.alloc 23 #[.string ⟨#[]⟩, .int .i64 0, .int .i64 0]).alloc 29 #[.int .i64 0, .slice none 0 0, .slice none 0 0]).drew
    have sfJG := hS _ (qJG0.tail.tail.tail.tail).blk (qJG0.tail.tail.tail.tail.tail).blk
    clear qJG0
    refine wp_region_noPanic ?_
    refine wp_region_held_drew (S := (fun W' => W'.cell? ⟨w.heap.size + 1, 0, none⟩ = some (.string ⟨o.toArray⟩) ∧ W'.cell? ⟨w.heap.size + 1, 1, none⟩ = some (.int .i64 z) ∧ W'.cell? ⟨w.heap.size + 1, 2, none⟩ = some (.string ⟨r.toArray⟩) ∧ W'.cell? ⟨w.heap.size, 0, none⟩ = some (.string ⟨seed.toArray⟩) ∧ W'.cell? ⟨w.heap.size, 1, none⟩ = some (.int .i64 h) ∧ W'.cell? ⟨w.heap.size, 2, none⟩ = some (.int .i64 n))) (by kernel_rfl) ?_ (fun hH0 => ?_)
    ·with_reducible exact sf
    refine tk 0 16 hH0 ?_
    refine tk 1 17 hH0 ?_
    refine rdy [2, 9, 10] ?_
    refine ad 18 (fun K hK => ?_) ?_
    go_simp; (
     (with_reducible refine (kb _).mono ?_)
     rintro e wB ⟨rfl, bB⟩
     have yB := Y0.drew.under bB
     have sfB := hS _ (yB.tail.tail).blk (yB.tail.tail.tail).blk
     have qBG0 := (yB.alloc 29 #[.int .i64 0, .slice none 0 0, .slice none 0 0])
     have sfBG := hS _ (qBG0.tail.tail.tail).blk (qBG0.tail.tail.tail.tail).blk
     clear qBG0
     have qBGJ0 := ((yB.alloc 29 #[.int .i64 0, .slice none 0 0, .slice none 0 0]).alloc 23 #[.string ⟨#[]⟩, .int .i64 0, .int .i64 0])
     have sfBGJ := hS _ (qBGJ0.tail.tail.tail.tail).blk (qBGJ0.tail.tail.tail.tail.tail).blk
     clear qBGJ0
     have qBJ0 := (yB.alloc 23 #[.string ⟨#[]⟩, .int .i64 0, .int .i64 0])
     have sfBJ := hS _ (qBJ0.tail.tail.tail).blk (qBJ0.tail.tail.tail.tail).blk
     clear qBJ0
     have qBJG0 := ((yB.alloc 23 #[.string ⟨#[]⟩, .int .i64 0, .int .i64 0]).alloc 29 #[.int .i64 0, .slice none 0 0, .slice none 0 0])
     have sfBJG := hS _ (qBJG0.tail.tail.tail.tail).blk (qBJG0.tail.tail.tail.tail.tail).blk
     clear qBJG0
     have kc0 := yB.tail.tail.tail.blk.cell 0
     have kc1 := yB.tail.tail.tail.blk.cell 1
     have kc2 := yB.tail.tail.tail.blk.cell 2); go_wp2_with fail
    refine hK.out _ _ (by with_reducible exact sfB) fun hH1 => ?_
    clear hK K hH0
    try simp only [pu]
    refine tk 3 19 hH1 ?_
    refine rdy [4, 9, 10] ?_
    refine ad 20 (fun K hK => ?_) ?_
    go_simp; (
     (with_reducible refine (ks _).mono ?_)
     rintro e wBS ⟨ua, ub, rfl, t2⟩
     obtain ⟨A1, n1, rfl, _, _⟩ := own_form t2.own
     obtain ⟨A2, n2, rfl, _, _⟩ := own_form t2.tail.own
     have yBS := yB.join t2
     have sfBS := hS _ (yBS.tail.tail.tail.tail).blk (yBS.tail.tail.tail.tail.tail).blk
     have qBSG0 := (yBS.alloc 29 #[.int .i64 0, .slice none 0 0, .slice none 0 0])
     have sfBSG := hS _ (qBSG0.tail.tail.tail.tail.tail).blk (qBSG0.tail.tail.tail.tail.tail.tail).blk
     clear qBSG0
     have qBSGJ0 := ((yBS.alloc 29 #[.int .i64 0, .slice none 0 0, .slice none 0 0]).alloc 23 #[.string ⟨#[]⟩, .int .i64 0, .int .i64 0])
     have sfBSGJ := hS _ (qBSGJ0.tail.tail.tail.tail.tail.tail).blk (qBSGJ0.tail.tail.tail.tail.tail.tail.tail).blk
     clear qBSGJ0
     have qBSGJ1 := ((yBS.alloc 29 #[.int .i64 i, .slice A1 C.length n1, .slice A2 T.length n2]).alloc 23 #[.string ⟨#[]⟩, .int .i64 0, .int .i64 0])
     have sfBSGJ1 := hS _ (qBSGJ1.tail.tail.tail.tail.tail.tail).blk (qBSGJ1.tail.tail.tail.tail.tail.tail.tail).blk
     clear qBSGJ1
     have qBSGJ2 := ((yBS.alloc 29 #[.int .i64 i, .slice A1 C.length n1, .slice A2 T.length n2]).alloc 23 #[.string ⟨seed'.toArray⟩, .int .i64 h', .int .i64 n'])
     have sfBSGJ2 := hS _ (qBSGJ2.tail.tail.tail.tail.tail.tail).blk (qBSGJ2.tail.tail.tail.tail.tail.tail.tail).blk
     clear qBSGJ2
     have qBSJ0 := (yBS.alloc 23 #[.string ⟨#[]⟩, .int .i64 0, .int .i64 0])
     have sfBSJ := hS _ (qBSJ0.tail.tail.tail.tail.tail).blk (qBSJ0.tail.tail.tail.tail.tail.tail).blk
     clear qBSJ0
     have qBSJG0 := ((yBS.alloc 23 #[.string ⟨#[]⟩, .int .i64 0, .int .i64 0]).alloc 29 #[.int .i64 0, .slice none 0 0, .slice none 0 0])
     have sfBSJG := hS _ (qBSJG0.tail.tail.tail.tail.tail.tail).blk (qBSJG0.tail.tail.tail.tail.tail.tail.tail).blk
     clear qBSJG0
     have qBSJG1 := ((yBS.alloc 23 #[.string ⟨#[]⟩, .int .i64 0, .int .i64 0]).alloc 29 #[.int .i64 i, .slice A1 C.length n1, .slice A2 T.length n2])
     have sfBSJG1 := hS _ (qBSJG1.tail.tail.tail.tail.tail.tail).blk (qBSJG1.tail.tail.tail.tail.tail.tail.tail).blk
     clear qBSJG1
     have qBSJG2 := ((yBS.alloc 23 #[.string ⟨seed'.toArray⟩, .int .i64 h', .int .i64 n']).alloc 29 #[.int .i64 i, .slice A1 C.length n1, .slice A2 T.length n2])
     have sfBSJG2 := hS _ (qBSJG2.tail.tail.tail.tail.tail.tail).blk (qBSJG2.tail.tail.tail.tail.tail.tail.tail).blk
     clear qBSJG2); go_wp2_with fail
    refine hK.out _ _ (by with_reducible exact sfBS) fun hH2 => ?_
    clear hK K hH1
    try simp only [pu]
    refine tk 5 15 hH2 ?_
    refine tk 6 21 hH2 ?_
    refine tk 7 22 hH2 ?_
    refine tk 8 23 hH2 ?_
    refine rdy [9, 10] ?_
    refine ad 7 (fun K hK => ?_) ?_
    go_simp
    refine hK.out _ _ (by with_reducible exact sfBSG) fun hH3 => ?_
    clear hK K hH2
    try simp only [pu]
    refine rdy [10] ?_
    refine an 8 fun K hK => ?_
    go_simp
    refine hK.out _ _ (by with_reducible exact sfBSGJ) fun hH4 => ?_
    clear hK K hH3
    try simp only [pu]
    refine rdy [11] ?_
    refine az fun K hK => ?_
    go_simp
    refine hK.out _ _ (by with_reducible exact sfBSGJ1) fun hH5 => ?_
    clear hK K hH4
    try simp only [pu]
    refine rdy [12] ?_
    refine az fun K hK => ?_
    go_simp
    refine hK.out _ _ (by with_reducible exact sfBSGJ2) fun hH6 => ?_
    clear hK K hH5
    try simp only [pu]
    refine tk 13 9 hH6 ?_
    refine dn ?_ _
    rotate_left 1
    refine an 8 fun K hK => ?_
    go_simp
    refine hK.out _ _ (by with_reducible exact sfBSJ) fun hH7 => ?_
    clear hK K hH2
    try simp only [pu]
    refine rdy [9] ?_
    refine an 7 fun K hK => ?_
    go_simp
    refine hK.out _ _ (by with_reducible exact sfBSJG) fun hH8 => ?_
    clear hK K hH7
    try simp only [pu]
    refine rdy [11] ?_
    refine az fun K hK => ?_
    go_simp
    refine hK.out _ _ (by with_reducible exact sfBSJG1) fun hH9 => ?_
    clear hK K hH8
    try simp only [pu]
    refine rdy [12] ?_
    refine az fun K hK => ?_
    go_simp
    refine hK.out _ _ (by with_reducible exact sfBSJG2) fun hH10 => ?_
    clear hK K hH9
    try simp only [pu]
    refine tk 13 9 hH10 ?_
    refine dn ?_ _
    rotate_left 1
    refine ad 7 (fun K hK => ?_) ?_
    go_simp
    refine hK.out _ _ (by with_reducible exact sfBG) fun hH11 => ?_
    clear hK K hH1
    try simp only [pu]
    refine rdy [4, 10] ?_
    refine ad 20 (fun K hK => ?_) ?_
    go_simp; (
     (with_reducible refine (ks _).mono ?_)
     rintro e wBGS ⟨ua, ub, rfl, t2⟩
     obtain ⟨A1, n1, rfl, _, _⟩ := own_form t2.own
     obtain ⟨A2, n2, rfl, _, _⟩ := own_form t2.tail.own
     have yBGS := (yB.alloc 29 #[.int .i64 0, .slice none 0 0, .slice none 0 0]).join t2
     have ltG := (yBGS.tail.tail).blk.lt
     have neG : ¬ (wBGS.heap.size = wB.heap.size) := Nat.ne_of_gt ltG
     have sfBGS := hS _ (yBGS.tail.tail.tail.tail.tail).blk (yBGS.tail.tail.tail.tail.tail.tail).blk
     have qBGSJ0 := (yBGS.alloc 23 #[.string ⟨#[]⟩, .int .i64 0, .int .i64 0])
     have sfBGSJ := hS _ (qBGSJ0.tail.tail.tail.tail.tail.tail).blk (qBGSJ0.tail.tail.tail.tail.tail.tail.tail).blk
     clear qBGSJ0
     have qBGSJ1 := (((((yBGS.pk [2, 0, 1, 3, 4, 5, 6]).set_ 0 (.int .i64 i)).set_ 1 (.slice A1 C.length n1)).set_ 2 (.slice A2 T.length n2)).alloc 23 #[.string ⟨#[]⟩, .int .i64 0, .int .i64 0])
     have sfBGSJ1 := hS _ (qBGSJ1.tail.tail.tail.tail.tail.tail).blk (qBGSJ1.tail.tail.tail.tail.tail.tail.tail).blk
     clear qBGSJ1
     have qBGSJ2 := (((((yBGS.pk [2, 0, 1, 3, 4, 5, 6]).set_ 0 (.int .i64 i)).set_ 1 (.slice A1 C.length n1)).set_ 2 (.slice A2 T.length n2)).alloc 23 #[.string ⟨seed'.toArray⟩, .int .i64 h', .int .i64 n'])
     have sfBGSJ2 := hS _ (qBGSJ2.tail.tail.tail.tail.tail.tail).blk (qBGSJ2.tail.tail.tail.tail.tail.tail.tail).blk
     clear qBGSJ2
     obtain ⟨_, _, _, _, _, _⟩ := bk3 yBGS.tail.tail.blk); go_wp2_with fail
    refine hK.out _ _ (by with_reducible exact sfBGS) fun hH12 => ?_
    clear hK K hH11
    try simp only [pu]
    refine tk 5 15 hH12 ?_
    refine tk 6 21 hH12 ?_
    refine tk 7 22 hH12 ?_
    refine tk 8 23 hH12 ?_
    refine rdy [10] ?_
    refine an 8 fun K hK => ?_
    go_simp
    refine hK.out _ _ (by with_reducible exact sfBGSJ) fun hH13 => ?_
    clear hK K hH12
    try simp only [pu]
    refine rdy [11] ?_
    refine az fun K hK => ?_
    go_simp
    refine hK.out _ _ (by with_reducible exact sfBGSJ1) fun hH14 => ?_
    clear hK K hH13
    try simp only [pu]
    refine rdy [12] ?_
    refine az fun K hK => ?_
    go_simp
    refine hK.out _ _ (by with_reducible exact sfBGSJ2) fun hH15 => ?_
    clear hK K hH14
    try simp only [pu]
    refine tk 13 9 hH15 ?_
    refine dn ?_ _
    rotate_left 1
    refine an 8 fun K hK => ?_
    go_simp
    refine hK.out _ _ (by with_reducible exact sfBGJ) fun hH16 => ?_
    clear hK K hH11
    try simp only [pu]
    refine rdy [4] ?_
    refine an 20 fun K hK => ?_
    go_simp; (
     (with_reducible refine (ks _).mono ?_)
     rintro e wBGJS ⟨ua, ub, rfl, t2⟩
     obtain ⟨A1, n1, rfl, _, _⟩ := own_form t2.own
     obtain ⟨A2, n2, rfl, _, _⟩ := own_form t2.tail.own
     have yBGJS := ((yB.alloc 29 #[.int .i64 0, .slice none 0 0, .slice none 0 0]).alloc 23 #[.string ⟨#[]⟩, .int .i64 0, .int .i64 0]).join t2
     try simp only [World.size_alloc] at yBGJS
     have ltG := (yBGJS.tail.tail.tail).blk.lt
     have neG : ¬ (wBGJS.heap.size = wB.heap.size) := Nat.ne_of_gt ltG
     have ltJ := (yBGJS.tail.tail).blk.lt
     have neJ : ¬ (wBGJS.heap.size = wB.heap.size + 1) := Nat.ne_of_gt ltJ
     have ltGJ : wB.heap.size < wB.heap.size + 1 := by first | exact ((yB.alloc 29 #[.int .i64 0, .slice none 0 0, .slice none 0 0])).blk.lt | (have := ((yB.alloc 29 #[.int .i64 0, .slice none 0 0, .slice none 0 0])).blk.lt; simp only [World.size_alloc] at this; exact this) | (have := ((yB.alloc 29 #[.int .i64 0, .slice none 0 0, .slice none 0 0])).blk.lt; simp only [World.size_drew, World.size_alloc] at this; exact this)
     have neGJ : ¬ (wB.heap.size = wB.heap.size + 1) := Nat.ne_of_lt ltGJ
     have neJG : ¬ (wB.heap.size + 1 = wB.heap.size) := Nat.ne_of_gt ltGJ
     have sfBGJS := hS _ (yBGJS.tail.tail.tail.tail.tail.tail).blk (yBGJS.tail.tail.tail.tail.tail.tail.tail).blk
     have qBGJS1 := ((((yBGJS.pk [3, 0, 1, 2, 4, 5, 6, 7]).set_ 0 (.int .i64 i)).set_ 1 (.slice A1 C.length n1)).set_ 2 (.slice A2 T.length n2))
     have sfBGJS1 := hS _ (qBGJS1.tail.tail.tail.tail.tail.tail).blk (qBGJS1.tail.tail.tail.tail.tail.tail.tail).blk
     clear qBGJS1
     have qBGJS2 := ((((((((yBGJS.pk [3, 0, 1, 2, 4, 5, 6, 7]).set_ 0 (.int .i64 i)).set_ 1 (.slice A1 C.length n1)).set_ 2 (.slice A2 T.length n2)).pk [3, 0, 1, 2, 4, 5, 6, 7]).set_ 0 (.string ⟨seed'.toArray⟩)).set_ 1 (.int .i64 h')).set_ 2 (.int .i64 n'))
     have sfBGJS2 := hS _ (qBGJS2.tail.tail.tail.tail.tail.tail).blk (qBGJS2.tail.tail.tail.tail.tail.tail.tail).blk
     clear qBGJS2
     obtain ⟨_, _, _, _, _, _⟩ := bk3 yBGJS.tail.tail.tail.blk
     obtain ⟨_, _, _, _, _, _⟩ := bk3 yBGJS.tail.tail.blk); go_wp2_with fail
    refine hK.out _ _ (by with_reducible exact sfBGJS) fun hH17 => ?_
    clear hK K hH16
    try simp only [pu]
    refine tk 5 15 hH17 ?_
    refine tk 6 21 hH17 ?_
    refine tk 7 22 hH17 ?_
    refine tk 8 23 hH17 ?_
    refine rdy [11] ?_
    refine az fun K hK => ?_
    go_simp
    refine hK.out _ _ (by with_reducible exact sfBGJS1) fun hH18 => ?_
    clear hK K hH17
    try simp only [pu]
    refine rdy [12] ?_
    refine az fun K hK => ?_
    go_simp
    refine hK.out _ _ (by with_reducible exact sfBGJS2) fun hH19 => ?_
    clear hK K hH18
    try simp only [pu]
    refine tk 13 9 hH19 ?_
    refine dn ?_ _
    rotate_left 1
    refine an 8 fun K hK => ?_
    go_simp
    refine hK.out _ _ (by with_reducible exact sfBJ) fun hH20 => ?_
    clear hK K hH1
    try simp only [pu]
    refine rdy [4, 9] ?_
    refine ad 20 (fun K hK => ?_) ?_
    go_simp; (
     (with_reducible refine (ks _).mono ?_)
     rintro e wBJS ⟨ua, ub, rfl, t2⟩
     obtain ⟨A1, n1, rfl, _, _⟩ := own_form t2.own
     obtain ⟨A2, n2, rfl, _, _⟩ := own_form t2.tail.own
     have yBJS := (yB.alloc 23 #[.string ⟨#[]⟩, .int .i64 0, .int .i64 0]).join t2
     have ltJ := (yBJS.tail.tail).blk.lt
     have neJ : ¬ (wBJS.heap.size = wB.heap.size) := Nat.ne_of_gt ltJ
     have sfBJS := hS _ (yBJS.tail.tail.tail.tail.tail).blk (yBJS.tail.tail.tail.tail.tail.tail).blk
     have qBJSG0 := (yBJS.alloc 29 #[.int .i64 0, .slice none 0 0, .slice none 0 0])
     have sfBJSG := hS _ (qBJSG0.tail.tail.tail.tail.tail.tail).blk (qBJSG0.tail.tail.tail.tail.tail.tail.tail).blk
     clear qBJSG0
     have qBJSG1 := (yBJS.alloc 29 #[.int .i64 i, .slice A1 C.length n1, .slice A2 T.length n2])
     have sfBJSG1 := hS _ (qBJSG1.tail.tail.tail.tail.tail.tail).blk (qBJSG1.tail.tail.tail.tail.tail.tail.tail).blk
     clear qBJSG1
     have qBJSG2 := (((((yBJS.pk [2, 0, 1, 3, 4, 5, 6]).set_ 0 (.string ⟨seed'.toArray⟩)).set_ 1 (.int .i64 h')).set_ 2 (.int .i64 n')).alloc 29 #[.int .i64 i, .slice A1 C.length n1, .slice A2 T.length n2])
     have sfBJSG2 := hS _ (qBJSG2.tail.tail.tail.tail.tail.tail).blk (qBJSG2.tail.tail.tail.tail.tail.tail.tail).blk
     clear qBJSG2
     obtain ⟨_, _, _, _, _, _⟩ := bk3 yBJS.tail.tail.blk); go_wp2_with fail
    refine hK.out _ _ (by with_reducible exact sfBJS) fun hH21 => ?_
    clear hK K hH20
    try simp only [pu]
    refine tk 5 15 hH21 ?_
    refine tk 6 21 hH21 ?_
    refine tk 7 22 hH21 ?_
    refine tk 8 23 hH21 ?_
    refine rdy [9] ?_
    refine an 7 fun K hK => ?_
    go_simp
    refine hK.out _ _ (by with_reducible exact sfBJSG) fun hH22 => ?_
    clear hK K hH21
    try simp only [pu]
    refine rdy [11] ?_
    refine az fun K hK => ?_
    go_simp
    refine hK.out _ _ (by with_reducible exact sfBJSG1) fun hH23 => ?_
    clear hK K hH22
    try simp only [pu]
    refine rdy [12] ?_
    refine az fun K hK => ?_
    go_simp
    refine hK.out _ _ (by with_reducible exact sfBJSG2) fun hH24 => ?_
    clear hK K hH23
    try simp only [pu]
    refine tk 13 9 hH24 ?_
    refine dn ?_ _
    rotate_left 1
    refine an 7 fun K hK => ?_
    go_simp
    refine hK.out _ _ (by with_reducible exact sfBJG) fun hH25 => ?_
    clear hK K hH20
    try simp only [pu]
    refine rdy [4] ?_
    refine an 20 fun K hK => ?_
    go_simp; (
     (with_reducible refine (ks _).mono ?_)
     rintro e wBJGS ⟨ua, ub, rfl, t2⟩
     obtain ⟨A1, n1, rfl, _, _⟩ := own_form t2.own
     obtain ⟨A2, n2, rfl, _, _⟩ := own_form t2.tail.own
     have yBJGS := ((yB.alloc 23 #[.string ⟨#[]⟩, .int .i64 0, .int .i64 0]).alloc 29 #[.int .i64 0, .slice none 0 0, .slice none 0 0]).join t2
     try simp only [World.size_alloc] at yBJGS
     have ltG := (yBJGS.tail.tail).blk.lt
     have neG : ¬ (wBJGS.heap.size = wB.heap.size + 1) := Nat.ne_of_gt ltG
     have ltJ := (yBJGS.tail.tail.tail).blk.lt
     have neJ : ¬ (wBJGS.heap.size = wB.heap.size) := Nat.ne_of_gt ltJ
     have ltJG : wB.heap.size < wB.heap.size + 1 := by first | exact ((yB.alloc 23 #[.string ⟨#[]⟩, .int .i64 0, .int .i64 0])).blk.lt | (have := ((yB.alloc 23 #[.string ⟨#[]⟩, .int .i64 0, .int .i64 0])).blk.lt; simp only [World.size_alloc] at this; exact this) | (have := ((yB.alloc 23 #[.string ⟨#[]⟩, .int .i64 0, .int .i64 0])).blk.lt; simp only [World.size_drew, World.size_alloc] at this; exact this)
     have neJG : ¬ (wB.heap.size = wB.heap.size + 1) := Nat.ne_of_lt ltJG
     have neGJ : ¬ (wB.heap.size + 1 = wB.heap.size) := Nat.ne_of_gt ltJG
     have sfBJGS := hS _ (yBJGS.tail.tail.tail.tail.tail.tail).blk (yBJGS.tail.tail.tail.tail.tail.tail.tail).blk
     have qBJGS1 := ((((yBJGS.pk [2, 0, 1, 3, 4, 5, 6, 7]).set_ 0 (.int .i64 i)).set_ 1 (.slice A1 C.length n1)).set_ 2 (.slice A2 T.length n2))
     have sfBJGS1 := hS _ (qBJGS1.tail.tail.tail.tail.tail.tail).blk (qBJGS1.tail.tail.tail.tail.tail.tail.tail).blk
     clear qBJGS1
     have qBJGS2 := ((((((((yBJGS.pk [2, 0, 1, 3, 4, 5, 6, 7]).set_ 0 (.int .i64 i)).set_ 1 (.slice A1 C.length n1)).set_ 2 (.slice A2 T.length n2)).pk [3, 0, 1, 2, 4, 5, 6, 7]).set_ 0 (.string ⟨seed'.toArray⟩)).set_ 1 (.int .i64 h')).set_ 2 (.int .i64 n'))
     have sfBJGS2 := hS _ (qBJGS2.tail.tail.tail.tail.tail.tail).blk (qBJGS2.tail.tail.tail.tail.tail.tail.tail).blk
     clear qBJGS2
     obtain ⟨_, _, _, _, _, _⟩ := bk3 yBJGS.tail.tail.tail.blk
     obtain ⟨_, _, _, _, _, _⟩ := bk3 yBJGS.tail.tail.blk); go_wp2_with fail
    refine hK.out _ _ (by with_reducible exact sfBJGS) fun hH26 => ?_
    clear hK K hH25
    try simp only [pu]
    refine tk 5 15 hH26 ?_
    refine tk 6 21 hH26 ?_
    refine tk 7 22 hH26 ?_
    refine tk 8 23 hH26 ?_
    refine rdy [11] ?_
    refine az fun K hK => ?_
    go_simp
    refine hK.out _ _ (by with_reducible exact sfBJGS1) fun hH27 => ?_
    clear hK K hH26
    try simp only [pu]
    refine rdy [12] ?_
    refine az fun K hK => ?_
    go_simp
    refine hK.out _ _ (by with_reducible exact sfBJGS2) fun hH28 => ?_
    clear hK K hH27
    try simp only [pu]
    refine tk 13 9 hH28 ?_
    refine dn ?_ _
    rotate_left 1
    refine ad 7 (fun K hK => ?_) ?_
    go_simp
    refine hK.out _ _ (by with_reducible exact sfG) fun hH29 => ?_
    clear hK K hH0
    try simp only [pu]
    refine rdy [2, 10] ?_
    refine ad 18 (fun K hK => ?_) ?_
    go_simp; (
     (with_reducible refine (kb _).mono ?_)
     rintro e wGB ⟨rfl, bB⟩
     have yGB := (Y0.alloc 29 #[.int .i64 0, .slice none 0 0, .slice none 0 0]).drew.under bB
     have sfGB := hS _ (yGB.tail.tail.tail).blk (yGB.tail.tail.tail.tail).blk
     have qGBJ0 := (yGB.alloc 23 #[.string ⟨#[]⟩, .int .i64 0, .int .i64 0])
     have sfGBJ := hS _ (qGBJ0.tail.tail.tail.tail).blk (qGBJ0.tail.tail.tail.tail.tail).blk
     clear qGBJ0
     have kc0 := yGB.tail.tail.tail.tail.blk.cell 0
     have kc1 := yGB.tail.tail.tail.tail.blk.cell 1
     have kc2 := yGB.tail.tail.tail.tail.blk.cell 2); go_wp2_with fail
    refine hK.out _ _ (by with_reducible exact sfGB) fun hH30 => ?_
    clear hK K hH29
    try simp only [pu]
    refine tk 3 19 hH30 ?_
    refine rdy [4, 10] ?_
    refine ad 20 (fun K hK => ?_) ?_
    go_simp; (
     (with_reducible refine (ks _).mono ?_)
     rintro e wGBS ⟨ua, ub, rfl, t2⟩
     obtain ⟨A1, n1, rfl, _, _⟩ := own_form t2.own
     obtain ⟨A2, n2, rfl, _, _⟩ := own_form t2.tail.own
     have yGBS := yGB.join t2
     have ltG := (yGBS.tail.tail).blk.lt
     have neG : ¬ (wGBS.heap.size = w1.heap.size) := Nat.ne_of_gt ltG
     have sfGBS := hS _ (yGBS.tail.tail.tail.tail.tail).blk (yGBS.tail.tail.tail.tail.tail.tail).blk
     have qGBSJ0 := (yGBS.alloc 23 #[.string ⟨#[]⟩, .int .i64 0, .int .i64 0])
     have sfGBSJ := hS _ (qGBSJ0.tail.tail.tail.tail.tail.tail).blk (qGBSJ0.tail.tail.tail.tail.tail.tail.tail).blk
     clear qGBSJ0
     have qGBSJ1 := (((((yGBS.pk [2, 0, 1, 3, 4, 5, 6]).set_ 0 (.int .i64 i)).set_ 1 (.slice A1 C.length n1)).set_ 2 (.slice A2 T.length n2)).alloc 23 #[.string ⟨#[]⟩, .int .i64 0, .int .i64 0])
     have sfGBSJ1 := hS _ (qGBSJ1.tail.tail.tail.tail.tail.tail).blk (qGBSJ1.tail.tail.tail.tail.tail.tail.tail).blk
     clear qGBSJ1
     have qGBSJ2 := (((((yGBS.pk [2, 0, 1, 3, 4, 5, 6]).set_ 0 (.int .i64 i)).set_ 1 (.slice A1 C.length n1)).set_ 2 (.slice A2 T.length n2)).alloc 23 #[.string ⟨seed'.toArray⟩, .int .i64 h', .int .i64 n'])
     have sfGBSJ2 := hS _ (qGBSJ2.tail.tail.tail.tail.tail.tail).blk (qGBSJ2.tail.tail.tail.tail.tail.tail.tail).blk
     clear qGBSJ2
     obtain ⟨_, _, _, _, _, _⟩ := bk3 yGBS.tail.tail.blk); go_wp2_with fail
    refine hK.out _ _ (by with_reducible exact sfGBS) fun hH31 => ?_
    clear hK K hH30
    try simp only [pu]
    refine tk 5 15 hH31 ?_
    refine tk 6 21 hH31 ?_
    refine tk 7 22 hH31 ?_
    refine tk 8 23 hH31 ?_
    refine rdy [10] ?_
    refine an 8 fun K hK => ?_
    go_simp
    refine hK.out _ _ (by with_reducible exact sfGBSJ) fun hH32 => ?_
    clear hK K hH31
    try simp only [pu]
    refine rdy [11] ?_
    refine az fun K hK => ?_
    go_simp
    refine hK.out _ _ (by with_reducible exact sfGBSJ1) fun hH33 => ?_
    clear hK K hH32
    try simp only [pu]
    refine rdy [12] ?_
    refine az fun K hK => ?_
    go_simp
    refine hK.out _ _ (by with_reducible exact sfGBSJ2) fun hH34 => ?_
    clear hK K hH33
    try simp only [pu]
    refine tk 13 9 hH34 ?_
    refine dn ?_ _
    rotate_left 1
    refine an 8 fun K hK => ?_
    go_simp
    refine hK.out _ _ (by with_reducible exact sfGBJ) fun hH35 => ?_
    clear hK K hH30
    try simp only [pu]
    refine rdy [4] ?_
    refine an 20 fun K hK => ?_
    go_simp; (
     (with_reducible refine (ks _).mono ?_)
     rintro e wGBJS ⟨ua, ub, rfl, t2⟩
     obtain ⟨A1, n1, rfl, _, _⟩ := own_form t2.own
     obtain ⟨A2, n2, rfl, _, _⟩ := own_form t2.tail.own
     have yGBJS := (yGB.alloc 23 #[.string ⟨#[]⟩, .int .i64 0, .int .i64 0]).join t2
     try simp only [World.size_alloc] at yGBJS
     have ltG := (yGBJS.tail.tail.tail).blk.lt
     have neG : ¬ (wGBJS.heap.size = w1.heap.size) := Nat.ne_of_gt ltG
     have ltJ := (yGBJS.tail.tail).blk.lt
     have neJ : ¬ (wGBJS.heap.size = wGB.heap.size) := Nat.ne_of_gt ltJ
     have ltGJ : w1.heap.size < wGB.heap.size := by first | exact (yGB).blk.lt | (have := (yGB).blk.lt; simp only [World.size_alloc] at this; exact this) | (have := (yGB).blk.lt; simp only [World.size_drew, World.size_alloc] at this; exact this)
     have neGJ : ¬ (w1.heap.size = wGB.heap.size) := Nat.ne_of_lt ltGJ
     have neJG : ¬ (wGB.heap.size = w1.heap.size) := Nat.ne_of_gt ltGJ
     have sfGBJS := hS _ (yGBJS.tail.tail.tail.tail.tail.tail).blk (yGBJS.tail.tail.tail.tail.tail.tail.tail).blk
     have qGBJS1 := ((((yGBJS.pk [3, 0, 1, 2, 4, 5, 6, 7]).set_ 0 (.int .i64 i)).set_ 1 (.slice A1 C.length n1)).set_ 2 (.slice A2 T.length n2))
     have sfGBJS1 := hS _ (qGBJS1.tail.tail.tail.tail.tail.tail).blk (qGBJS1.tail.tail.tail.tail.tail.tail.tail).blk
     clear qGBJS1
     have qGBJS2 := ((((((((yGBJS.pk [3, 0, 1, 2, 4, 5, 6, 7]).set_ 0 (.int .i64 i)).set_ 1 (.slice A1 C.length n1)).set_ 2 (.slice A2 T.length n2)).pk [3, 0, 1, 2, 4, 5, 6, 7]).set_ 0 (.string ⟨seed'.toArray⟩)).set_ 1 (.int .i64 h')).set_ 2 (.int .i64 n'))
     have sfGBJS2 := hS _ (qGBJS2.tail.tail.tail.tail.tail.tail).blk (qGBJS2.tail.tail.tail.tail.tail.tail.tail).blk
     clear qGBJS2
     obtain ⟨_, _, _, _, _, _⟩ := bk3 yGBJS.tail.tail.tail.blk
     obtain ⟨_, _, _, _, _, _⟩ := bk3 yGBJS.tail.tail.blk); go_wp2_with fail
    refine hK.out _ _ (by with_reducible exact sfGBJS) fun hH36 => ?_
    clear hK K hH35
    try simp only [pu]
    refine tk 5 15 hH36 ?_
    refine tk 6 21 hH36 ?_
    refine tk 7 22 hH36 ?_
    refine tk 8 23 hH36 ?_
    refine rdy [11] ?_
    refine az fun K hK => ?_
    go_simp
    refine hK.out _ _ (by with_reducible exact sfGBJS1) fun hH37 => ?_
    clear hK K hH36
    try simp only [pu]
    refine rdy [12] ?_
    refine az fun K hK => ?_
    go_simp
    refine hK.out _ _ (by with_reducible exact sfGBJS2) fun hH38 => ?_
    clear hK K hH37
    try simp only [pu]
    refine tk 13 9 hH38 ?_
    refine dn ?_ _
    rotate_left 1
    refine an 8 fun K hK => ?_
    go_simp
    refine hK.out _ _ (by with_reducible exact sfGJ) fun hH39 => ?_
    clear hK K hH29
    try simp only [pu]
    refine rdy [2] ?_
    refine an 18 fun K hK => ?_
    go_simp; (
     (with_reducible refine (kb _).mono ?_)
     rintro e wGJB ⟨rfl, bB⟩
     have yGJB := ((Y0.alloc 29 #[.int .i64 0, .slice none 0 0, .slice none 0 0]).alloc 23 #[.string ⟨#[]⟩, .int .i64 0, .int .i64 0]).drew.under bB
     try simp only [World.size_alloc] at yGJB
     have sfGJB := hS _ (yGJB.tail.tail.tail.tail).blk (yGJB.tail.tail.tail.tail.tail).blk
     have kc0 := yGJB.tail.tail.tail.tail.tail.blk.cell 0
     have kc1 := yGJB.tail.tail.tail.tail.tail.blk.cell 1
     have kc2 := yGJB.tail.tail.tail.tail.tail.blk.cell 2); go_wp2_with fail
    refine hK.out _ _ (by with_reducible exact sfGJB) fun hH40 => ?_
    clear hK K hH39
    try simp only [pu]
    refine tk 3 19 hH40 ?_
    refine rdy [4] ?_
    refine an 20 fun K hK => ?_
    go_simp; (
     (with_reducible refine (ks _).mono ?_)
     rintro e wGJBS ⟨ua, ub, rfl, t2⟩
     obtain ⟨A1, n1, rfl, _, _⟩ := own_form t2.own
     obtain ⟨A2, n2, rfl, _, _⟩ := own_form t2.tail.own
     have yGJBS := yGJB.join t2
     try simp only [World.size_alloc] at yGJBS
     have ltG := (yGJBS.tail.tail.tail).blk.lt
     have neG : ¬ (wGJBS.heap.size = w1.heap.size) := Nat.ne_of_gt ltG
     have ltJ := (yGJBS.tail.tail).blk.lt
     have neJ : ¬ (wGJBS.heap.size = w1.heap.size + 1) := Nat.ne_of_gt ltJ
     have ltGJ : w1.heap.size < w1.heap.size + 1 := by first | exact ((Y0.alloc 29 #[.int .i64 0, .slice none 0 0, .slice none 0 0]).drew).blk.lt | (have := ((Y0.alloc 29 #[.int .i64 0, .slice none 0 0, .slice none 0 0]).drew).blk.lt; simp only [World.size_alloc] at this; exact this) | (have := ((Y0.alloc 29 #[.int .i64 0, .slice none 0 0, .slice none 0 0]).drew).blk.lt; simp only [World.size_drew, World.size_alloc] at this; exact this)
     have neGJ : ¬ (w1.heap.size = w1.heap.size + 1) := Nat.ne_of_lt ltGJ
     have neJG : ¬ (w1.heap.size + 1 = w1.heap.size) := Nat.ne_of_gt ltGJ
     have sfGJBS := hS _ (yGJBS.tail.tail.tail.tail.tail.tail).blk (yGJBS.tail.tail.tail.tail.tail.tail.tail).blk
     have qGJBS1 := ((((yGJBS.pk [3, 0, 1, 2, 4, 5, 6, 7]).set_ 0 (.int .i64 i)).set_ 1 (.slice A1 C.length n1)).set_ 2 (.slice A2 T.length n2))
     have sfGJBS1 := hS _ (qGJBS1.tail.tail.tail.tail.tail.tail).blk (qGJBS1.tail.tail.tail.tail.tail.tail.tail).blk
     clear qGJBS1
     have qGJBS2 := ((((((((yGJBS.pk [3, 0, 1, 2, 4, 5, 6, 7]).set_ 0 (.int .i64 i)).set_ 1 (.slice A1 C.length n1)).set_ 2 (.slice A2 T.length n2)).pk [3, 0, 1, 2, 4, 5, 6, 7]).set_ 0 (.string ⟨seed'.toArray⟩)).set_ 1 (.int .i64 h')).set_ 2 (.int .i64 n'))
     have sfGJBS2 := hS _ (qGJBS2.tail.tail.tail.tail.tail.tail).blk (qGJBS2.tail.tail.tail.tail.tail.tail.tail).blk
     clear qGJBS2
     obtain ⟨_, _, _, _, _, _⟩ := bk3 yGJBS.tail.tail.tail.blk
     obtain ⟨_, _, _, _, _, _⟩ := bk3 yGJBS.tail.tail.blk); go_wp2_with fail
    refine hK.out _ _ (by with_reducible exact sfGJBS) fun hH41 => ?_
    clear hK K hH40
    try simp only [pu]
    refine tk 5 15 hH41 ?_
    refine tk 6 21 hH41 ?_
    refine tk 7 22 hH41 ?_
    refine tk 8 23 hH41 ?_
    refine rdy [11] ?_
    refine az fun K hK => ?_
    go_simp
    refine hK.out _ _ (by with_reducible exact sfGJBS1) fun hH42 => ?_
    clear hK K hH41
    try simp only [pu]
    refine rdy [12] ?_
    refine az fun K hK => ?_
    go_simp
    refine hK.out _ _ (by with_reducible exact sfGJBS2) fun hH43 => ?_
    clear hK K hH42
    try simp only [pu]
    refine tk 13 9 hH43 ?_
    refine dn ?_ _
    rotate_left 1
    refine an 8 fun K hK => ?_
    go_simp
    refine hK.out _ _ (by with_reducible exact sfJ) fun hH44 => ?_
    clear hK K hH0
    try simp only [pu]
    refine rdy [2, 9] ?_
    refine ad 18 (fun K hK => ?_) ?_
    go_simp; (
     (with_reducible refine (kb _).mono ?_)
     rintro e wJB ⟨rfl, bB⟩
     have yJB := (Y0.alloc 23 #[.string ⟨#[]⟩, .int .i64 0, .int .i64 0]).drew.under bB
     have sfJB := hS _ (yJB.tail.tail.tail).blk (yJB.tail.tail.tail.tail).blk
     have qJBG0 := (yJB.alloc 29 #[.int .i64 0, .slice none 0 0, .slice none 0 0])
     have sfJBG := hS _ (qJBG0.tail.tail.tail.tail).blk (qJBG0.tail.tail.tail.tail.tail).blk
     clear qJBG0
     have kc0 := yJB.tail.tail.tail.tail.blk.cell 0
     have kc1 := yJB.tail.tail.tail.tail.blk.cell 1
     have kc2 := yJB.tail.tail.tail.tail.blk.cell 2); go_wp2_with fail
    refine hK.out _ _ (by with_reducible exact sfJB) fun hH45 => ?_
    clear hK K hH44
    try simp only [pu]
    refine tk 3 19 hH45 ?_
    refine rdy [4, 9] ?_
    refine ad 20 (fun K hK => ?_) ?_
    go_simp; (
     (with_reducible refine (ks _).mono ?_)
     rintro e wJBS ⟨ua, ub, rfl, t2⟩
     obtain ⟨A1, n1, rfl, _, _⟩ := own_form t2.own
     obtain ⟨A2, n2, rfl, _, _⟩ := own_form t2.tail.own
     have yJBS := yJB.join t2
     have ltJ := (yJBS.tail.tail).blk.lt
     have neJ : ¬ (wJBS.heap.size = w1.heap.size) := Nat.ne_of_gt ltJ
     have sfJBS := hS _ (yJBS.tail.tail.tail.tail.tail).blk (yJBS.tail.tail.tail.tail.tail.tail).blk
     have qJBSG0 := (yJBS.alloc 29 #[.int .i64 0, .slice none 0 0, .slice none 0 0])
     have sfJBSG := hS _ (qJBSG0.tail.tail.tail.tail.tail.tail).blk (qJBSG0.tail.tail.tail.tail.tail.tail.tail).blk
     clear qJBSG0
     have qJBSG1 := (yJBS.alloc 29 #[.int .i64 i, .slice A1 C.length n1, .slice A2 T.length n2])
     have sfJBSG1 := hS _ (qJBSG1.tail.tail.tail.tail.tail.tail).blk (qJBSG1.tail.tail.tail.tail.tail.tail.tail).blk
     clear qJBSG1
     have qJBSG2 := (((((yJBS.pk [2, 0, 1, 3, 4, 5, 6]).set_ 0 (.string ⟨seed'.toArray⟩)).set_ 1 (.int .i64 h')).set_ 2 (.int .i64 n')).alloc 29 #[.int .i64 i, .slice A1 C.length n1, .slice A2 T.length n2])
     have sfJBSG2 := hS _ (qJBSG2.tail.tail.tail.tail.tail.tail).blk (qJBSG2.tail.tail.tail.tail.tail.tail.tail).blk
     clear qJBSG2
     obtain ⟨_, _, _, _, _, _⟩ := bk3 yJBS.tail.tail.blk); go_wp2_with fail
    refine hK.out _ _ (by with_reducible exact sfJBS) fun hH46 => ?_
    clear hK K hH45
    try simp only [pu]
    refine tk 5 15 hH46 ?_
    refine tk 6 21 hH46 ?_
    refine tk 7 22 hH46 ?_
    refine tk 8 23 hH46 ?_
    refine rdy [9] ?_
    refine an 7 fun K hK => ?_
    go_simp
    refine hK.out _ _ (by with_reducible exact sfJBSG) fun hH47 => ?_
    clear hK K hH46
    try simp only [pu]
    refine rdy [11] ?_
    refine az fun K hK => ?_
    go_simp
    refine hK.out _ _ (by with_reducible exact sfJBSG1) fun hH48 => ?_
    clear hK K hH47
    try simp only [pu]
    refine rdy [12] ?_
    refine az fun K hK => ?_
    go_simp
    refine hK.out _ _ (by with_reducible exact sfJBSG2) fun hH49 => ?_
    clear hK K hH48
    try simp only [pu]
    refine tk 13 9 hH49 ?_
    refine dn ?_ _
    rotate_left 1
    refine an 7 fun K hK => ?_
    go_simp
    refine hK.out _ _ (by with_reducible exact sfJBG) fun hH50 => ?_
    clear hK K hH45
    try simp only [pu]
    refine rdy [4] ?_
    refine an 20 fun K hK => ?_
    go_simp; (
     (with_reducible refine (ks _).mono ?_)
     rintro e wJBGS ⟨ua, ub, rfl, t2⟩
     obtain ⟨A1, n1, rfl, _, _⟩ := own_form t2.own
     obtain ⟨A2, n2, rfl, _, _⟩ := own_form t2.tail.own
     have yJBGS := (yJB.alloc 29 #[.int .i64 0, .slice none 0 0, .slice none 0 0]).join t2
     try simp only [World.size_alloc] at yJBGS
     have ltG := (yJBGS.tail.tail).blk.lt
     have neG : ¬ (wJBGS.heap.size = wJB.heap.size) := Nat.ne_of_gt ltG
     have ltJ := (yJBGS.tail.tail.tail).blk.lt
     have neJ : ¬ (wJBGS.heap.size = w1.heap.size) := Nat.ne_of_gt ltJ
     have ltJG : w1.heap.size < wJB.heap.size := by first | exact (yJB).blk.lt | (have := (yJB).blk.lt; simp only [World.size_alloc] at this; exact this) | (have := (yJB).blk.lt; simp only [World.size_drew, World.size_alloc] at this; exact this)
     have neJG : ¬ (w1.heap.size = wJB.heap.size) := Nat.ne_of_lt ltJG
     have neGJ : ¬ (wJB.heap.size = w1.heap.size) := Nat.ne_of_gt ltJG
     have sfJBGS := hS _ (yJBGS.tail.tail.tail.tail.tail.tail).blk (yJBGS.tail.tail.tail.tail.tail.tail.tail).blk
     have qJBGS1 := ((((yJBGS.pk [2, 0, 1, 3, 4, 5, 6, 7]).set_ 0 (.int .i64 i)).set_ 1 (.slice A1 C.length n1)).set_ 2 (.slice A2 T.length n2))
     have sfJBGS1 := hS _ (qJBGS1.tail.tail.tail.tail.tail.tail).blk (qJBGS1.tail.tail.tail.tail.tail.tail.tail).blk
     clear qJBGS1
     have qJBGS2 := ((((((((yJBGS.pk [2, 0, 1, 3, 4, 5, 6, 7]).set_ 0 (.int .i64 i)).set_ 1 (.slice A1 C.length n1)).set_ 2 (.slice A2 T.length n2)).pk [3, 0, 1, 2, 4, 5, 6, 7]).set_ 0 (.string ⟨seed'.toArray⟩)).set_ 1 (.int .i64 h')).set_ 2 (.int .i64 n'))
     have sfJBGS2 := hS _ (qJBGS2.tail.tail.tail.tail.tail.tail).blk (qJBGS2.tail.tail.tail.tail.tail.tail.tail).blk
     clear qJBGS2
     obtain ⟨_, _, _, _, _, _⟩ := bk3 yJBGS.tail.tail.tail.blk
     obtain ⟨_, _, _, _, _, _⟩ := bk3 yJBGS.tail.tail.blk); go_wp2_with fail
    refine hK.out _ _ (by with_reducible exact sfJBGS) fun hH51 => ?_
    clear hK K hH50
    try simp only [pu]
    refine tk 5 15 hH51 ?_
    refine tk 6 21 hH51 ?_
    refine tk 7 22 hH51 ?_
    refine tk 8 23 hH51 ?_
    refine rdy [11] ?_
    refine az fun K hK => ?_
    go_simp
    refine hK.out _ _ (by with_reducible exact sfJBGS1) fun hH52 => ?_
    clear hK K hH51
    try simp only [pu]
    refine rdy [12] ?_
    refine az fun K hK => ?_
    go_simp
    refine hK.out _ _ (by with_reducible exact sfJBGS2) fun hH53 => ?_
    clear hK K hH52
    try simp only [pu]
    refine tk 13 9 hH53 ?_
    refine dn ?_ _
    rotate_left 1
    refine an 7 fun K hK => ?_
    go_simp
    refine hK.out _ _ (by with_reducible exact sfJG) fun hH54 => ?_
    clear hK K hH44
    try simp only [pu]
    refine rdy [2] ?_
    refine an 18 fun K hK => ?_
    go_simp; (
     (with_reducible refine (kb _).mono ?_)
     rintro e wJGB ⟨rfl, bB⟩
     have yJGB := ((Y0.alloc 23 #[.string ⟨#[]⟩, .int .i64 0, .int .i64 0]).alloc 29 #[.int .i64 0, .slice none 0 0, .slice none 0 0]).drew.under bB
     try simp only [World.size_alloc] at yJGB
     have sfJGB := hS _ (yJGB.tail.tail.tail.tail).blk (yJGB.tail.tail.tail.tail.tail).blk
     have kc0 := yJGB.tail.tail.tail.tail.tail.blk.cell 0
     have kc1 := yJGB.tail.tail.tail.tail.tail.blk.cell 1
     have kc2 := yJGB.tail.tail.tail.tail.tail.blk.cell 2); go_wp2_with fail
    refine hK.out _ _ (by with_reducible exact sfJGB) fun hH55 => ?_
    clear hK K hH54
    try simp only [pu]
    refine tk 3 19 hH55 ?_
    refine rdy [4] ?_
    refine an 20 fun K hK => ?_
    go_simp; (
     (with_reducible refine (ks _).mono ?_)
     rintro e wJGBS ⟨ua, ub, rfl, t2⟩
     obtain ⟨A1, n1, rfl, _, _⟩ := own_form t2.own
     obtain ⟨A2, n2, rfl, _, _⟩ := own_form t2.tail.own
     have yJGBS := yJGB.join t2
     try simp only [World.size_alloc] at yJGBS
     have ltG := (yJGBS.tail.tail).blk.lt
     have neG : ¬ (wJGBS.heap.size = w1.heap.size + 1) := Nat.ne_of_gt ltG
     have ltJ := (yJGBS.tail.tail.tail).blk.lt
     have neJ : ¬ (wJGBS.heap.size = w1.heap.size) := Nat.ne_of_gt ltJ
     have ltJG : w1.heap.size < w1.heap.size + 1 := by first | exact ((Y0.alloc 23 #[.string ⟨#[]⟩, .int .i64 0, .int .i64 0]).drew).blk.lt | (have := ((Y0.alloc 23 #[.string ⟨#[]⟩, .int .i64 0, .int .i64 0]).drew).blk.lt; simp only [World.size_alloc] at this; exact this) | (have := ((Y0.alloc 23 #[.string ⟨#[]⟩, .int .i64 0, .int .i64 0]).drew).blk.lt; simp only [World.size_drew, World.size_alloc] at this; exact this)
     have neJG : ¬ (w1.heap.size = w1.heap.size + 1) := Nat.ne_of_lt ltJG
     have neGJ : ¬ (w1.heap.size + 1 = w1.heap.size) := Nat.ne_of_gt ltJG
     have sfJGBS := hS _ (yJGBS.tail.tail.tail.tail.tail.tail).blk (yJGBS.tail.tail.tail.tail.tail.tail.tail).blk
     have qJGBS1 := ((((yJGBS.pk [2, 0, 1, 3, 4, 5, 6, 7]).set_ 0 (.int .i64 i)).set_ 1 (.slice A1 C.length n1)).set_ 2 (.slice A2 T.length n2))
     have sfJGBS1 := hS _ (qJGBS1.tail.tail.tail.tail.tail.tail).blk (qJGBS1.tail.tail.tail.tail.tail.tail.tail).blk
     clear qJGBS1
     have qJGBS2 := ((((((((yJGBS.pk [2, 0, 1, 3, 4, 5, 6, 7]).set_ 0 (.int .i64 i)).set_ 1 (.slice A1 C.length n1)).set_ 2 (.slice A2 T.length n2)).pk [3, 0, 1, 2, 4, 5, 6, 7]).set_ 0 (.string ⟨seed'.toArray⟩)).set_ 1 (.int .i64 h')).set_ 2 (.int .i64 n'))
     have sfJGBS2 := hS _ (qJGBS2.tail.tail.tail.tail.tail.tail).blk (qJGBS2.tail.tail.tail.tail.tail.tail.tail).blk
     clear qJGBS2
     obtain ⟨_, _, _, _, _, _⟩ := bk3 yJGBS.tail.tail.tail.blk
     obtain ⟨_, _, _, _, _, _⟩ := bk3 yJGBS.tail.tail.blk); go_wp2_with fail
    refine hK.out _ _ (by with_reducible exact sfJGBS) fun hH56 => ?_
    clear hK K hH55
    try simp only [pu]
    refine tk 5 15 hH56 ?_
    refine tk 6 21 hH56 ?_
    refine tk 7 22 hH56 ?_
    refine tk 8 23 hH56 ?_
    refine rdy [11] ?_
    refine az fun K hK => ?_
    go_simp
    refine hK.out _ _ (by with_reducible exact sfJGBS1) fun hH57 => ?_
    clear hK K hH56
    try simp only [pu]
    refine rdy [12] ?_
    refine az fun K hK => ?_
    go_simp
    refine hK.out _ _ (by with_reducible exact sfJGBS2) fun hH58 => ?_
    clear hK K hH57
    try simp only [pu]
    refine tk 13 9 hH58 ?_
    refine dn ?_ _
    all_goals (refine NoPanic.normal ?_)
    all_goals
     first
      | (have yF := ((yBS.alloc 29 #[.int .i64 i, .slice A1 C.length n1, .slice A2 T.length n2]).alloc 23 #[.string ⟨seed'.toArray⟩, .int .i64 h', .int .i64 n']).pk [1, 0, 2, 3, 4, 5, 6, 7]
         try simp only [ws] at yF
         obtain ⟨pJ, hpJ⟩ : ∃ q, wBS.heap.size + 1 = q := ⟨_, rfl⟩
         rw [hpJ] at yF ⊢
         obtain ⟨pG, hpG⟩ : ∃ q, wBS.heap.size = q := ⟨_, rfl⟩
         rw [hpG] at yF ⊢
         exact ⟨rfl, pG, pJ, A1, A2, n1, n2, rfl, yF⟩)
      | (have yF := ((yBS.alloc 23 #[.string ⟨seed'.toArray⟩, .int .i64 h', .int .i64 n']).alloc 29 #[.int .i64 i, .slice A1 C.length n1, .slice A2 T.length n2]).pk [0, 1, 2, 3, 4, 5, 6, 7]
         try simp only [ws] at yF
         obtain ⟨pG, hpG⟩ : ∃ q, wBS.heap.size + 1 = q := ⟨_, rfl⟩
         rw [hpG] at yF ⊢
         obtain ⟨pJ, hpJ⟩ : ∃ q, wBS.heap.size = q := ⟨_, rfl⟩
         rw [hpJ] at yF ⊢
         exact ⟨rfl, pG, pJ, A1, A2, n1, n2, rfl, yF⟩)
      | (have yF := (((((yBGS.pk [2, 0, 1, 3, 4, 5, 6]).set_ 0 (.int .i64 i)).set_ 1 (.slice A1 C.length n1)).set_ 2 (.slice A2 T.length n2)).alloc 23 #[.string ⟨seed'.toArray⟩, .int .i64 h', .int .i64 n']).pk [1, 0, 2, 3, 4, 5, 6, 7]
         try simp only [ws] at yF
         obtain ⟨pJ, hpJ⟩ : ∃ q, wBGS.heap.size = q := ⟨_, rfl⟩
         rw [hpJ] at yF ⊢
         obtain ⟨pG, hpG⟩ : ∃ q, wB.heap.size = q := ⟨_, rfl⟩
         rw [hpG] at yF ⊢
         exact ⟨rfl, pG, pJ, A1, A2, n1, n2, rfl, yF⟩)
      | (have yF := ((((((((yBGJS.pk [3, 0, 1, 2, 4, 5, 6, 7]).set_ 0 (.int .i64 i)).set_ 1 (.slice A1 C.length n1)).set_ 2 (.slice A2 T.length n2)).pk [3, 0, 1, 2, 4, 5, 6, 7]).set_ 0 (.string ⟨seed'.toArray⟩)).set_ 1 (.int .i64 h')).set_ 2 (.int .i64 n')).pk [1, 0, 2, 3, 4, 5, 6, 7]
         try simp only [ws] at yF
         obtain ⟨pJ, hpJ⟩ : ∃ q, wB.heap.size + 1 = q := ⟨_, rfl⟩
         rw [hpJ] at yF ⊢
         obtain ⟨pG, hpG⟩ : ∃ q, wB.heap.size = q := ⟨_, rfl⟩
         rw [hpG] at yF ⊢
         exact ⟨rfl, pG, pJ, A1, A2, n1, n2, rfl, yF⟩)
      | (have yF := (((((yBJS.pk [2, 0, 1, 3, 4, 5, 6]).set_ 0 (.string ⟨seed'.toArray⟩)).set_ 1 (.int .i64 h')).set_ 2 (.int .i64 n')).alloc 29 #[.int .i64 i, .slice A1 C.length n1, .slice A2 T.length n2]).pk [0, 1, 2, 3, 4, 5, 6, 7]
         try simp only [ws] at yF
         obtain ⟨pG, hpG⟩ : ∃ q, wBJS.heap.size = q := ⟨_, rfl⟩
         rw [hpG] at yF ⊢
         obtain ⟨pJ, hpJ⟩ : ∃ q, wB.heap.size = q := ⟨_, rfl⟩
         rw [hpJ] at yF ⊢
         exact ⟨rfl, pG, pJ, A1, A2, n1, n2, rfl, yF⟩)
      | (have yF := ((((((((yBJGS.pk [2, 0, 1, 3, 4, 5, 6, 7]).set_ 0 (.int .i64 i)).set_ 1 (.slice A1 C.length n1)).set_ 2 (.slice A2 T.length n2)).pk [3, 0, 1, 2, 4, 5, 6, 7]).set_ 0 (.string ⟨seed'.toArray⟩)).set_ 1 (.int .i64 h')).set_ 2 (.int .i64 n')).pk [1, 0, 2, 3, 4, 5, 6, 7]
         try simp only [ws] at yF
         obtain ⟨pG, hpG⟩ : ∃ q, wB.heap.size + 1 = q := ⟨_, rfl⟩
         rw [hpG] at yF ⊢
         obtain ⟨pJ, hpJ⟩ : ∃ q, wB.heap.size = q := ⟨_, rfl⟩
         rw [hpJ] at yF ⊢
         exact ⟨rfl, pG, pJ, A1, A2, n1, n2, rfl, yF⟩)
      | (have yF := (((((yGBS.pk [2, 0, 1, 3, 4, 5, 6]).set_ 0 (.int .i64 i)).set_ 1 (.slice A1 C.length n1)).set_ 2 (.slice A2 T.length n2)).alloc 23 #[.string ⟨seed'.toArray⟩, .int .i64 h', .int .i64 n']).pk [1, 0, 2, 3, 4, 5, 6, 7]
         try simp only [ws] at yF
         obtain ⟨pJ, hpJ⟩ : ∃ q, wGBS.heap.size = q := ⟨_, rfl⟩
         rw [hpJ] at yF ⊢
         obtain ⟨pG, hpG⟩ : ∃ q, w1.heap.size = q := ⟨_, rfl⟩
         rw [hpG] at yF ⊢
         exact ⟨rfl, pG, pJ, A1, A2, n1, n2, rfl, yF⟩)
      | (have yF := ((((((((yGBJS.pk [3, 0, 1, 2, 4, 5, 6, 7]).set_ 0 (.int .i64 i)).set_ 1 (.slice A1 C.length n1)).set_ 2 (.slice A2 T.length n2)).pk [3, 0, 1, 2, 4, 5, 6, 7]).set_ 0 (.string ⟨seed'.toArray⟩)).set_ 1 (.int .i64 h')).set_ 2 (.int .i64 n')).pk [1, 0, 2, 3, 4, 5, 6, 7]
         try simp only [ws] at yF
         obtain ⟨pJ, hpJ⟩ : ∃ q, wGB.heap.size = q := ⟨_, rfl⟩
         rw [hpJ] at yF ⊢
         obtain ⟨pG, hpG⟩ : ∃ q, w1.heap.size = q := ⟨_, rfl⟩
         rw [hpG] at yF ⊢
         exact ⟨rfl, pG, pJ, A1, A2, n1, n2, rfl, yF⟩)
      | (have yF := ((((((((yGJBS.pk [3, 0, 1, 2, 4, 5, 6, 7]).set_ 0 (.int .i64 i)).set_ 1 (.slice A1 C.length n1)).set_ 2 (.slice A2 T.length n2)).pk [3, 0, 1, 2, 4, 5, 6, 7]).set_ 0 (.string ⟨seed'.toArray⟩)).set_ 1 (.int .i64 h')).set_ 2 (.int .i64 n')).pk [1, 0, 2, 3, 4, 5, 6, 7]
         try simp only [ws] at yF
         obtain ⟨pJ, hpJ⟩ : ∃ q, w1.heap.size + 1 = q := ⟨_, rfl⟩
         rw [hpJ] at yF ⊢
         obtain ⟨pG, hpG⟩ : ∃ q, w1.heap.size = q := ⟨_, rfl⟩
         rw [hpG] at yF ⊢
         exact ⟨rfl, pG, pJ, A1, A2, n1, n2, rfl, yF⟩)
      | (have yF := (((((yJBS.pk [2, 0, 1, 3, 4, 5, 6]).set_ 0 (.string ⟨seed'.toArray⟩)).set_ 1 (.int .i64 h')).set_ 2 (.int .i64 n')).alloc 29 #[.int .i64 i, .slice A1 C.length n1, .slice A2 T.length n2]).pk [0, 1, 2, 3, 4, 5, 6, 7]
         try simp only [ws] at yF
         obtain ⟨pG, hpG⟩ : ∃ q, wJBS.heap.size = q := ⟨_, rfl⟩
         rw [hpG] at yF ⊢
         obtain ⟨pJ, hpJ⟩ : ∃ q, w1.heap.size = q := ⟨_, rfl⟩
         rw [hpJ] at yF ⊢
         exact ⟨rfl, pG, pJ, A1, A2, n1, n2, rfl, yF⟩)
      | (have yF := ((((((((yJBGS.pk [2, 0, 1, 3, 4, 5, 6, 7]).set_ 0 (.int .i64 i)).set_ 1 (.slice A1 C.length n1)).set_ 2 (.slice A2 T.length n2)).pk [3, 0, 1, 2, 4, 5, 6, 7]).set_ 0 (.string ⟨seed'.toArray⟩)).set_ 1 (.int .i64 h')).set_ 2 (.int .i64 n')).pk [1, 0, 2, 3, 4, 5, 6, 7]
         try simp only [ws] at yF
         obtain ⟨pG, hpG⟩ : ∃ q, wJB.heap.size = q := ⟨_, rfl⟩
         rw [hpG] at yF ⊢
         obtain ⟨pJ, hpJ⟩ : ∃ q, w1.heap.size = q := ⟨_, rfl⟩
         rw [hpJ] at yF ⊢
         exact ⟨rfl, pG, pJ, A1, A2, n1, n2, rfl, yF⟩)
      | (have yF := ((((((((yJGBS.pk [2, 0, 1, 3, 4, 5, 6, 7]).set_ 0 (.int .i64 i)).set_ 1 (.slice A1 C.length n1)).set_ 2 (.slice A2 T.length n2)).pk [3, 0, 1, 2, 4, 5, 6, 7]).set_ 0 (.string ⟨seed'.toArray⟩)).set_ 1 (.int .i64 h')).set_ 2 (.int .i64 n')).pk [1, 0, 2, 3, 4, 5, 6, 7]
         try simp only [ws] at yF
         obtain ⟨pG, hpG⟩ : ∃ q, w1.heap.size + 1 = q := ⟨_, rfl⟩
         rw [hpG] at yF ⊢
         obtain ⟨pJ, hpJ⟩ : ∃ q, w1.heap.size = q := ⟨_, rfl⟩
         rw [hpJ] at yF ⊢
         exact ⟨rfl, pG, pJ, A1, A2, n1, n2, rfl, yF⟩)
   case k =>
    rintro pG pJ A1 A2 n1 n2 W6 y6
    by_cases her : er = 0
    ·subst her
     have hres := HR.out
     rw [if_pos rfl] at hres
     have y7 := y6.pk [5, 4, 0, 1, 2, 3, 6, 7]
     have hT : ∀ W' R1 R2 R3 R4 R5, St w.heap.size w W' [R1, R2, cellsR (pG) 29 #[.int .i64 i, .slice A1 C.length n1, .slice A2 T.length n2], cellsR (pJ) 23 #[.string ⟨seed'.toArray⟩, .int .i64 h', .int .i64 n'], R3, R4, cellsR (w.heap.size + 1) 25 #[.string ⟨o.toArray⟩, .int .i64 z, .string ⟨r.toArray⟩], R5] → (W'.cell? ⟨pG, 0, none⟩ = some (.int .i64 i) ∧ W'.cell? ⟨pG, 1, none⟩ = some (.slice A1 C.length n1) ∧ W'.cell? ⟨pG, 2, none⟩ = some (.slice A2 T.length n2) ∧ W'.cell? ⟨w.heap.size + 1, 0, none⟩ = some (.string ⟨o.toArray⟩) ∧ W'.cell? ⟨w.heap.size + 1, 1, none⟩ = some (.int .i64 z) ∧ W'.cell? ⟨w.heap.size + 1, 2, none⟩ = some (.string ⟨r.toArray⟩) ∧ W'.cell? ⟨pJ, 0, none⟩ = some (.string ⟨seed'.toArray⟩) ∧ W'.cell? ⟨pJ, 1, none⟩ = some (.int .i64 h') ∧ W'.cell? ⟨pJ, 2, none⟩ = some (.int .i64 n')) := fun W' R1 R2 R3 R4 R5 hh => ⟨hh.tail.tail.blk.cell 0, hh.tail.tail.blk.cell 1, hh.tail.tail.blk.cell 2, hh.tail.tail.tail.tail.tail.tail.blk.cell 0, hh.tail.tail.tail.tail.tail.tail.blk.cell 1, hh.tail.tail.tail.tail.tail.tail.blk.cell 2, hh.tail.tail.tail.blk.cell 0, hh.tail.tail.tail.blk.cell 1, hh.tail.tail.tail.blk.cell 2⟩
     have yC := (((((((y7.set_ 0 (.string ⟨o.toArray⟩)).set_ 1 (.int .i64 z)).set_ 2 (.string ⟨r.toArray⟩)).set_ 3 (.int .i64 i)).set_ 4 (.slice A1 C.length n1)).set_ 5 (.slice A2 T.length n2)).set_ 6 (.slice none 0 0))
     have yZ := (((yC.swap.set_ 0 (.string ⟨seed'.toArray⟩)).set_ 1 (.int .i64 h')).set_ 2 (.int .i64 n'))
     have s0 := hT _ _ _ _ _ _ y7.drew
     have s1 := hT _ _ _ _ _ _ yC.drew
     have s2 := hT _ _ _ _ _ _ yZ.swap.drew
     have cc0 := y7.blk.cell 0
     have cc1 := y7.blk.cell 1
     have cc2 := y7.blk.cell 2
     have cc3 := y7.blk.cell 3
     have cc4 := y7.blk.cell 4
     have cc5 := y7.blk.cell 5
     have cc6 := y7.blk.cell 6
     have cf0 := y7.blk.frozen 0
     have cf1 := y7.blk.frozen 1
     have cf2 := y7.blk.frozen 2
     have cf3 := y7.blk.frozen 3
     have cf4 := y7.blk.frozen 4
     have cf5 := y7.blk.frozen 5
     have cf6 := y7.blk.frozen 6
     have zc0 := y7.tail.blk.cell 0
     have zc1 := y7.tail.blk.cell 1
     have zc2 := y7.tail.blk.cell 2
     have zf0 := y7.tail.blk.frozen 0
     have zf1 := y7.tail.blk.frozen 1
     have zf2 := y7.tail.blk.frozen 2
     have YZ := Lib.hid yZ.drew
     clear y6 y7 yC yZ hS
     go_wp2_with fail
     refine wp_region_noPanic ?_
     refine wp_region_held_drew (S := (fun W' => W'.cell? ⟨pG, 0, none⟩ = some (.int .i64 i) ∧ W'.cell? ⟨pG, 1, none⟩ = some (.slice A1 C.length n1) ∧ W'.cell? ⟨pG, 2, none⟩ = some (.slice A2 T.length n2) ∧ W'.cell? ⟨w.heap.size + 1, 0, none⟩ = some (.string ⟨o.toArray⟩) ∧ W'.cell? ⟨w.heap.size + 1, 1, none⟩ = some (.int .i64 z) ∧ W'.cell? ⟨w.heap.size + 1, 2, none⟩ = some (.string ⟨r.toArray⟩) ∧ W'.cell? ⟨pJ, 0, none⟩ = some (.string ⟨seed'.toArray⟩) ∧ W'.cell? ⟨pJ, 1, none⟩ = some (.int .i64 h') ∧ W'.cell? ⟨pJ, 2, none⟩ = some (.int .i64 n'))) (by kernel_rfl) ?_ (fun hH0 => ?_)
     ·with_reducible exact s0
     refine tk 0 29 hH0 ?_
     refine tk 1 30 hH0 ?_
     refine tk 2 31 hH0 ?_
     refine tk 3 32 hH0 ?_
     refine rdy [4] ?_
     refine az fun K hK => ?_
     go_simp
     refine hK.out _ _ (by with_reducible exact s1) fun hH1 => ?_
     clear hK K hH0
     try simp only [pu]
     refine rdy [5] ?_
     refine az fun K hK => ?_
     go_simp
     refine hK.out _ _ (by with_reducible exact s2) fun hH2 => ?_
     clear hK K hH1
     try simp only [pu]
     refine tk 6 6 hH2 ?_
     refine dn ?_ _
     all_goals (refine NoPanic.normal ?_)
     go_wp2
     have yE := YZ.out
     refine bodyPost_ret (results_cct rfl _ _ _ _ _ _ _ _ _ _ _ _ rfl yE.tail.blk Tryz.underlying32 rfl size_ck rfl yE.blk Tryz.underlying23 rfl size_key) rfl ?_
     subst hres
     exact ⟨_, _, rfl, yE.pk [4, 5]⟩
    ·have hres := HR.out
     rw [if_neg her] at hres
     have y7 := y6.pk [5, 4]
     have cc0 := y7.blk.cell 0
     have cc1 := y7.blk.cell 1
     have cc2 := y7.blk.cell 2
     have cc3 := y7.blk.cell 3
     have cc4 := y7.blk.cell 4
     have cc5 := y7.blk.cell 5
     have cc6 := y7.blk.cell 6
     have cf0 := y7.blk.frozen 0
     have cf1 := y7.blk.frozen 1
     have cf2 := y7.blk.frozen 2
     have cf3 := y7.blk.frozen 3
     have cf4 := y7.blk.frozen 4
     have cf5 := y7.blk.frozen 5
     have cf6 := y7.blk.frozen 6
     have zc0 := y7.tail.blk.cell 0
     have zc1 := y7.tail.blk.cell 1
     have zc2 := y7.tail.blk.cell 2
     have zf0 := y7.tail.blk.frozen 0
     have zf1 := y7.tail.blk.frozen 1
     have zf2 := y7.tail.blk.frozen 2
     have yE := (((((((((((y7.set_ 0 (.string ⟨#[]⟩)).set_ 1 (.int .i64 0)).set_ 2 (.string ⟨#[]⟩)).set_ 3 (.int .i64 0)).set_ 4 (.slice none 0 0)).set_ 5 (.slice none 0 0)).set_ 6 (.slice none 0 0)).swap).set_ 0 (.string ⟨#[]⟩)).set_ 1 (.int .i64 0)).set_ 2 (.int .i64 0))
     have YE := Lib.hid yE
     clear y6 y7 yE hS
     have her1 : ((er : Int) == 0) = false := beq_eq_false_iff_ne.2 her
     go_wp2
     refine bodyPost_ret (results_cct rfl _ _ _ _ _ _ _ _ _ _ _ _ rfl YE.out.tail.blk Tryz.underlying32 rfl size_ck rfl YE.out.blk Tryz.underlying23 rfl size_key) rfl ?_
     subst hres
     exact ckP_bad er YE.out.tail.tail
end Go.Proofs.YtjjpdnpbhdcpbaaGreat
