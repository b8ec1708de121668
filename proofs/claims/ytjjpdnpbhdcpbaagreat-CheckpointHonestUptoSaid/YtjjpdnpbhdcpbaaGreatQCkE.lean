/-
  Checkpoints: rotations to a public key, in the program and in the reference. Conditions: none.
-/
import Derived.Test.YtjjpdnpbhdcpbaaGreatQPa
import Derived.Test.YtjjpdnpbhdcpbaaGreatQCkC
import Derived.Test.YtjjpdnpbhdcpbaaGreatQPc
namespace Go.Proofs.YtjjpdnpbhdcpbaaGreat
set_option linter.unusedVariables false
open Go.RowKit Go.Shelf
attribute [local go_sem] Oper.semAt_some
theorem size_rot : (Tryz.prog.info? 41).map (·.size) = some 4 := by kernel_rfl
theorem vpB_len {pub : Sg.Str} (h : vpB pub = true) : pub.length = 33 := by
 unfold vpB at h
 by_cases c : pub.length = 33
 ·exact c
 ·rw [if_neg c] at h
  cases h
def ckRtR (seed : Sg.Str) (h n : Int) (pub : Sg.Str) : Sg.Str × ((Int × List Sg.Str × List Sg.Str) × (Sg.Str × Int × Int) × Int) :=
 if vpB pub = true then
  if (signR seed h n (Sg.dgs (6 :: pub))).2.2 = 0 then (pub, signR seed h n (Sg.dgs (6 :: pub))) else ([], noSg (signR seed h n (Sg.dgs (6 :: pub))).2.2)
 else ([], noSg 1)
def RtP (y : Sg.Str × ((Int × List Sg.Str × List Sg.Str) × (Sg.Str × Int × Int) × Int)) (w : World) (e : Ending) (w' : World) : Prop :=
 ∃ a b, e = .returned (.tuple #[.agg #[.string ⟨y.1.toArray⟩, .int .i64 y.2.1.1, a, b], .agg (keyA y.2.2.1.1 y.2.2.1.2.1 y.2.2.1.2.2), .int .i64 y.2.2.2]) ∧ St w.heap.size w w' [ownR 9 1 a y.2.1.2.1.length (strs y.2.1.2.1), ownR 9 1 b y.2.1.2.2.length (strs y.2.1.2.2)]
theorem rtP_bad (er : Int) {w w' : World} (h : St w.heap.size w w' []) : RtP ([], noSg er) w (.returned (.tuple #[.agg #[.string ⟨#[]⟩, .int .i64 0, .slice none 0 0, .slice none 0 0], .agg #[.string ⟨#[]⟩, .int .i64 0, .int .i64 0], .int .i64 er])) w' :=
 ⟨_, _, rfl, (h.new_own (Below.refl _ _) (World.ownsRow_nil _ _ _ _)).new_own (Below.refl _ _) (World.ownsRow_nil _ _ _ _)⟩
set_option maxRecDepth 20000 in
set_option maxHeartbeats 4000000 in
theorem ckrot_spec (seed : Sg.Str) (h n : Int) (pub : Sg.Str) (w : World) :
 Calls Tryz.prog 16 #[.agg #[.string ⟨seed.toArray⟩, .int .i64 h, .int .i64 n], .string ⟨pub.toArray⟩] w (RtP (ckRtR seed h n pub) w) := by
 obtain ⟨W0, hW0⟩ : ∃ W0, w.alloc (.cells #[.string ⟨seed.toArray⟩, .int .i64 h, .int .i64 n] 23) = W0 := ⟨_, rfl⟩
 have hs0 : W0.heap.size = w.heap.size + 1 := by rw [← hW0]; simp
 obtain ⟨W1, hW1⟩ : ∃ W1, W0.alloc (.cells #[.string ⟨#[]⟩, .int .i64 0, .slice none 0 0, .slice none 0 0] 41) = W1 := ⟨_, rfl⟩
 have hs1 : W1.heap.size = w.heap.size + 1 + 1 := by rw [← hW1]; simp [hs0]
 obtain ⟨W, hW⟩ : ∃ W, W1.alloc (.cells #[.string ⟨#[]⟩, .int .i64 0, .int .i64 0] 23) = W := ⟨_, rfl⟩
 have y0 : St w.heap.size w W [cellsR (w.heap.size + 1 + 1) 23 #[.string ⟨#[]⟩, .int .i64 0, .int .i64 0], cellsR (w.heap.size + 1) 41 #[.string ⟨#[]⟩, .int .i64 0, .slice none 0 0, .slice none 0 0], cellsR (w.heap.size) 23 #[.string ⟨seed.toArray⟩, .int .i64 h, .int .i64 n]] := by
  have := (((St.nil w).alloc 23 #[.string ⟨seed.toArray⟩, .int .i64 h, .int .i64 n]).alloc 41 #[.string ⟨#[]⟩, .int .i64 0, .slice none 0 0, .slice none 0 0]).alloc 23 #[.string ⟨#[]⟩, .int .i64 0, .int .i64 0]
  rw [hW0, hW1, hW, hs0, hs1] at this
  exact this
 have kp := fun W' => ckpub_spec pub W'
 unfold ckRtR
 cases hh : vpB pub with
 | false =>
   rw [hh] at kp
   rw [if_neg (by decide)]
   clear hh
   have cc0 := y0.tail.blk.cell 0
   have cc1 := y0.tail.blk.cell 1
   have cc2 := y0.tail.blk.cell 2
   have cc3 := y0.tail.blk.cell 3
   have cf0 := y0.tail.blk.frozen 0
   have cf1 := y0.tail.blk.frozen 1
   have cf2 := y0.tail.blk.frozen 2
   have cf3 := y0.tail.blk.frozen 3
   have zc0 := y0.blk.cell 0
   have zc1 := y0.blk.cell 1
   have zc2 := y0.blk.cell 2
   have zf0 := y0.blk.frozen 0
   have zf1 := y0.blk.frozen 1
   have zf2 := y0.blk.frozen 2
   have YE := Lib.hid ((((((((y0.swap.set_ 0 (.string ⟨#[]⟩)).set_ 1 (.int .i64 0)).set_ 2 (.slice none 0 0)).set_ 3 (.slice none 0 0)).swap).set_ 0 (.string ⟨#[]⟩)).set_ 1 (.int .i64 0)).set_ 2 (.int .i64 0))
   clear y0
   go_enter Tryz.func16, Tryz.ntmps16
   go_wp2_with fail
   refine (kp _).mono ?_
   rintro e w1 ⟨rfl, rfl⟩
   go_wp2
   refine bodyPost_ret (results_cct rfl _ _ _ _ _ _ _ _ _ _ _ _ rfl YE.out.tail.blk Tryz.underlying41 rfl size_rot rfl YE.out.blk Tryz.underlying23 rfl size_key) rfl ?_
   exact rtP_bad 1 YE.out.tail.tail.tail
 | true =>
   rw [hh] at kp
   rw [if_pos rfl]
   have hl := vpB_len hh
   have ks := fun W' => sign_spec seed (6 :: pub) h n W' (by rw [List.length_cons]; omega)
   have g1 := cons_bytes 6 pub
   obtain ⟨f1, f2⟩ := sg_cat [6] pub (by rw [List.length_singleton]; omega)
   rw [List.length_singleton] at f1 f2
   obtain ⟨x, hx⟩ : ∃ x, signR seed h n (Sg.dgs (6 :: pub)) = x := ⟨_, rfl⟩
   rw [hx] at ks ⊢
   obtain ⟨⟨i, C, T⟩, ⟨seed', h', n'⟩, er⟩ := x
   unfold SgP keyA at ks
   dsimp only at ks ⊢
   clear hh hx hl
   generalize hres : ite (er = 0) _ _ = res
   have HR := Lib.hid hres
   clear hres
   have kc0 := y0.tail.tail.blk.cell 0
   have kc1 := y0.tail.tail.blk.cell 1
   have kc2 := y0.tail.tail.blk.cell 2
   have Y := Lib.hid y0
   clear y0
   go_enter Tryz.func16, Tryz.ntmps16
   go_wp2_with fail
   refine (kp _).mono ?_
   rintro e w1 ⟨rfl, rfl⟩
   go_wp2_with fail
   refine (ks _).mono ?_
   rintro e w2 ⟨ua, ub, rfl, t2⟩
   obtain ⟨A1, n1, rfl, _, _⟩ := own_form t2.own
   obtain ⟨A2, n2, rfl, _, _⟩ := own_form t2.tail.own
   have y2 := Y.out.join t2
   have y3 := ((((y2.pk [4, 0, 1, 2, 3]).set_ 0 (.string ⟨seed'.toArray⟩)).set_ 1 (.int .i64 h')).set_ 2 (.int .i64 n')).alloc 29 #[.int .i64 i, .slice A1 C.length n1, .slice A2 T.length n2]
   rw [World.size_setCell, World.size_setCell, World.size_setCell] at y3
   obtain ⟨p, hp⟩ : ∃ p, w2.heap.size = p := ⟨_, rfl⟩
   rw [hp] at y3
   have Y3 := Lib.hid y3
   have YB := Lib.hid y2
   have lc0 := y2.tail.tail.tail.tail.blk.cell 0
   have lc1 := y2.tail.tail.tail.tail.blk.cell 1
   have lc2 := y2.tail.tail.tail.tail.blk.cell 2
   have lf0 := y2.tail.tail.tail.tail.blk.frozen 0
   have lf1 := y2.tail.tail.tail.tail.blk.frozen 1
   have lf2 := y2.tail.tail.tail.tail.blk.frozen 2
   have klt := y2.tail.tail.tail.tail.blk.lt
   have kne : ¬ (w2.heap.size = w.heap.size) := Nat.ne_of_gt klt
   have klt' := klt
   have kne' := kne
   rw [hp] at klt' kne'
   have ka0 := (y2.alloc 29 #[.int .i64 i, .slice A1 C.length n1, .slice A2 T.length n2]).tail.tail.tail.tail.tail.blk.frozen 0
   have ka1 := (y2.alloc 29 #[.int .i64 i, .slice A1 C.length n1, .slice A2 T.length n2]).tail.tail.tail.tail.tail.blk.frozen 1
   have ka2 := (y2.alloc 29 #[.int .i64 i, .slice A1 C.length n1, .slice A2 T.length n2]).tail.tail.tail.tail.tail.blk.frozen 2
   clear Y y2 y3 t2 kp ks kc0 kc1 kc2 hW hW0 hW1 hs0 hs1
   by_cases her : er = 0
   ·subst her
    have hres := HR.out
    rw [if_pos rfl] at hres
    clear YB
    go_wp2_with fail
    obtain ⟨W6, hW6⟩ : ∃ W6, (((w2.setCell ⟨w.heap.size, 0, none⟩ (.string ⟨seed'.toArray⟩)).setCell ⟨w.heap.size, 1, none⟩ (.int .i64 h')).setCell ⟨w.heap.size, 2, none⟩ (.int .i64 n')).alloc (.cells #[.int .i64 i, .slice A1 C.length n1, .slice A2 T.length n2] 29) = W6 := ⟨_, rfl⟩
    have y6 : St w.heap.size w W6 [cellsR (p) 29 #[.int .i64 i, .slice A1 C.length n1, .slice A2 T.length n2], cellsR (w.heap.size) 23 #[.string ⟨seed'.toArray⟩, .int .i64 h', .int .i64 n'], ownR 9 1 (.slice A1 C.length n1) C.length (strs C), ownR 9 1 (.slice A2 T.length n2) T.length (strs T), cellsR (w.heap.size + 1 + 1) 23 #[.string ⟨#[]⟩, .int .i64 0, .int .i64 0], cellsR (w.heap.size + 1) 41 #[.string ⟨#[]⟩, .int .i64 0, .slice none 0 0, .slice none 0 0]] := by
     rw [← hW6]
     exact Y3.out
    rw [hW6]
    have y7 := y6.pk [5, 4, 0, 1, 2, 3]
    have hT : ∀ W' R0 R1 R2 R3, St w.heap.size w W' [R0, R1, cellsR (p) 29 #[.int .i64 i, .slice A1 C.length n1, .slice A2 T.length n2], cellsR (w.heap.size) 23 #[.string ⟨seed'.toArray⟩, .int .i64 h', .int .i64 n'], R2, R3] → (W'.cell? ⟨p, 0, none⟩ = some (.int .i64 i) ∧ W'.cell? ⟨p, 1, none⟩ = some (.slice A1 C.length n1) ∧ W'.cell? ⟨p, 2, none⟩ = some (.slice A2 T.length n2) ∧ W'.cell? ⟨w.heap.size, 0, none⟩ = some (.string ⟨seed'.toArray⟩) ∧ W'.cell? ⟨w.heap.size, 1, none⟩ = some (.int .i64 h') ∧ W'.cell? ⟨w.heap.size, 2, none⟩ = some (.int .i64 n')) := fun W' R0 R1 R2 R3 hh => ⟨hh.tail.tail.blk.cell 0, hh.tail.tail.blk.cell 1, hh.tail.tail.blk.cell 2, hh.tail.tail.tail.blk.cell 0, hh.tail.tail.tail.blk.cell 1, hh.tail.tail.tail.blk.cell 2⟩
    have yC := ((((y7.set_ 0 (.string ⟨pub.toArray⟩)).set_ 1 (.int .i64 i)).set_ 2 (.slice A1 C.length n1)).set_ 3 (.slice A2 T.length n2))
    have yZ := (((yC.swap.set_ 0 (.string ⟨seed'.toArray⟩)).set_ 1 (.int .i64 h')).set_ 2 (.int .i64 n'))
    have s0 := hT _ _ _ _ _ y7.drew
    have s1 := hT _ _ _ _ _ yC.drew
    have s2 := hT _ _ _ _ _ yZ.swap.drew
    have cc0 := y7.blk.cell 0
    have cc1 := y7.blk.cell 1
    have cc2 := y7.blk.cell 2
    have cc3 := y7.blk.cell 3
    have cf0 := y7.blk.frozen 0
    have cf1 := y7.blk.frozen 1
    have cf2 := y7.blk.frozen 2
    have cf3 := y7.blk.frozen 3
    have zc0 := y7.tail.blk.cell 0
    have zc1 := y7.tail.blk.cell 1
    have zc2 := y7.tail.blk.cell 2
    have zf0 := y7.tail.blk.frozen 0
    have zf1 := y7.tail.blk.frozen 1
    have zf2 := y7.tail.blk.frozen 2
    have YZ := Lib.hid yZ.drew
    clear y6 y7 yC yZ Y3 hW6
    refine wp_region_noPanic ?_
    refine wp_region_held_drew (S := (fun W' => W'.cell? ⟨p, 0, none⟩ = some (.int .i64 i) ∧ W'.cell? ⟨p, 1, none⟩ = some (.slice A1 C.length n1) ∧ W'.cell? ⟨p, 2, none⟩ = some (.slice A2 T.length n2) ∧ W'.cell? ⟨w.heap.size, 0, none⟩ = some (.string ⟨seed'.toArray⟩) ∧ W'.cell? ⟨w.heap.size, 1, none⟩ = some (.int .i64 h') ∧ W'.cell? ⟨w.heap.size, 2, none⟩ = some (.int .i64 n'))) (by kernel_rfl) ?_ (fun hH0 => ?_)
    ·with_reducible exact s0
    refine tk 0 27 hH0 ?_
    refine tk 1 28 hH0 ?_
    refine tk 2 29 hH0 ?_
    refine tk 3 30 hH0 ?_
    refine rdy [4] ?_
    refine az fun K hK => ?_
    go_simp
    refine hK.out _ _ (by with_reducible exact s1) fun hH1 => ?_
    clear hK K hH0
    try simp only [pu]
    refine rdy [5] ?_
    refine az fun K hK => ?_
    go_simp
    refine hK.out _ _ (by with_reducible exact s2) fun hH2 => ?_
    clear hK K hH1
    try simp only [pu]
    refine tk 6 6 hH2 ?_
    refine dn ?_ _
    all_goals (refine NoPanic.normal ?_)
    go_wp2
    have yE := YZ.out
    refine bodyPost_ret (results_cct rfl _ _ _ _ _ _ _ _ _ _ _ _ rfl yE.tail.blk Tryz.underlying41 rfl size_rot rfl yE.blk Tryz.underlying23 rfl size_key) rfl ?_
    subst hres
    exact ⟨_, _, rfl, yE.pk [4, 5]⟩
   ·have hres := HR.out
    rw [if_neg her] at hres
    have her1 : ((er : Int) == 0) = false := beq_eq_false_iff_ne.2 her
    have YE := Lib.hid ((((((((((((((YB.out.pk [4, 0, 1, 2, 3]).set_ 0 (.string ⟨seed'.toArray⟩)).set_ 1 (.int .i64 h')).set_ 2 (.int .i64 n')).pk [4, 3]).set_ 0 (.string ⟨#[]⟩)).set_ 1 (.int .i64 0)).set_ 2 (.slice none 0 0)).set_ 3 (.slice none 0 0)).swap).set_ 0 (.string ⟨#[]⟩)).set_ 1 (.int .i64 0)).set_ 2 (.int .i64 0)).alloc0 (.cells #[.int .i64 i, .slice A1 C.length n1, .slice A2 T.length n2] 29))
    have rc0 := YB.out.tail.tail.tail.blk.cell 0
    have rc1 := YB.out.tail.tail.tail.blk.cell 1
    have rc2 := YB.out.tail.tail.tail.blk.cell 2
    have rc3 := YB.out.tail.tail.tail.blk.cell 3
    have rf0 := YB.out.tail.tail.tail.blk.frozen 0
    have rf1 := YB.out.tail.tail.tail.blk.frozen 1
    have rf2 := YB.out.tail.tail.tail.blk.frozen 2
    have rf3 := YB.out.tail.tail.tail.blk.frozen 3
    have rlt := YB.out.tail.tail.tail.blk.lt
    rw [hp] at rlt
    have rne : ¬ (p = w.heap.size + 1) := Nat.ne_of_gt rlt
    have zc0 := YB.out.tail.tail.blk.cell 0
    have zc1 := YB.out.tail.tail.blk.cell 1
    have zc2 := YB.out.tail.tail.blk.cell 2
    have zf0 := YB.out.tail.tail.blk.frozen 0
    have zf1 := YB.out.tail.tail.blk.frozen 1
    have zf2 := YB.out.tail.tail.blk.frozen 2
    have zlt := YB.out.tail.tail.blk.lt
    rw [hp] at zlt
    have zne : ¬ (p = w.heap.size + 1 + 1) := Nat.ne_of_gt zlt
    clear Y3 YB
    go_wp2
    refine bodyPost_ret (results_cct rfl _ _ _ _ _ _ _ _ _ _ _ _ rfl YE.out.tail.blk Tryz.underlying41 rfl size_rot rfl YE.out.blk Tryz.underlying23 rfl size_key) rfl ?_
    subst hres
    exact rtP_bad er YE.out.tail.tail
end Go.Proofs.YtjjpdnpbhdcpbaaGreat
