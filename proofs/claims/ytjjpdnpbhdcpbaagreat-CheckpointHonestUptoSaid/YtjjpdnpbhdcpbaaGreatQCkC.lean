/-
  Checkpoints: signing a head. Conditions: none.
-/
import Derived.Test.YtjjpdnpbhdcpbaaGreatQPa
import Derived.Test.YtjjpdnpbhdcpbaaGreatQPc
namespace Go.Proofs.YtjjpdnpbhdcpbaaGreat
set_option linter.unusedVariables false
open Go.RowKit Go.Shelf
attribute [local go_sem] Oper.semAt_some
theorem ws : (∀ (w : World) (a : Addr) (v : Value), (w.setCell a v).heap.size = w.heap.size) ∧ (∀ (w : World) (o : Obj), (w.alloc o).heap.size = w.heap.size + 1) ∧ (∀ w : World, w.drew.heap.size = w.heap.size) := ⟨fun w a v => by simp only [World.size_setCell], fun w o => by simp only [World.size_alloc], fun w => by simp only [World.size_drew]⟩
theorem region_via {P : Program} {c : Code} {Q : Exit → Act → World → Prop} {a : Act} {w : World} {α β γ δ ε : Type} (S : α → β → γ → δ → ε → World → Prop) {F : α → β → γ → δ → ε → Act}
 (h : c.wp P (fun e a' w' => e = Exit.normal ∧ ∃ x1 x2 x3 x4 x5, a' = F x1 x2 x3 x4 x5 ∧ S x1 x2 x3 x4 x5 w') a w) (k : ∀ x1 x2 x3 x4 x5 w', S x1 x2 x3 x4 x5 w' → Q Exit.normal (F x1 x2 x3 x4 x5) w') : c.wp P Q a w :=
 Code.wp_mono (fun e a w hr => by obtain ⟨rfl, x1, x2, x3, x4, x5, rfl, hs⟩ := hr; exact k _ _ _ _ _ _ hs) h
theorem region_via6 {P : Program} {c : Code} {Q : Exit → Act → World → Prop} {a : Act} {w : World} {α β γ δ ε ζ : Type} (S : α → β → γ → δ → ε → ζ → World → Prop) {F : α → β → γ → δ → ε → ζ → Act}
 (h : c.wp P (fun e a' w' => e = Exit.normal ∧ ∃ x1 x2 x3 x4 x5 x6, a' = F x1 x2 x3 x4 x5 x6 ∧ S x1 x2 x3 x4 x5 x6 w') a w) (k : ∀ x1 x2 x3 x4 x5 x6 w', S x1 x2 x3 x4 x5 x6 w' → Q Exit.normal (F x1 x2 x3 x4 x5 x6) w') : c.wp P Q a w :=
 Code.wp_mono (fun e a w hr => by obtain ⟨rfl, x1, x2, x3, x4, x5, x6, rfl, hs⟩ := hr; exact k _ _ _ _ _ _ _ hs) h
theorem size_ck : (Tryz.prog.info? 32).map (·.size) = some 7 := by kernel_rfl
def noSg (er : Int) : (Int × List Sg.Str × List Sg.Str) × (Sg.Str × Int × Int) × Int := ((0, [], []), ([], 0, 0), er)
def ckSgR (seed : Sg.Str) (h n : Int) (o : Sg.Str) (z : Int) (r : Sg.Str) : (Sg.Str × Int × Sg.Str) × ((Int × List Sg.Str × List Sg.Str) × (Sg.Str × Int × Int) × Int) :=
 if headB o z r = true then
  if (signR seed h n (Sg.dgs (4 :: headS o z r))).2.2 = 0 then ((o, z, r), signR seed h n (Sg.dgs (4 :: headS o z r)))
  else (([], 0, []), noSg (signR seed h n (Sg.dgs (4 :: headS o z r))).2.2)
 else (([], 0, []), noSg 1)
def CkP (y : (Sg.Str × Int × Sg.Str) × ((Int × List Sg.Str × List Sg.Str) × (Sg.Str × Int × Int) × Int)) (w : World) (e : Ending) (w' : World) : Prop :=
 ∃ a b, e = .returned (.tuple #[.agg #[.string ⟨y.1.1.toArray⟩, .int .i64 y.1.2.1, .string ⟨y.1.2.2.toArray⟩, .int .i64 y.2.1.1, a, b, .slice none 0 0], .agg (keyA y.2.2.1.1 y.2.2.1.2.1 y.2.2.1.2.2), .int .i64 y.2.2.2]) ∧ St w.heap.size w w' [ownR 9 1 a y.2.1.2.1.length (strs y.2.1.2.1), ownR 9 1 b y.2.1.2.2.length (strs y.2.1.2.2)]
theorem ckP_bad (er : Int) {w w' : World} (h : St w.heap.size w w' []) : CkP (([], 0, []), noSg er) w (.returned (.tuple #[.agg #[.string ⟨#[]⟩, .int .i64 0, .string ⟨#[]⟩, .int .i64 0, .slice none 0 0, .slice none 0 0, .slice none 0 0], .agg #[.string ⟨#[]⟩, .int .i64 0, .int .i64 0], .int .i64 er])) w' :=
 ⟨_, _, rfl, (h.new_own (Below.refl _ _) (World.ownsRow_nil _ _ _ _)).new_own (Below.refl _ _) (World.ownsRow_nil _ _ _ _)⟩
set_option maxRecDepth 20000 in
set_option maxHeartbeats 4000000 in
theorem cksign_spec (seed : Sg.Str) (h n : Int) (o : Sg.Str) (z : Int) (r : Sg.Str) (w : World) :
 Calls Tryz.prog 12 #[.agg #[.string ⟨seed.toArray⟩, .int .i64 h, .int .i64 n], .agg #[.string ⟨o.toArray⟩, .int .i64 z, .string ⟨r.toArray⟩]] w (CkP (ckSgR seed h n o z r) w) := by
 obtain ⟨W0, hW0⟩ : ∃ W0, w.alloc (.cells #[.string ⟨seed.toArray⟩, .int .i64 h, .int .i64 n] 23) = W0 := ⟨_, rfl⟩
 have hs0 : W0.heap.size = w.heap.size + 1 := by rw [← hW0]; simp
 obtain ⟨W1, hW1⟩ : ∃ W1, W0.alloc (.cells #[.string ⟨o.toArray⟩, .int .i64 z, .string ⟨r.toArray⟩] 25) = W1 := ⟨_, rfl⟩
 have hs1 : W1.heap.size = w.heap.size + 1 + 1 := by rw [← hW1]; simp [hs0]
 obtain ⟨W2, hW2⟩ : ∃ W2, W1.alloc (.cells #[.string ⟨#[]⟩, .int .i64 0, .string ⟨#[]⟩, .int .i64 0, .slice none 0 0, .slice none 0 0, .slice none 0 0] 32) = W2 := ⟨_, rfl⟩
 have hs2 : W2.heap.size = w.heap.size + 1 + 1 + 1 := by rw [← hW2]; simp [hs1]
 obtain ⟨W, hW⟩ : ∃ W, W2.alloc (.cells #[.string ⟨#[]⟩, .int .i64 0, .int .i64 0] 23) = W := ⟨_, rfl⟩
 have Y0 : St w.heap.size w W [cellsR (w.heap.size + 1 + 1 + 1) 23 #[.string ⟨#[]⟩, .int .i64 0, .int .i64 0], cellsR (w.heap.size + 1 + 1) 32 #[.string ⟨#[]⟩, .int .i64 0, .string ⟨#[]⟩, .int .i64 0, .slice none 0 0, .slice none 0 0, .slice none 0 0], cellsR (w.heap.size + 1) 25 #[.string ⟨o.toArray⟩, .int .i64 z, .string ⟨r.toArray⟩], cellsR (w.heap.size) 23 #[.string ⟨seed.toArray⟩, .int .i64 h, .int .i64 n]] := by
  have := ((((St.nil w).alloc 23 #[.string ⟨seed.toArray⟩, .int .i64 h, .int .i64 n]).alloc 25 #[.string ⟨o.toArray⟩, .int .i64 z, .string ⟨r.toArray⟩]).alloc 32 #[.string ⟨#[]⟩, .int .i64 0, .string ⟨#[]⟩, .int .i64 0, .slice none 0 0, .slice none 0 0, .slice none 0 0]).alloc 23 #[.string ⟨#[]⟩, .int .i64 0, .int .i64 0]
  rw [hW0, hW1, hW2, hW, hs0, hs1, hs2] at this
  exact this
 have kh := fun W' => headed_spec o z r W'
 have hhc0 := Y0.tail.tail.blk.cell 0
 have hhc1 := Y0.tail.tail.blk.cell 1
 have hhc2 := Y0.tail.tail.blk.cell 2
 unfold ckSgR
 cases hh : headB o z r with
 | false =>
   rw [hh] at kh
   rw [if_neg (by decide)]
   clear hh
   have Y := Lib.hid Y0
   clear Y0
   go_enter Tryz.func12, Tryz.ntmps12
   go_wp2_with fail
   refine (kh _).mono ?_
   rintro e w1 ⟨rfl, b1⟩
   have y1 := Y.out.under b1
   have cc0 := y1.tail.blk.cell 0
   have cc1 := y1.tail.blk.cell 1
   have cc2 := y1.tail.blk.cell 2
   have cc3 := y1.tail.blk.cell 3
   have cc4 := y1.tail.blk.cell 4
   have cc5 := y1.tail.blk.cell 5
   have cc6 := y1.tail.blk.cell 6
   have cf0 := y1.tail.blk.frozen 0
   have cf1 := y1.tail.blk.frozen 1
   have cf2 := y1.tail.blk.frozen 2
   have cf3 := y1.tail.blk.frozen 3
   have cf4 := y1.tail.blk.frozen 4
   have cf5 := y1.tail.blk.frozen 5
   have cf6 := y1.tail.blk.frozen 6
   have zc0 := y1.blk.cell 0
   have zc1 := y1.blk.cell 1
   have zc2 := y1.blk.cell 2
   have zf0 := y1.blk.frozen 0
   have zf1 := y1.blk.frozen 1
   have zf2 := y1.blk.frozen 2
   have yE := (((((((((((y1.swap.set_ 0 (.string ⟨#[]⟩)).set_ 1 (.int .i64 0)).set_ 2 (.string ⟨#[]⟩)).set_ 3 (.int .i64 0)).set_ 4 (.slice none 0 0)).set_ 5 (.slice none 0 0)).set_ 6 (.slice none 0 0)).swap).set_ 0 (.string ⟨#[]⟩)).set_ 1 (.int .i64 0)).set_ 2 (.int .i64 0))
   have YE := Lib.hid yE
   clear yE y1 b1 kh hhc0 hhc1 hhc2
   go_wp2
   refine bodyPost_ret (results_cct rfl _ _ _ _ _ _ _ _ _ _ _ _ rfl YE.out.tail.blk Tryz.underlying32 rfl size_ck rfl YE.out.blk Tryz.underlying23 rfl size_key) rfl ?_
   exact ckP_bad 1 YE.out.tail.tail.tail.tail
 | true =>
   rw [hh] at kh
   rw [if_pos rfl]
   have kb := fun W' => ckbytes_spec o z r W' hh
   have hl := headS_len hh
   have ks := fun W' => sign_spec seed (4 :: headS o z r) h n W' (by rw [List.length_cons]; omega)
   have g1 := cons_bytes 4 (headS o z r)
   obtain ⟨f1, f2⟩ := sg_cat [4] (headS o z r) (by rw [List.length_singleton]; omega)
   rw [List.length_singleton] at f1 f2
   obtain ⟨x, hx⟩ : ∃ x, signR seed h n (Sg.dgs (4 :: headS o z r)) = x := ⟨_, rfl⟩
   rw [hx] at ks ⊢
   obtain ⟨⟨i, C, T⟩, ⟨seed', h', n'⟩, er⟩ := x
   unfold SgP keyA at ks
   dsimp only at ks ⊢
   clear hh hx hl
   generalize hres : ite (er = 0) _ _ = res
   have HR := Lib.hid hres
   clear hres
   have Y := Lib.hid Y0
   clear Y0
   go_enter Tryz.func12, Tryz.ntmps12
   go_wp2_with fail
   refine (kh _).mono ?_
   rintro e w1 ⟨rfl, b1⟩
   have Y0 := Y.out.under b1
   clear Y b1 kh hhc0 hhc1 hhc2 hW hW0 hW1 hW2 hs0 hs1 hs2
   have hS : ∀ W', Blk W' (w.heap.size + 1) 25 #[.string ⟨o.toArray⟩, .int .i64 z, .string ⟨r.toArray⟩] → (W'.cell? ⟨w.heap.size + 1, 0, none⟩ = some (.string ⟨o.toArray⟩) ∧ W'.cell? ⟨w.heap.size + 1, 1, none⟩ = some (.int .i64 z) ∧ W'.cell? ⟨w.heap.size + 1, 2, none⟩ = some (.string ⟨r.toArray⟩)) := fun W' hb => ⟨hb.cell 0, hb.cell 1, hb.cell 2⟩
   have kc0 := Y0.drew.tail.tail.tail.blk.cell 0
   have kc1 := Y0.drew.tail.tail.tail.blk.cell 1
   have kc2 := Y0.drew.tail.tail.tail.blk.cell 2
   go_wp2_with fail
   apply region_via (fun (pG : Nat) (A1 A2 : Option Addr) (n1 n2 : Nat) w' => St w.heap.size w w' [cellsR (pG) 29 #[.int .i64 i, .slice A1 C.length n1, .slice A2 T.length n2], ownR 9 1 (.slice A1 C.length n1) C.length (strs C), ownR 9 1 (.slice A2 T.length n2) T.length (strs T), cellsR (w.heap.size + 1 + 1 + 1) 23 #[.string ⟨#[]⟩, .int .i64 0, .int .i64 0], cellsR (w.heap.size + 1 + 1) 32 #[.string ⟨#[]⟩, .int .i64 0, .string ⟨#[]⟩, .int .i64 0, .slice none 0 0, .slice none 0 0, .slice none 0 0], cellsR (w.heap.size + 1) 25 #[.string ⟨o.toArray⟩, .int .i64 z, .string ⟨r.toArray⟩], cellsR (w.heap.size) 23 #[.string ⟨seed'.toArray⟩, .int .i64 h', .int .i64 n']])
   case h =>
    have q0 := Y0.drew
    have sf := hS _ (q0.tail.tail).blk
    have lf30 := (q0.tail.tail.tail).blk.cell 0
    have lf31 := (q0.tail.tail.tail).blk.cell 1
    have lf32 := (q0.tail.tail.tail).blk.cell 2
    clear q0
    have qG0 := (Y0.alloc 29 #[.int .i64 0, .slice none 0 0, .slice none 0 0]).drew
    have sfG := hS _ (qG0.tail.tail.tail).blk
    have lfG30 := (qG0.tail.tail.tail.tail).blk.cell 0
    have lfG31 := (qG0.tail.tail.tail.tail).blk.cell 1
    have lfG32 := (qG0.tail.tail.tail.tail).blk.cell 2
    clear qG0
    refine wp_region_noPanic ?_
    refine wp_region_held_drew (S := (fun W' => W'.cell? ⟨w.heap.size + 1, 0, none⟩ = some (.string ⟨o.toArray⟩) ∧ W'.cell? ⟨w.heap.size + 1, 1, none⟩ = some (.int .i64 z) ∧ W'.cell? ⟨w.heap.size + 1, 2, none⟩ = some (.string ⟨r.toArray⟩))) (by kernel_rfl) ?_ (fun hH0 => ?_)
    ·with_reducible exact sf
    refine tk 1 16 hH0 ?_
    refine rdy [0, 2, 9] ?_
    refine ad 15 (fun K hK => ?_) ?_
    go_simp
    refine hK.out _ _ (by with_reducible exact sf) fun hH1 => ?_
    clear hK K hH0
    try simp only [pu]
    refine rdy [2, 9] ?_
    refine ad 17 (fun K hK => ?_) ?_
    go_simp; (
     (with_reducible refine (kb _).mono ?_)
     rintro e wB ⟨rfl, bB⟩
     have yB := Y0.drew.under bB
     have sfB := hS _ (yB.tail.tail).blk
     have lfB30 := (yB.tail.tail.tail).blk.cell 0
     have lfB31 := (yB.tail.tail.tail).blk.cell 1
     have lfB32 := (yB.tail.tail.tail).blk.cell 2
     have qBG0 := (yB.alloc 29 #[.int .i64 0, .slice none 0 0, .slice none 0 0])
     have sfBG := hS _ (qBG0.tail.tail.tail).blk
     have lfBG30 := (qBG0.tail.tail.tail.tail).blk.cell 0
     have lfBG31 := (qBG0.tail.tail.tail.tail).blk.cell 1
     have lfBG32 := (qBG0.tail.tail.tail.tail).blk.cell 2
     clear qBG0
     have kc0 := yB.tail.tail.tail.blk.cell 0
     have kc1 := yB.tail.tail.tail.blk.cell 1
     have kc2 := yB.tail.tail.tail.blk.cell 2); go_wp2_with fail
    refine hK.out _ _ (by with_reducible exact sfB) fun hH2 => ?_
    clear hK K hH1
    try simp only [pu]
    refine tk 3 18 hH2 ?_
    refine rdy [4, 9] ?_
    refine ad 19 (fun K hK => ?_) ?_
    go_simp; (
     (with_reducible refine (ks _).mono ?_)
     rintro e wBS ⟨ua, ub, rfl, t2⟩
     obtain ⟨A1, n1, rfl, _, _⟩ := own_form t2.own
     obtain ⟨A2, n2, rfl, _, _⟩ := own_form t2.tail.own
     have yBS := yB.join t2
     have lt3 := (yBS.tail.tail.tail.tail.tail).blk.lt
     have ne3 : ¬ (wBS.heap.size = w.heap.size) := Nat.ne_of_gt lt3
     have sfBS := hS _ (yBS.tail.tail.tail.tail).blk
     have qBSG0 := (yBS.alloc 29 #[.int .i64 0, .slice none 0 0, .slice none 0 0])
     have sfBSG := hS _ (qBSG0.tail.tail.tail.tail.tail).blk
     clear qBSG0
     have qBSG1 := (yBS.alloc 29 #[.int .i64 i, .slice A1 C.length n1, .slice A2 T.length n2])
     have sfBSG1 := hS _ (qBSG1.tail.tail.tail.tail.tail).blk
     clear qBSG1
     have qBSG2 := (((((yBS.pk [5, 0, 1, 2, 3, 4]).set_ 0 (.string ⟨seed'.toArray⟩)).set_ 1 (.int .i64 h')).set_ 2 (.int .i64 n')).alloc 29 #[.int .i64 i, .slice A1 C.length n1, .slice A2 T.length n2])
     have sfBSG2 := hS _ (qBSG2.tail.tail.tail.tail.tail.tail).blk
     clear qBSG2
     have kc0 := yBS.tail.tail.tail.tail.tail.blk.cell 0
     have kc1 := yBS.tail.tail.tail.tail.tail.blk.cell 1
     have kc2 := yBS.tail.tail.tail.tail.tail.blk.cell 2
     have kf0 := yBS.tail.tail.tail.tail.tail.blk.frozen 0
     have kf1 := yBS.tail.tail.tail.tail.tail.blk.frozen 1
     have kf2 := yBS.tail.tail.tail.tail.tail.blk.frozen 2); go_wp2_with fail
    refine hK.out _ _ (by with_reducible exact sfBS) fun hH3 => ?_
    clear hK K hH2
    try simp only [pu]
    refine tk 5 14 hH3 ?_
    refine tk 6 20 hH3 ?_
    refine tk 7 21 hH3 ?_
    refine tk 8 22 hH3 ?_
    refine rdy [9] ?_
    refine an 7 fun K hK => ?_
    go_simp
    refine hK.out _ _ (by with_reducible exact sfBSG) fun hH4 => ?_
    clear hK K hH3
    try simp only [pu]
    refine rdy [10] ?_
    refine az fun K hK => ?_
    go_simp
    refine hK.out _ _ (by with_reducible exact sfBSG1) fun hH5 => ?_
    clear hK K hH4
    try simp only [pu]
    refine rdy [11] ?_
    refine az fun K hK => ?_
    go_simp
    refine hK.out _ _ (by with_reducible exact sfBSG2) fun hH6 => ?_
    clear hK K hH5
    try simp only [pu]
    refine tk 12 8 hH6 ?_
    refine dn ?_ _
    rotate_left 1
    refine an 7 fun K hK => ?_
    go_simp
    refine hK.out _ _ (by with_reducible exact sfBG) fun hH7 => ?_
    clear hK K hH2
    try simp only [pu]
    refine rdy [4] ?_
    refine an 19 fun K hK => ?_
    go_simp; (
     (with_reducible refine (ks _).mono ?_)
     rintro e wBGS ⟨ua, ub, rfl, t2⟩
     obtain ⟨A1, n1, rfl, _, _⟩ := own_form t2.own
     obtain ⟨A2, n2, rfl, _, _⟩ := own_form t2.tail.own
     have yBGS := (yB.alloc 29 #[.int .i64 0, .slice none 0 0, .slice none 0 0]).join t2
     have ltG := (yBGS.tail.tail).blk.lt
     have neG : ¬ (wBGS.heap.size = wB.heap.size) := Nat.ne_of_gt ltG
     have lt3 := (yBGS.tail.tail.tail.tail.tail.tail).blk.lt
     have ne3 : ¬ (wBGS.heap.size = w.heap.size) := Nat.ne_of_gt lt3
     have lt3G : w.heap.size < wB.heap.size := by first | exact (yB.tail.tail.tail).blk.lt | (have := (yB.tail.tail.tail).blk.lt; simp only [World.size_alloc] at this; exact this) | (have := (yB.tail.tail.tail).blk.lt; simp only [World.size_drew, World.size_alloc] at this; exact this)
     have ne3G : ¬ (w.heap.size = wB.heap.size) := Nat.ne_of_lt lt3G
     have neG3 : ¬ (wB.heap.size = w.heap.size) := Nat.ne_of_gt lt3G
     have sfBGS := hS _ (yBGS.tail.tail.tail.tail.tail).blk
     have qBGS1 := ((((yBGS.pk [2, 0, 1, 3, 4, 5, 6]).set_ 0 (.int .i64 i)).set_ 1 (.slice A1 C.length n1)).set_ 2 (.slice A2 T.length n2))
     have sfBGS1 := hS _ (qBGS1.tail.tail.tail.tail.tail).blk
     clear qBGS1
     have qBGS2 := ((((((((yBGS.pk [2, 0, 1, 3, 4, 5, 6]).set_ 0 (.int .i64 i)).set_ 1 (.slice A1 C.length n1)).set_ 2 (.slice A2 T.length n2)).pk [6, 0, 1, 2, 3, 4, 5]).set_ 0 (.string ⟨seed'.toArray⟩)).set_ 1 (.int .i64 h')).set_ 2 (.int .i64 n'))
     have sfBGS2 := hS _ (qBGS2.tail.tail.tail.tail.tail.tail).blk
     clear qBGS2
     have kc0 := yBGS.tail.tail.tail.tail.tail.tail.blk.cell 0
     have kc1 := yBGS.tail.tail.tail.tail.tail.tail.blk.cell 1
     have kc2 := yBGS.tail.tail.tail.tail.tail.tail.blk.cell 2
     have kf0 := yBGS.tail.tail.tail.tail.tail.tail.blk.frozen 0
     have kf1 := yBGS.tail.tail.tail.tail.tail.tail.blk.frozen 1
     have kf2 := yBGS.tail.tail.tail.tail.tail.tail.blk.frozen 2
     obtain ⟨_, _, _, _, _, _⟩ := bk3 yBGS.tail.tail.blk); go_wp2_with fail
    refine hK.out _ _ (by with_reducible exact sfBGS) fun hH8 => ?_
    clear hK K hH7
    try simp only [pu]
    refine tk 5 14 hH8 ?_
    refine tk 6 20 hH8 ?_
    refine tk 7 21 hH8 ?_
    refine tk 8 22 hH8 ?_
    refine rdy [10] ?_
    refine az fun K hK => ?_
    go_simp
    refine hK.out _ _ (by with_reducible exact sfBGS1) fun hH9 => ?_
    clear hK K hH8
    try simp only [pu]
    refine rdy [11] ?_
    refine az fun K hK => ?_
    go_simp
    refine hK.out _ _ (by with_reducible exact sfBGS2) fun hH10 => ?_
    clear hK K hH9
    try simp only [pu]
    refine tk 12 8 hH10 ?_
    refine dn ?_ _
    rotate_left 1
    refine an 7 fun K hK => ?_
    go_simp
    refine hK.out _ _ (by with_reducible exact sfG) fun hH11 => ?_
    clear hK K hH1
    try simp only [pu]
    refine rdy [2] ?_
    refine an 17 fun K hK => ?_
    go_simp; (
     (with_reducible refine (kb _).mono ?_)
     rintro e wGB ⟨rfl, bB⟩
     have yGB := (Y0.alloc 29 #[.int .i64 0, .slice none 0 0, .slice none 0 0]).drew.under bB
     have sfGB := hS _ (yGB.tail.tail.tail).blk
     have lfGB30 := (yGB.tail.tail.tail.tail).blk.cell 0
     have lfGB31 := (yGB.tail.tail.tail.tail).blk.cell 1
     have lfGB32 := (yGB.tail.tail.tail.tail).blk.cell 2
     have kc0 := yGB.tail.tail.tail.tail.blk.cell 0
     have kc1 := yGB.tail.tail.tail.tail.blk.cell 1
     have kc2 := yGB.tail.tail.tail.tail.blk.cell 2); go_wp2_with fail
    refine hK.out _ _ (by with_reducible exact sfGB) fun hH12 => ?_
    clear hK K hH11
    try simp only [pu]
    refine tk 3 18 hH12 ?_
    refine rdy [4] ?_
    refine an 19 fun K hK => ?_
    go_simp; (
     (with_reducible refine (ks _).mono ?_)
     rintro e wGBS ⟨ua, ub, rfl, t2⟩
     obtain ⟨A1, n1, rfl, _, _⟩ := own_form t2.own
     obtain ⟨A2, n2, rfl, _, _⟩ := own_form t2.tail.own
     have yGBS := yGB.join t2
     have ltG := (yGBS.tail.tail).blk.lt
     have neG : ¬ (wGBS.heap.size = w1.heap.size) := Nat.ne_of_gt ltG
     have lt3 := (yGBS.tail.tail.tail.tail.tail.tail).blk.lt
     have ne3 : ¬ (wGBS.heap.size = w.heap.size) := Nat.ne_of_gt lt3
     have lt3G : w.heap.size < w1.heap.size := by first | exact (Y0.drew.tail.tail.tail).blk.lt | (have := (Y0.drew.tail.tail.tail).blk.lt; simp only [World.size_alloc] at this; exact this) | (have := (Y0.drew.tail.tail.tail).blk.lt; simp only [World.size_drew, World.size_alloc] at this; exact this)
     have ne3G : ¬ (w.heap.size = w1.heap.size) := Nat.ne_of_lt lt3G
     have neG3 : ¬ (w1.heap.size = w.heap.size) := Nat.ne_of_gt lt3G
     have sfGBS := hS _ (yGBS.tail.tail.tail.tail.tail).blk
     have qGBS1 := ((((yGBS.pk [2, 0, 1, 3, 4, 5, 6]).set_ 0 (.int .i64 i)).set_ 1 (.slice A1 C.length n1)).set_ 2 (.slice A2 T.length n2))
     have sfGBS1 := hS _ (qGBS1.tail.tail.tail.tail.tail).blk
     clear qGBS1
     have qGBS2 := ((((((((yGBS.pk [2, 0, 1, 3, 4, 5, 6]).set_ 0 (.int .i64 i)).set_ 1 (.slice A1 C.length n1)).set_ 2 (.slice A2 T.length n2)).pk [6, 0, 1, 2, 3, 4, 5]).set_ 0 (.string ⟨seed'.toArray⟩)).set_ 1 (.int .i64 h')).set_ 2 (.int .i64 n'))
     have sfGBS2 := hS _ (qGBS2.tail.tail.tail.tail.tail.tail).blk
     clear qGBS2
     have kc0 := yGBS.tail.tail.tail.tail.tail.tail.blk.cell 0
     have kc1 := yGBS.tail.tail.tail.tail.tail.tail.blk.cell 1
     have kc2 := yGBS.tail.tail.tail.tail.tail.tail.blk.cell 2
     have kf0 := yGBS.tail.tail.tail.tail.tail.tail.blk.frozen 0
     have kf1 := yGBS.tail.tail.tail.tail.tail.tail.blk.frozen 1
     have kf2 := yGBS.tail.tail.tail.tail.tail.tail.blk.frozen 2
     obtain ⟨_, _, _, _, _, _⟩ := bk3 yGBS.tail.tail.blk); go_wp2_with fail
    refine hK.out _ _ (by with_reducible exact sfGBS) fun hH13 => ?_
    clear hK K hH12
    try simp only [pu]
    refine tk 5 14 hH13 ?_
    refine tk 6 20 hH13 ?_
    refine tk 7 21 hH13 ?_
    refine tk 8 22 hH13 ?_
    refine rdy [10] ?_
    refine az fun K hK => ?_
    go_simp
    refine hK.out _ _ (by with_reducible exact sfGBS1) fun hH14 => ?_
    clear hK K hH13
    try simp only [pu]
    refine rdy [11] ?_
    refine az fun K hK => ?_
    go_simp
    refine hK.out _ _ (by with_reducible exact sfGBS2) fun hH15 => ?_
    clear hK K hH14
    try simp only [pu]
    refine tk 12 8 hH15 ?_
    refine dn ?_ _
    rotate_left 1
    refine ad 17 (fun K hK => ?_) ?_
    go_simp; (
     (with_reducible refine (kb _).mono ?_)
     rintro e wB ⟨rfl, bB⟩
     have yB := Y0.drew.under bB
     have sfB := hS _ (yB.tail.tail).blk
     have lfB30 := (yB.tail.tail.tail).blk.cell 0
     have lfB31 := (yB.tail.tail.tail).blk.cell 1
     have lfB32 := (yB.tail.tail.tail).blk.cell 2
     have qBG0 := (yB.alloc 29 #[.int .i64 0, .slice none 0 0, .slice none 0 0])
     have sfBG := hS _ (qBG0.tail.tail.tail).blk
     have lfBG30 := (qBG0.tail.tail.tail.tail).blk.cell 0
     have lfBG31 := (qBG0.tail.tail.tail.tail).blk.cell 1
     have lfBG32 := (qBG0.tail.tail.tail.tail).blk.cell 2
     clear qBG0
     have kc0 := yB.tail.tail.tail.blk.cell 0
     have kc1 := yB.tail.tail.tail.blk.cell 1
     have kc2 := yB.tail.tail.tail.blk.cell 2); go_wp2_with fail
    refine hK.out _ _ (by with_reducible exact sfB) fun hH16 => ?_
    clear hK K hH0
    try simp only [pu]
    refine tk 3 18 hH16 ?_
    refine rdy [0, 9] ?_
    refine ad 15 (fun K hK => ?_) ?_
    go_simp
    refine hK.out _ _ (by with_reducible exact sfB) fun hH17 => ?_
    clear hK K hH16
    try simp only [pu]
    refine rdy [4, 9] ?_
    refine ad 19 (fun K hK => ?_) ?_
    go_simp; (
     (with_reducible refine (ks _).mono ?_)
     rintro e wBS ⟨ua, ub, rfl, t2⟩
     obtain ⟨A1, n1, rfl, _, _⟩ := own_form t2.own
     obtain ⟨A2, n2, rfl, _, _⟩ := own_form t2.tail.own
     have yBS := yB.join t2
     have lt3 := (yBS.tail.tail.tail.tail.tail).blk.lt
     have ne3 : ¬ (wBS.heap.size = w.heap.size) := Nat.ne_of_gt lt3
     have sfBS := hS _ (yBS.tail.tail.tail.tail).blk
     have qBSG0 := (yBS.alloc 29 #[.int .i64 0, .slice none 0 0, .slice none 0 0])
     have sfBSG := hS _ (qBSG0.tail.tail.tail.tail.tail).blk
     clear qBSG0
     have qBSG1 := (yBS.alloc 29 #[.int .i64 i, .slice A1 C.length n1, .slice A2 T.length n2])
     have sfBSG1 := hS _ (qBSG1.tail.tail.tail.tail.tail).blk
     clear qBSG1
     have qBSG2 := (((((yBS.pk [5, 0, 1, 2, 3, 4]).set_ 0 (.string ⟨seed'.toArray⟩)).set_ 1 (.int .i64 h')).set_ 2 (.int .i64 n')).alloc 29 #[.int .i64 i, .slice A1 C.length n1, .slice A2 T.length n2])
     have sfBSG2 := hS _ (qBSG2.tail.tail.tail.tail.tail.tail).blk
     clear qBSG2
     have kc0 := yBS.tail.tail.tail.tail.tail.blk.cell 0
     have kc1 := yBS.tail.tail.tail.tail.tail.blk.cell 1
     have kc2 := yBS.tail.tail.tail.tail.tail.blk.cell 2
     have kf0 := yBS.tail.tail.tail.tail.tail.blk.frozen 0
     have kf1 := yBS.tail.tail.tail.tail.tail.blk.frozen 1
     have kf2 := yBS.tail.tail.tail.tail.tail.blk.frozen 2); go_wp2_with fail
    refine hK.out _ _ (by with_reducible exact sfBS) fun hH18 => ?_
    clear hK K hH17
    try simp only [pu]
    refine tk 5 14 hH18 ?_
    refine tk 6 20 hH18 ?_
    refine tk 7 21 hH18 ?_
    refine tk 8 22 hH18 ?_
    refine rdy [9] ?_
    refine an 7 fun K hK => ?_
    go_simp
    refine hK.out _ _ (by with_reducible exact sfBSG) fun hH19 => ?_
    clear hK K hH18
    try simp only [pu]
    refine rdy [10] ?_
    refine az fun K hK => ?_
    go_simp
    refine hK.out _ _ (by with_reducible exact sfBSG1) fun hH20 => ?_
    clear hK K hH19
    try simp only [pu]
    refine rdy [11] ?_
    refine az fun K hK => ?_
    go_simp
    refine hK.out _ _ (by with_reducible exact sfBSG2) fun hH21 => ?_
    clear hK K hH20
    try simp only [pu]
    refine tk 12 8 hH21 ?_
    refine dn ?_ _
    rotate_left 1
    refine an 7 fun K hK => ?_
    go_simp
    refine hK.out _ _ (by with_reducible exact sfBG) fun hH22 => ?_
    clear hK K hH17
    try simp only [pu]
    refine rdy [4] ?_
    refine an 19 fun K hK => ?_
    go_simp; (
     (with_reducible refine (ks _).mono ?_)
     rintro e wBGS ⟨ua, ub, rfl, t2⟩
     obtain ⟨A1, n1, rfl, _, _⟩ := own_form t2.own
     obtain ⟨A2, n2, rfl, _, _⟩ := own_form t2.tail.own
     have yBGS := (yB.alloc 29 #[.int .i64 0, .slice none 0 0, .slice none 0 0]).join t2
     have ltG := (yBGS.tail.tail).blk.lt
     have neG : ¬ (wBGS.heap.size = wB.heap.size) := Nat.ne_of_gt ltG
     have lt3 := (yBGS.tail.tail.tail.tail.tail.tail).blk.lt
     have ne3 : ¬ (wBGS.heap.size = w.heap.size) := Nat.ne_of_gt lt3
     have lt3G : w.heap.size < wB.heap.size := by first | exact (yB.tail.tail.tail).blk.lt | (have := (yB.tail.tail.tail).blk.lt; simp only [World.size_alloc] at this; exact this) | (have := (yB.tail.tail.tail).blk.lt; simp only [World.size_drew, World.size_alloc] at this; exact this)
     have ne3G : ¬ (w.heap.size = wB.heap.size) := Nat.ne_of_lt lt3G
     have neG3 : ¬ (wB.heap.size = w.heap.size) := Nat.ne_of_gt lt3G
     have sfBGS := hS _ (yBGS.tail.tail.tail.tail.tail).blk
     have qBGS1 := ((((yBGS.pk [2, 0, 1, 3, 4, 5, 6]).set_ 0 (.int .i64 i)).set_ 1 (.slice A1 C.length n1)).set_ 2 (.slice A2 T.length n2))
     have sfBGS1 := hS _ (qBGS1.tail.tail.tail.tail.tail).blk
     clear qBGS1
     have qBGS2 := ((((((((yBGS.pk [2, 0, 1, 3, 4, 5, 6]).set_ 0 (.int .i64 i)).set_ 1 (.slice A1 C.length n1)).set_ 2 (.slice A2 T.length n2)).pk [6, 0, 1, 2, 3, 4, 5]).set_ 0 (.string ⟨seed'.toArray⟩)).set_ 1 (.int .i64 h')).set_ 2 (.int .i64 n'))
     have sfBGS2 := hS _ (qBGS2.tail.tail.tail.tail.tail.tail).blk
     clear qBGS2
     have kc0 := yBGS.tail.tail.tail.tail.tail.tail.blk.cell 0
     have kc1 := yBGS.tail.tail.tail.tail.tail.tail.blk.cell 1
     have kc2 := yBGS.tail.tail.tail.tail.tail.tail.blk.cell 2
     have kf0 := yBGS.tail.tail.tail.tail.tail.tail.blk.frozen 0
     have kf1 := yBGS.tail.tail.tail.tail.tail.tail.blk.frozen 1
     have kf2 := yBGS.tail.tail.tail.tail.tail.tail.blk.frozen 2
     obtain ⟨_, _, _, _, _, _⟩ := bk3 yBGS.tail.tail.blk); go_wp2_with fail
    refine hK.out _ _ (by with_reducible exact sfBGS) fun hH23 => ?_
    clear hK K hH22
    try simp only [pu]
    refine tk 5 14 hH23 ?_
    refine tk 6 20 hH23 ?_
    refine tk 7 21 hH23 ?_
    refine tk 8 22 hH23 ?_
    refine rdy [10] ?_
    refine az fun K hK => ?_
    go_simp
    refine hK.out _ _ (by with_reducible exact sfBGS1) fun hH24 => ?_
    clear hK K hH23
    try simp only [pu]
    refine rdy [11] ?_
    refine az fun K hK => ?_
    go_simp
    refine hK.out _ _ (by with_reducible exact sfBGS2) fun hH25 => ?_
    clear hK K hH24
    try simp only [pu]
    refine tk 12 8 hH25 ?_
    refine dn ?_ _
    rotate_left 1
    refine an 7 fun K hK => ?_
    go_simp
    refine hK.out _ _ (by with_reducible exact sfBG) fun hH26 => ?_
    clear hK K hH16
    try simp only [pu]
    refine rdy [0] ?_
    refine an 15 fun K hK => ?_
    go_simp
    refine hK.out _ _ (by with_reducible exact sfBG) fun hH27 => ?_
    clear hK K hH26
    try simp only [pu]
    refine rdy [4] ?_
    refine an 19 fun K hK => ?_
    go_simp; (
     (with_reducible refine (ks _).mono ?_)
     rintro e wBGS ⟨ua, ub, rfl, t2⟩
     obtain ⟨A1, n1, rfl, _, _⟩ := own_form t2.own
     obtain ⟨A2, n2, rfl, _, _⟩ := own_form t2.tail.own
     have yBGS := (yB.alloc 29 #[.int .i64 0, .slice none 0 0, .slice none 0 0]).join t2
     have ltG := (yBGS.tail.tail).blk.lt
     have neG : ¬ (wBGS.heap.size = wB.heap.size) := Nat.ne_of_gt ltG
     have lt3 := (yBGS.tail.tail.tail.tail.tail.tail).blk.lt
     have ne3 : ¬ (wBGS.heap.size = w.heap.size) := Nat.ne_of_gt lt3
     have lt3G : w.heap.size < wB.heap.size := by first | exact (yB.tail.tail.tail).blk.lt | (have := (yB.tail.tail.tail).blk.lt; simp only [World.size_alloc] at this; exact this) | (have := (yB.tail.tail.tail).blk.lt; simp only [World.size_drew, World.size_alloc] at this; exact this)
     have ne3G : ¬ (w.heap.size = wB.heap.size) := Nat.ne_of_lt lt3G
     have neG3 : ¬ (wB.heap.size = w.heap.size) := Nat.ne_of_gt lt3G
     have sfBGS := hS _ (yBGS.tail.tail.tail.tail.tail).blk
     have qBGS1 := ((((yBGS.pk [2, 0, 1, 3, 4, 5, 6]).set_ 0 (.int .i64 i)).set_ 1 (.slice A1 C.length n1)).set_ 2 (.slice A2 T.length n2))
     have sfBGS1 := hS _ (qBGS1.tail.tail.tail.tail.tail).blk
     clear qBGS1
     have qBGS2 := ((((((((yBGS.pk [2, 0, 1, 3, 4, 5, 6]).set_ 0 (.int .i64 i)).set_ 1 (.slice A1 C.length n1)).set_ 2 (.slice A2 T.length n2)).pk [6, 0, 1, 2, 3, 4, 5]).set_ 0 (.string ⟨seed'.toArray⟩)).set_ 1 (.int .i64 h')).set_ 2 (.int .i64 n'))
     have sfBGS2 := hS _ (qBGS2.tail.tail.tail.tail.tail.tail).blk
     clear qBGS2
     have kc0 := yBGS.tail.tail.tail.tail.tail.tail.blk.cell 0
     have kc1 := yBGS.tail.tail.tail.tail.tail.tail.blk.cell 1
     have kc2 := yBGS.tail.tail.tail.tail.tail.tail.blk.cell 2
     have kf0 := yBGS.tail.tail.tail.tail.tail.tail.blk.frozen 0
     have kf1 := yBGS.tail.tail.tail.tail.tail.tail.blk.frozen 1
     have kf2 := yBGS.tail.tail.tail.tail.tail.tail.blk.frozen 2
     obtain ⟨_, _, _, _, _, _⟩ := bk3 yBGS.tail.tail.blk); go_wp2_with fail
    refine hK.out _ _ (by with_reducible exact sfBGS) fun hH28 => ?_
    clear hK K hH27
    try simp only [pu]
    refine tk 5 14 hH28 ?_
    refine tk 6 20 hH28 ?_
    refine tk 7 21 hH28 ?_
    refine tk 8 22 hH28 ?_
    refine rdy [10] ?_
    refine az fun K hK => ?_
    go_simp
    refine hK.out _ _ (by with_reducible exact sfBGS1) fun hH29 => ?_
    clear hK K hH28
    try simp only [pu]
    refine rdy [11] ?_
    refine az fun K hK => ?_
    go_simp
    refine hK.out _ _ (by with_reducible exact sfBGS2) fun hH30 => ?_
    clear hK K hH29
    try simp only [pu]
    refine tk 12 8 hH30 ?_
    refine dn ?_ _
    rotate_left 1
    refine an 7 fun K hK => ?_
    go_simp
    refine hK.out _ _ (by with_reducible exact sfG) fun hH31 => ?_
    clear hK K hH0
    try simp only [pu]
    refine rdy [0, 2] ?_
    refine ad 15 (fun K hK => ?_) ?_
    go_simp
    refine hK.out _ _ (by with_reducible exact sfG) fun hH32 => ?_
    clear hK K hH31
    try simp only [pu]
    refine rdy [2] ?_
    refine an 17 fun K hK => ?_
    go_simp; (
     (with_reducible refine (kb _).mono ?_)
     rintro e wGB ⟨rfl, bB⟩
     have yGB := (Y0.alloc 29 #[.int .i64 0, .slice none 0 0, .slice none 0 0]).drew.under bB
     have sfGB := hS _ (yGB.tail.tail.tail).blk
     have lfGB30 := (yGB.tail.tail.tail.tail).blk.cell 0
     have lfGB31 := (yGB.tail.tail.tail.tail).blk.cell 1
     have lfGB32 := (yGB.tail.tail.tail.tail).blk.cell 2
     have kc0 := yGB.tail.tail.tail.tail.blk.cell 0
     have kc1 := yGB.tail.tail.tail.tail.blk.cell 1
     have kc2 := yGB.tail.tail.tail.tail.blk.cell 2); go_wp2_with fail
    refine hK.out _ _ (by with_reducible exact sfGB) fun hH33 => ?_
    clear hK K hH32
    try simp only [pu]
    refine tk 3 18 hH33 ?_
    refine rdy [4] ?_
    refine an 19 fun K hK => ?_
    go_simp; (
     (with_reducible refine (ks _).mono ?_)
     rintro e wGBS ⟨ua, ub, rfl, t2⟩
     obtain ⟨A1, n1, rfl, _, _⟩ := own_form t2.own
     obtain ⟨A2, n2, rfl, _, _⟩ := own_form t2.tail.own
     have yGBS := yGB.join t2
     have ltG := (yGBS.tail.tail).blk.lt
     have neG : ¬ (wGBS.heap.size = w1.heap.size) := Nat.ne_of_gt ltG
     have lt3 := (yGBS.tail.tail.tail.tail.tail.tail).blk.lt
     have ne3 : ¬ (wGBS.heap.size = w.heap.size) := Nat.ne_of_gt lt3
     have lt3G : w.heap.size < w1.heap.size := by first | exact (Y0.drew.tail.tail.tail).blk.lt | (have := (Y0.drew.tail.tail.tail).blk.lt; simp only [World.size_alloc] at this; exact this) | (have := (Y0.drew.tail.tail.tail).blk.lt; simp only [World.size_drew, World.size_alloc] at this; exact this)
     have ne3G : ¬ (w.heap.size = w1.heap.size) := Nat.ne_of_lt lt3G
     have neG3 : ¬ (w1.heap.size = w.heap.size) := Nat.ne_of_gt lt3G
     have sfGBS := hS _ (yGBS.tail.tail.tail.tail.tail).blk
     have qGBS1 := ((((yGBS.pk [2, 0, 1, 3, 4, 5, 6]).set_ 0 (.int .i64 i)).set_ 1 (.slice A1 C.length n1)).set_ 2 (.slice A2 T.length n2))
     have sfGBS1 := hS _ (qGBS1.tail.tail.tail.tail.tail).blk
     clear qGBS1
     have qGBS2 := ((((((((yGBS.pk [2, 0, 1, 3, 4, 5, 6]).set_ 0 (.int .i64 i)).set_ 1 (.slice A1 C.length n1)).set_ 2 (.slice A2 T.length n2)).pk [6, 0, 1, 2, 3, 4, 5]).set_ 0 (.string ⟨seed'.toArray⟩)).set_ 1 (.int .i64 h')).set_ 2 (.int .i64 n'))
     have sfGBS2 := hS _ (qGBS2.tail.tail.tail.tail.tail.tail).blk
     clear qGBS2
     have kc0 := yGBS.tail.tail.tail.tail.tail.tail.blk.cell 0
     have kc1 := yGBS.tail.tail.tail.tail.tail.tail.blk.cell 1
     have kc2 := yGBS.tail.tail.tail.tail.tail.tail.blk.cell 2
     have kf0 := yGBS.tail.tail.tail.tail.tail.tail.blk.frozen 0
     have kf1 := yGBS.tail.tail.tail.tail.tail.tail.blk.frozen 1
     have kf2 := yGBS.tail.tail.tail.tail.tail.tail.blk.frozen 2
     obtain ⟨_, _, _, _, _, _⟩ := bk3 yGBS.tail.tail.blk); go_wp2_with fail
    refine hK.out _ _ (by with_reducible exact sfGBS) fun hH34 => ?_
    clear hK K hH33
    try simp only [pu]
    refine tk 5 14 hH34 ?_
    refine tk 6 20 hH34 ?_
    refine tk 7 21 hH34 ?_
    refine tk 8 22 hH34 ?_
    refine rdy [10] ?_
    refine az fun K hK => ?_
    go_simp
    refine hK.out _ _ (by with_reducible exact sfGBS1) fun hH35 => ?_
    clear hK K hH34
    try simp only [pu]
    refine rdy [11] ?_
    refine az fun K hK => ?_
    go_simp
    refine hK.out _ _ (by with_reducible exact sfGBS2) fun hH36 => ?_
    clear hK K hH35
    try simp only [pu]
    refine tk 12 8 hH36 ?_
    refine dn ?_ _
    rotate_left 1
    refine an 17 fun K hK => ?_
    go_simp; (
     (with_reducible refine (kb _).mono ?_)
     rintro e wGB ⟨rfl, bB⟩
     have yGB := (Y0.alloc 29 #[.int .i64 0, .slice none 0 0, .slice none 0 0]).drew.under bB
     have sfGB := hS _ (yGB.tail.tail.tail).blk
     have lfGB30 := (yGB.tail.tail.tail.tail).blk.cell 0
     have lfGB31 := (yGB.tail.tail.tail.tail).blk.cell 1
     have lfGB32 := (yGB.tail.tail.tail.tail).blk.cell 2
     have kc0 := yGB.tail.tail.tail.tail.blk.cell 0
     have kc1 := yGB.tail.tail.tail.tail.blk.cell 1
     have kc2 := yGB.tail.tail.tail.tail.blk.cell 2); go_wp2_with fail
    refine hK.out _ _ (by with_reducible exact sfGB) fun hH37 => ?_
    clear hK K hH31
    try simp only [pu]
    refine tk 3 18 hH37 ?_
    refine rdy [0] ?_
    refine an 15 fun K hK => ?_
    go_simp
    refine hK.out _ _ (by with_reducible exact sfGB) fun hH38 => ?_
    clear hK K hH37
    try simp only [pu]
    refine rdy [4] ?_
    refine an 19 fun K hK => ?_
    go_simp; (
     (with_reducible refine (ks _).mono ?_)
     rintro e wGBS ⟨ua, ub, rfl, t2⟩
     obtain ⟨A1, n1, rfl, _, _⟩ := own_form t2.own
     obtain ⟨A2, n2, rfl, _, _⟩ := own_form t2.tail.own
     have yGBS := yGB.join t2
     have ltG := (yGBS.tail.tail).blk.lt
     have neG : ¬ (wGBS.heap.size = w1.heap.size) := Nat.ne_of_gt ltG
     have lt3 := (yGBS.tail.tail.tail.tail.tail.tail).blk.lt
     have ne3 : ¬ (wGBS.heap.size = w.heap.size) := Nat.ne_of_gt lt3
     have lt3G : w.heap.size < w1.heap.size := by first | exact (Y0.drew.tail.tail.tail).blk.lt | (have := (Y0.drew.tail.tail.tail).blk.lt; simp only [World.size_alloc] at this; exact this) | (have := (Y0.drew.tail.tail.tail).blk.lt; simp only [World.size_drew, World.size_alloc] at this; exact this)
     have ne3G : ¬ (w.heap.size = w1.heap.size) := Nat.ne_of_lt lt3G
     have neG3 : ¬ (w1.heap.size = w.heap.size) := Nat.ne_of_gt lt3G
     have sfGBS := hS _ (yGBS.tail.tail.tail.tail.tail).blk
     have qGBS1 := ((((yGBS.pk [2, 0, 1, 3, 4, 5, 6]).set_ 0 (.int .i64 i)).set_ 1 (.slice A1 C.length n1)).set_ 2 (.slice A2 T.length n2))
     have sfGBS1 := hS _ (qGBS1.tail.tail.tail.tail.tail).blk
     clear qGBS1
     have qGBS2 := ((((((((yGBS.pk [2, 0, 1, 3, 4, 5, 6]).set_ 0 (.int .i64 i)).set_ 1 (.slice A1 C.length n1)).set_ 2 (.slice A2 T.length n2)).pk [6, 0, 1, 2, 3, 4, 5]).set_ 0 (.string ⟨seed'.toArray⟩)).set_ 1 (.int .i64 h')).set_ 2 (.int .i64 n'))
     have sfGBS2 := hS _ (qGBS2.tail.tail.tail.tail.tail.tail).blk
     clear qGBS2
     have kc0 := yGBS.tail.tail.tail.tail.tail.tail.blk.cell 0
     have kc1 := yGBS.tail.tail.tail.tail.tail.tail.blk.cell 1
     have kc2 := yGBS.tail.tail.tail.tail.tail.tail.blk.cell 2
     have kf0 := yGBS.tail.tail.tail.tail.tail.tail.blk.frozen 0
     have kf1 := yGBS.tail.tail.tail.tail.tail.tail.blk.frozen 1
     have kf2 := yGBS.tail.tail.tail.tail.tail.tail.blk.frozen 2
     obtain ⟨_, _, _, _, _, _⟩ := bk3 yGBS.tail.tail.blk); go_wp2_with fail
    refine hK.out _ _ (by with_reducible exact sfGBS) fun hH39 => ?_
    clear hK K hH38
    try simp only [pu]
    refine tk 5 14 hH39 ?_
    refine tk 6 20 hH39 ?_
    refine tk 7 21 hH39 ?_
    refine tk 8 22 hH39 ?_
    refine rdy [10] ?_
    refine az fun K hK => ?_
    go_simp
    refine hK.out _ _ (by with_reducible exact sfGBS1) fun hH40 => ?_
    clear hK K hH39
    try simp only [pu]
    refine rdy [11] ?_
    refine az fun K hK => ?_
    go_simp
    refine hK.out _ _ (by with_reducible exact sfGBS2) fun hH41 => ?_
    clear hK K hH40
    try simp only [pu]
    refine tk 12 8 hH41 ?_
    refine dn ?_ _
    all_goals (refine NoPanic.normal ?_)
    all_goals
     first
      | (have yF := (((((yBS.pk [5, 0, 1, 2, 3, 4]).set_ 0 (.string ⟨seed'.toArray⟩)).set_ 1 (.int .i64 h')).set_ 2 (.int .i64 n')).alloc 29 #[.int .i64 i, .slice A1 C.length n1, .slice A2 T.length n2]).pk [0, 2, 3, 4, 5, 6, 1]
         try simp only [ws] at yF
         obtain ⟨pG, hpG⟩ : ∃ q, wBS.heap.size = q := ⟨_, rfl⟩
         rw [hpG] at yF ⊢
         exact ⟨rfl, pG, A1, A2, n1, n2, rfl, yF⟩)
      | (have yF := ((((((((yBGS.pk [2, 0, 1, 3, 4, 5, 6]).set_ 0 (.int .i64 i)).set_ 1 (.slice A1 C.length n1)).set_ 2 (.slice A2 T.length n2)).pk [6, 0, 1, 2, 3, 4, 5]).set_ 0 (.string ⟨seed'.toArray⟩)).set_ 1 (.int .i64 h')).set_ 2 (.int .i64 n')).pk [1, 2, 3, 4, 5, 6, 0]
         try simp only [ws] at yF
         obtain ⟨pG, hpG⟩ : ∃ q, wB.heap.size = q := ⟨_, rfl⟩
         rw [hpG] at yF ⊢
         exact ⟨rfl, pG, A1, A2, n1, n2, rfl, yF⟩)
      | (have yF := ((((((((yGBS.pk [2, 0, 1, 3, 4, 5, 6]).set_ 0 (.int .i64 i)).set_ 1 (.slice A1 C.length n1)).set_ 2 (.slice A2 T.length n2)).pk [6, 0, 1, 2, 3, 4, 5]).set_ 0 (.string ⟨seed'.toArray⟩)).set_ 1 (.int .i64 h')).set_ 2 (.int .i64 n')).pk [1, 2, 3, 4, 5, 6, 0]
         try simp only [ws] at yF
         obtain ⟨pG, hpG⟩ : ∃ q, w1.heap.size = q := ⟨_, rfl⟩
         rw [hpG] at yF ⊢
         exact ⟨rfl, pG, A1, A2, n1, n2, rfl, yF⟩)
   case k =>
    rintro pG A1 A2 n1 n2 W6 y6
    by_cases her : er = 0
    ·subst her
     have hres := HR.out
     rw [if_pos rfl] at hres
     have y7 := y6.pk [4, 3, 0, 1, 2, 5, 6]
     have hT : ∀ W' R1 R2 R3 R4, St w.heap.size w W' [R1, R2, cellsR (pG) 29 #[.int .i64 i, .slice A1 C.length n1, .slice A2 T.length n2], R3, R4, cellsR (w.heap.size + 1) 25 #[.string ⟨o.toArray⟩, .int .i64 z, .string ⟨r.toArray⟩], cellsR (w.heap.size) 23 #[.string ⟨seed'.toArray⟩, .int .i64 h', .int .i64 n']] → (W'.cell? ⟨pG, 0, none⟩ = some (.int .i64 i) ∧ W'.cell? ⟨pG, 1, none⟩ = some (.slice A1 C.length n1) ∧ W'.cell? ⟨pG, 2, none⟩ = some (.slice A2 T.length n2) ∧ W'.cell? ⟨w.heap.size + 1, 0, none⟩ = some (.string ⟨o.toArray⟩) ∧ W'.cell? ⟨w.heap.size + 1, 1, none⟩ = some (.int .i64 z) ∧ W'.cell? ⟨w.heap.size + 1, 2, none⟩ = some (.string ⟨r.toArray⟩) ∧ W'.cell? ⟨w.heap.size, 0, none⟩ = some (.string ⟨seed'.toArray⟩) ∧ W'.cell? ⟨w.heap.size, 1, none⟩ = some (.int .i64 h') ∧ W'.cell? ⟨w.heap.size, 2, none⟩ = some (.int .i64 n')) := fun W' R1 R2 R3 R4 hh => ⟨hh.tail.tail.blk.cell 0, hh.tail.tail.blk.cell 1, hh.tail.tail.blk.cell 2, hh.tail.tail.tail.tail.tail.blk.cell 0, hh.tail.tail.tail.tail.tail.blk.cell 1, hh.tail.tail.tail.tail.tail.blk.cell 2, hh.tail.tail.tail.tail.tail.tail.blk.cell 0, hh.tail.tail.tail.tail.tail.tail.blk.cell 1, hh.tail.tail.tail.tail.tail.tail.blk.cell 2⟩
     have yC := (((((((y7.set_ 0 (.string ⟨o.toArray⟩)).set_ 1 (.int .i64 z)).set_ 2 (.string ⟨r.toArray⟩)).set_ 3 (.int .i64 i)).set_ 4 (.slice A1 C.length n1)).set_ 5 (.slice A2 T.length n2)).set_ 6 (.slice none 0 0))
     have yZ := (((yC.swap.set_ 0 (.string ⟨seed'.toArray⟩)).set_ 1 (.int .i64 h')).set_ 2 (.int .i64 n'))
     have s0 := hT _ _ _ _ _ y7.drew
     have s1 := hT _ _ _ _ _ yC.drew
     have s2 := hT _ _ _ _ _ yZ.swap.drew
     have cc0 := y7.blk.cell 0
     have cc1 := y7.blk.cell 1
     have cc2 := y7.blk.cell 2
     have cc3 := y7.blk.cell 3
     have cc4 := y7.blk.cell 4
     have cc5 := y7.blk.cell 5
     have cc6 := y7.blk.cell 6
     have cf0 := y7.blk.frozen 0
     have cf1 := y7.blk.frozen 1
     have cf2 := y7.blk.frozen 2
     have cf3 := y7.blk.frozen 3
     have cf4 := y7.blk.frozen 4
     have cf5 := y7.blk.frozen 5
     have cf6 := y7.blk.frozen 6
     have zc0 := y7.tail.blk.cell 0
     have zc1 := y7.tail.blk.cell 1
     have zc2 := y7.tail.blk.cell 2
     have zf0 := y7.tail.blk.frozen 0
     have zf1 := y7.tail.blk.frozen 1
     have zf2 := y7.tail.blk.frozen 2
     have YZ := Lib.hid yZ.drew
     clear y6 y7 yC yZ hS
     go_wp2_with fail
     refine wp_region_noPanic ?_
     refine wp_region_held_drew (S := (fun W' => W'.cell? ⟨pG, 0, none⟩ = some (.int .i64 i) ∧ W'.cell? ⟨pG, 1, none⟩ = some (.slice A1 C.length n1) ∧ W'.cell? ⟨pG, 2, none⟩ = some (.slice A2 T.length n2) ∧ W'.cell? ⟨w.heap.size + 1, 0, none⟩ = some (.string ⟨o.toArray⟩) ∧ W'.cell? ⟨w.heap.size + 1, 1, none⟩ = some (.int .i64 z) ∧ W'.cell? ⟨w.heap.size + 1, 2, none⟩ = some (.string ⟨r.toArray⟩) ∧ W'.cell? ⟨w.heap.size, 0, none⟩ = some (.string ⟨seed'.toArray⟩) ∧ W'.cell? ⟨w.heap.size, 1, none⟩ = some (.int .i64 h') ∧ W'.cell? ⟨w.heap.size, 2, none⟩ = some (.int .i64 n'))) (by kernel_rfl) ?_ (fun hH0 => ?_)
     ·with_reducible exact s0
     refine tk 0 28 hH0 ?_
     refine tk 1 29 hH0 ?_
     refine tk 2 30 hH0 ?_
     refine tk 3 31 hH0 ?_
     refine rdy [4] ?_
     refine az fun K hK => ?_
     go_simp
     refine hK.out _ _ (by with_reducible exact s1) fun hH1 => ?_
     clear hK K hH0
     try simp only [pu]
     refine rdy [5] ?_
     refine az fun K hK => ?_
     go_simp
     refine hK.out _ _ (by with_reducible exact s2) fun hH2 => ?_
     clear hK K hH1
     try simp only [pu]
     refine tk 6 6 hH2 ?_
     refine dn ?_ _
     all_goals (refine NoPanic.normal ?_)
     go_wp2
     have yE := YZ.out
     refine bodyPost_ret (results_cct rfl _ _ _ _ _ _ _ _ _ _ _ _ rfl yE.tail.blk Tryz.underlying32 rfl size_ck rfl yE.blk Tryz.underlying23 rfl size_key) rfl ?_
     subst hres
     exact ⟨_, _, rfl, yE.pk [3, 4]⟩
    ·have hres := HR.out
     rw [if_neg her] at hres
     have y7 := y6.pk [4, 3]
     have cc0 := y7.blk.cell 0
     have cc1 := y7.blk.cell 1
     have cc2 := y7.blk.cell 2
     have cc3 := y7.blk.cell 3
     have cc4 := y7.blk.cell 4
     have cc5 := y7.blk.cell 5
     have cc6 := y7.blk.cell 6
     have cf0 := y7.blk.frozen 0
     have cf1 := y7.blk.frozen 1
     have cf2 := y7.blk.frozen 2
     have cf3 := y7.blk.frozen 3
     have cf4 := y7.blk.frozen 4
     have cf5 := y7.blk.frozen 5
     have cf6 := y7.blk.frozen 6
     have zc0 := y7.tail.blk.cell 0
     have zc1 := y7.tail.blk.cell 1
     have zc2 := y7.tail.blk.cell 2
     have zf0 := y7.tail.blk.frozen 0
     have zf1 := y7.tail.blk.frozen 1
     have zf2 := y7.tail.blk.frozen 2
     have yE := (((((((((((y7.set_ 0 (.string ⟨#[]⟩)).set_ 1 (.int .i64 0)).set_ 2 (.string ⟨#[]⟩)).set_ 3 (.int .i64 0)).set_ 4 (.slice none 0 0)).set_ 5 (.slice none 0 0)).set_ 6 (.slice none 0 0)).swap).set_ 0 (.string ⟨#[]⟩)).set_ 1 (.int .i64 0)).set_ 2 (.int .i64 0))
     have YE := Lib.hid yE
     clear y6 y7 yE hS
     have her1 : ((er : Int) == 0) = false := beq_eq_false_iff_ne.2 her
     go_wp2
     refine bodyPost_ret (results_cct rfl _ _ _ _ _ _ _ _ _ _ _ _ rfl YE.out.tail.blk Tryz.underlying32 rfl size_ck rfl YE.out.blk Tryz.underlying23 rfl size_key) rfl ?_
     subst hres
     exact ckP_bad er YE.out.tail.tail
end Go.Proofs.YtjjpdnpbhdcpbaaGreat
