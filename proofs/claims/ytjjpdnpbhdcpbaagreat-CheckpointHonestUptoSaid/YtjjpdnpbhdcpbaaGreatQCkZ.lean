/-
  Checkpoints: a witness sees a checkpoint, in the program. Conditions: seeds of at most 2^30 bytes.
-/
import Derived.Test.YtjjpdnpbhdcpbaaGreatQPa
import Derived.Test.YtjjpdnpbhdcpbaaGreatQCkY
namespace Go.Proofs.YtjjpdnpbhdcpbaaGreat
set_option linter.unusedVariables false
open Go.RowKit Go.Shelf
attribute [local go_sem] Oper.semAt_some
theorem region_same {P : Program} {c : Code} {Q : Exit → Act → World → Prop} {a : Act} {w : World} (S : World → Prop) {F : Act}
 (h : c.wp P (fun e a' w' => e = Exit.normal ∧ a' = F ∧ S w') a w) (k : ∀ w', S w' → Q Exit.normal F w') : c.wp P Q a w :=
 Code.wp_mono (fun e a w hr => by obtain ⟨rfl, rfl, hs⟩ := hr; exact k _ hs) h
theorem ckB_head {p : UInt8} {pub o : Sg.Str} {z : Int} {r : Sg.Str} {i : Int} {C T : List Sg.Str} (h : ckB p pub o z r i C T = true) : headB o z r = true := by
 unfold ckB at h
 cases hh : headB o z r with
 | true => rfl
 | false => rw [hh, if_neg (by decide)] at h; cases h
theorem size_cos : (Tryz.prog.info? 64).map (·.size) = some 4 := by kernel_rfl
def ObsP (q : Wit × SgM × Int) (w : World) (e : Ending) (w' : World) : Prop :=
 ∃ a b, e = .returned (.tuple #[.agg (witA q.1), .agg #[.string ⟨q.2.1.1.toArray⟩, .int .i64 q.2.1.2.1, a, b], .int .i64 q.2.2]) ∧ St w.heap.size w w' [ownR 9 1 a q.2.1.2.2.1.length (strs q.2.1.2.2.1), ownR 9 1 b q.2.1.2.2.2.length (strs q.2.1.2.2.2)]
theorem obs_bad (er : Int) {w w' : World} (h : Below w.heap.size w w') : ObsP (noWit, noSgM, er) w (.returned (.tuple #[.agg #[.string ⟨#[]⟩, .string ⟨#[]⟩, .string ⟨#[]⟩, .int .i64 0, .int .i64 0, .string ⟨#[]⟩, .int .i64 0, .string ⟨#[]⟩], .agg #[.string ⟨#[]⟩, .int .i64 0, .slice none 0 0, .slice none 0 0], .int .i64 er])) w' :=
 ⟨_, _, rfl, (((St.nil w).under h).new_own (Below.refl _ _) (World.ownsRow_nil _ _ _ _)).new_own (Below.refl _ _) (World.ownsRow_nil _ _ _ _)⟩
theorem obsfail_spec (er : Int) (w : World) : Calls Tryz.prog 83 #[.int .i64 er] w fun e w' => e = .returned (.tuple #[.agg #[.string ⟨#[]⟩, .string ⟨#[]⟩, .string ⟨#[]⟩, .int .i64 0, .int .i64 0, .string ⟨#[]⟩, .int .i64 0, .string ⟨#[]⟩], .agg #[.string ⟨#[]⟩, .int .i64 0, .slice none 0 0, .slice none 0 0], .int .i64 er]) ∧ Below w.heap.size w w' := by
 have h0 := ((St.nil w).alloc 37 #[.string ⟨#[]⟩, .string ⟨#[]⟩, .string ⟨#[]⟩, .int .i64 0, .int .i64 0, .string ⟨#[]⟩, .int .i64 0, .string ⟨#[]⟩]).alloc 64 #[.string ⟨#[]⟩, .int .i64 0, .slice none 0 0, .slice none 0 0]
 rw [World.size_alloc] at h0
 have YE := Lib.hid h0
 clear h0
 go_enter Tryz.func83, Tryz.ntmps83
 go_wp2
 refine bodyPost_ret (results_cct rfl _ _ _ _ _ _ _ _ _ _ _ _ rfl YE.out.tail.blk Tryz.underlying37 rfl size_wit rfl YE.out.blk Tryz.underlying64 rfl size_cos) rfl ?_
 exact ⟨rfl, YE.out.below⟩
set_option maxRecDepth 20000 in
set_option maxHeartbeats 8000000 in
theorem observe_spec (x : Wit) (y : CkV) (Y : Option Addr) (P : List Sg.Str) (d : Nat) (w : World) (hy : CkV.ok w y) (hP : Rd w Y (strs P)) (hd : P.length ≤ d) (hdm : d ≤ maxLen) (hs : x.seed.length ≤ 1073741824) :
 Calls Tryz.prog 35 #[.agg (witA x), .agg (ckA y), .slice Y P.length d] w (ObsP (obsR x y P) w) := by
 obtain ⟨ow, key, seed, h, n, ho, zw, rw⟩ := x
 obtain ⟨o, z, r, i, A, C, a, B, T, b, X, L, c⟩ := y
 unfold witA ckA
 dsimp only at hs ⊢
 obtain ⟨hA, hB, u1, u2, u3, u4, hR, u5, u6⟩ := hy
 dsimp only at hA hB u1 u2 u3 u4 hR u5 u6
 obtain ⟨W0, hW0⟩ : ∃ W0, w.alloc (.cells #[.string ⟨ow.toArray⟩, .string ⟨key.toArray⟩, .string ⟨seed.toArray⟩, .int .i64 h, .int .i64 n, .string ⟨ho.toArray⟩, .int .i64 zw, .string ⟨rw.toArray⟩] 37) = W0 := ⟨_, rfl⟩
 have hs0 : W0.heap.size = w.heap.size + 1 := by rw [← hW0]; simp
 obtain ⟨W1, hW1⟩ : ∃ W1, W0.alloc (.cells #[.string ⟨o.toArray⟩, .int .i64 z, .string ⟨r.toArray⟩, .int .i64 i, .slice A C.length a, .slice B T.length b, .slice X L.length c] 32) = W1 := ⟨_, rfl⟩
 have hs1 : W1.heap.size = w.heap.size + 1 + 1 := by rw [← hW1]; simp [hs0]
 obtain ⟨W2, hW2⟩ : ∃ W2, W1.alloc (.cells #[.string ⟨#[]⟩, .string ⟨#[]⟩, .string ⟨#[]⟩, .int .i64 0, .int .i64 0, .string ⟨#[]⟩, .int .i64 0, .string ⟨#[]⟩] 37) = W2 := ⟨_, rfl⟩
 have hs2 : W2.heap.size = w.heap.size + 1 + 1 + 1 := by rw [← hW2]; simp [hs1]
 obtain ⟨W, hW⟩ : ∃ W, W2.alloc (.cells #[.string ⟨#[]⟩, .int .i64 0, .slice none 0 0, .slice none 0 0] 64) = W := ⟨_, rfl⟩
 have y0 : St w.heap.size w W [cellsR (w.heap.size + 1 + 1 + 1) 64 #[.string ⟨#[]⟩, .int .i64 0, .slice none 0 0, .slice none 0 0], cellsR (w.heap.size + 1 + 1) 37 #[.string ⟨#[]⟩, .string ⟨#[]⟩, .string ⟨#[]⟩, .int .i64 0, .int .i64 0, .string ⟨#[]⟩, .int .i64 0, .string ⟨#[]⟩], cellsR (w.heap.size + 1) 32 #[.string ⟨o.toArray⟩, .int .i64 z, .string ⟨r.toArray⟩, .int .i64 i, .slice A C.length a, .slice B T.length b, .slice X L.length c], cellsR (w.heap.size) 37 #[.string ⟨ow.toArray⟩, .string ⟨key.toArray⟩, .string ⟨seed.toArray⟩, .int .i64 h, .int .i64 n, .string ⟨ho.toArray⟩, .int .i64 zw, .string ⟨rw.toArray⟩]] := by
  have := ((((St.nil w).alloc 37 #[.string ⟨ow.toArray⟩, .string ⟨key.toArray⟩, .string ⟨seed.toArray⟩, .int .i64 h, .int .i64 n, .string ⟨ho.toArray⟩, .int .i64 zw, .string ⟨rw.toArray⟩]).alloc 32 #[.string ⟨o.toArray⟩, .int .i64 z, .string ⟨r.toArray⟩, .int .i64 i, .slice A C.length a, .slice B T.length b, .slice X L.length c]).alloc 37 #[.string ⟨#[]⟩, .string ⟨#[]⟩, .string ⟨#[]⟩, .int .i64 0, .int .i64 0, .string ⟨#[]⟩, .int .i64 0, .string ⟨#[]⟩]).alloc 64 #[.string ⟨#[]⟩, .int .i64 0, .slice none 0 0, .slice none 0 0]
  rw [hW0, hW1, hW2, hW, hs0, hs1, hs2] at this
  exact this
 have kV := ckverify_spec key o z r i C T A B X a b L.length c W (hA.below y0.below) (hB.below y0.below) u1 u2 u3 u4
 have kE := fun W' (hb : Below w.heap.size w W') => extends_spec zw z rw r Y P d W' (hP.below hb) hd hdm
 have kf := fun er W' => obsfail_spec er W'
 have vc0 := y0.tail.tail.blk.cell 0
 have vc1 := y0.tail.tail.blk.cell 1
 have vc2 := y0.tail.tail.blk.cell 2
 have vc3 := y0.tail.tail.blk.cell 3
 have vc4 := y0.tail.tail.blk.cell 4
 have vc5 := y0.tail.tail.blk.cell 5
 have vc6 := y0.tail.tail.blk.cell 6
 have vw1 := y0.tail.tail.tail.blk.cell 1
 have Y := Lib.hid y0
 clear y0 hA hB u1 u2 u3 u4 hR u5 u6 hP hd hdm
 unfold obsR
 dsimp only
 have hck := fun (hv : ckB 4 key o z r i C T = true) => ckB_head hv
 cases hv : ckB 4 key o z r i C T with
 | false =>
   rw [hv] at kV
   rw [if_neg (by decide)]
   clear hv hck kE
   go_enter Tryz.func35, Tryz.ntmps35
   go_wp2_with fail
   refine kV.mono ?_
   rintro e w1 ⟨rfl, b1⟩
   have y1 := Y.out.under b1
   have B1 := Lib.hid (Y.out.below.trans (b1.mono Y.out.below.size))
   clear kV b1 hW hW0 hW1 hW2 hs0 hs1 hs2 vc0 vc1 vc2 vc3 vc4 vc5 vc6 vw1
   have lc0 := y1.tail.tail.blk.cell 0
   have lc1 := y1.tail.tail.blk.cell 1
   have lc2 := y1.tail.tail.blk.cell 2
   have lw0 := y1.tail.tail.tail.blk.cell 0
   have lw6 := y1.tail.tail.tail.blk.cell 6
   have lw7 := y1.tail.tail.tail.blk.cell 7
   go_wp2_with fail
   refine (kf (1) _).mono ?_
   rintro e w2 ⟨rfl, bf⟩
   have yf := y1.under bf
   have oc0 := yf.blk.cell 0
   have oc1 := yf.blk.cell 1
   have oc2 := yf.blk.cell 2
   have oc3 := yf.blk.cell 3
   have of_0 := yf.blk.frozen 0
   have of_1 := yf.blk.frozen 1
   have of_2 := yf.blk.frozen 2
   have of_3 := yf.blk.frozen 3
   have wc0 := yf.tail.blk.cell 0
   have wc1 := yf.tail.blk.cell 1
   have wc2 := yf.tail.blk.cell 2
   have wc3 := yf.tail.blk.cell 3
   have wc4 := yf.tail.blk.cell 4
   have wc5 := yf.tail.blk.cell 5
   have wc6 := yf.tail.blk.cell 6
   have wc7 := yf.tail.blk.cell 7
   have wf0 := yf.tail.blk.frozen 0
   have wf1 := yf.tail.blk.frozen 1
   have wf2 := yf.tail.blk.frozen 2
   have wf3 := yf.tail.blk.frozen 3
   have wf4 := yf.tail.blk.frozen 4
   have wf5 := yf.tail.blk.frozen 5
   have wf6 := yf.tail.blk.frozen 6
   have wf7 := yf.tail.blk.frozen 7
   have YE := Lib.hid ((((((((((((((yf.swap.set_ 0 (.string ⟨#[]⟩)).set_ 1 (.string ⟨#[]⟩)).set_ 2 (.string ⟨#[]⟩)).set_ 3 (.int .i64 0)).set_ 4 (.int .i64 0)).set_ 5 (.string ⟨#[]⟩)).set_ 6 (.int .i64 0)).set_ 7 (.string ⟨#[]⟩)).swap).set_ 0 (.string ⟨#[]⟩)).set_ 1 (.int .i64 0)).set_ 2 (.slice none 0 0)).set_ 3 (.slice none 0 0)))
   clear yf bf kf 
   go_wp2
   refine bodyPost_ret (results_cct rfl _ _ _ _ _ _ _ _ _ _ _ _ rfl YE.out.tail.blk Tryz.underlying37 rfl size_wit rfl YE.out.blk Tryz.underlying64 rfl size_cos) rfl ?_
   exact obs_bad _ YE.out.below
 | true =>
   have hh := hck hv
   rw [hv] at kV
   rw [if_pos rfl]
   clear hv hck
   cases hoo : (o == ow) with
   | false =>
     have ho1 : (o != ow) = true := by rw [bne, hoo]; rfl
     rw [if_neg (beq_eq_false_iff_ne.1 hoo)]
     clear hh kE
     go_enter Tryz.func35, Tryz.ntmps35
     go_wp2_with fail
     refine kV.mono ?_
     rintro e w1 ⟨rfl, b1⟩
     have y1 := Y.out.under b1
     have B1 := Lib.hid (Y.out.below.trans (b1.mono Y.out.below.size))
     clear kV b1 hW hW0 hW1 hW2 hs0 hs1 hs2 vc0 vc1 vc2 vc3 vc4 vc5 vc6 vw1
     have lc0 := y1.tail.tail.blk.cell 0
     have lc1 := y1.tail.tail.blk.cell 1
     have lc2 := y1.tail.tail.blk.cell 2
     have lw0 := y1.tail.tail.tail.blk.cell 0
     have lw6 := y1.tail.tail.tail.blk.cell 6
     have lw7 := y1.tail.tail.tail.blk.cell 7
     go_wp2_with fail
     refine (kf (1) _).mono ?_
     rintro e w2 ⟨rfl, bf⟩
     have yf := y1.under bf
     have oc0 := yf.blk.cell 0
     have oc1 := yf.blk.cell 1
     have oc2 := yf.blk.cell 2
     have oc3 := yf.blk.cell 3
     have of_0 := yf.blk.frozen 0
     have of_1 := yf.blk.frozen 1
     have of_2 := yf.blk.frozen 2
     have of_3 := yf.blk.frozen 3
     have wc0 := yf.tail.blk.cell 0
     have wc1 := yf.tail.blk.cell 1
     have wc2 := yf.tail.blk.cell 2
     have wc3 := yf.tail.blk.cell 3
     have wc4 := yf.tail.blk.cell 4
     have wc5 := yf.tail.blk.cell 5
     have wc6 := yf.tail.blk.cell 6
     have wc7 := yf.tail.blk.cell 7
     have wf0 := yf.tail.blk.frozen 0
     have wf1 := yf.tail.blk.frozen 1
     have wf2 := yf.tail.blk.frozen 2
     have wf3 := yf.tail.blk.frozen 3
     have wf4 := yf.tail.blk.frozen 4
     have wf5 := yf.tail.blk.frozen 5
     have wf6 := yf.tail.blk.frozen 6
     have wf7 := yf.tail.blk.frozen 7
     have YE := Lib.hid ((((((((((((((yf.swap.set_ 0 (.string ⟨#[]⟩)).set_ 1 (.string ⟨#[]⟩)).set_ 2 (.string ⟨#[]⟩)).set_ 3 (.int .i64 0)).set_ 4 (.int .i64 0)).set_ 5 (.string ⟨#[]⟩)).set_ 6 (.int .i64 0)).set_ 7 (.string ⟨#[]⟩)).swap).set_ 0 (.string ⟨#[]⟩)).set_ 1 (.int .i64 0)).set_ 2 (.slice none 0 0)).set_ 3 (.slice none 0 0)))
     clear yf bf kf 
     go_wp2
     refine bodyPost_ret (results_cct rfl _ _ _ _ _ _ _ _ _ _ _ _ rfl YE.out.tail.blk Tryz.underlying37 rfl size_wit rfl YE.out.blk Tryz.underlying64 rfl size_cos) rfl ?_
     exact obs_bad _ YE.out.below
   | true =>
     have ho1 : (o != ow) = false := by rw [bne, hoo]; rfl
     rw [if_pos (beq_iff_eq.1 hoo)]
     by_cases hz : z < zw
     ·rw [if_pos hz]
      clear hh kE
      go_enter Tryz.func35, Tryz.ntmps35
      go_wp2_with fail
      refine kV.mono ?_
      rintro e w1 ⟨rfl, b1⟩
      have y1 := Y.out.under b1
      have B1 := Lib.hid (Y.out.below.trans (b1.mono Y.out.below.size))
      clear kV b1 hW hW0 hW1 hW2 hs0 hs1 hs2 vc0 vc1 vc2 vc3 vc4 vc5 vc6 vw1
      have lc0 := y1.tail.tail.blk.cell 0
      have lc1 := y1.tail.tail.blk.cell 1
      have lc2 := y1.tail.tail.blk.cell 2
      have lw0 := y1.tail.tail.tail.blk.cell 0
      have lw6 := y1.tail.tail.tail.blk.cell 6
      have lw7 := y1.tail.tail.tail.blk.cell 7
      go_wp2_with fail
      refine (kf (8) _).mono ?_
      rintro e w2 ⟨rfl, bf⟩
      have yf := y1.under bf
      have oc0 := yf.blk.cell 0
      have oc1 := yf.blk.cell 1
      have oc2 := yf.blk.cell 2
      have oc3 := yf.blk.cell 3
      have of_0 := yf.blk.frozen 0
      have of_1 := yf.blk.frozen 1
      have of_2 := yf.blk.frozen 2
      have of_3 := yf.blk.frozen 3
      have wc0 := yf.tail.blk.cell 0
      have wc1 := yf.tail.blk.cell 1
      have wc2 := yf.tail.blk.cell 2
      have wc3 := yf.tail.blk.cell 3
      have wc4 := yf.tail.blk.cell 4
      have wc5 := yf.tail.blk.cell 5
      have wc6 := yf.tail.blk.cell 6
      have wc7 := yf.tail.blk.cell 7
      have wf0 := yf.tail.blk.frozen 0
      have wf1 := yf.tail.blk.frozen 1
      have wf2 := yf.tail.blk.frozen 2
      have wf3 := yf.tail.blk.frozen 3
      have wf4 := yf.tail.blk.frozen 4
      have wf5 := yf.tail.blk.frozen 5
      have wf6 := yf.tail.blk.frozen 6
      have wf7 := yf.tail.blk.frozen 7
      have YE := Lib.hid ((((((((((((((yf.swap.set_ 0 (.string ⟨#[]⟩)).set_ 1 (.string ⟨#[]⟩)).set_ 2 (.string ⟨#[]⟩)).set_ 3 (.int .i64 0)).set_ 4 (.int .i64 0)).set_ 5 (.string ⟨#[]⟩)).set_ 6 (.int .i64 0)).set_ 7 (.string ⟨#[]⟩)).swap).set_ 0 (.string ⟨#[]⟩)).set_ 1 (.int .i64 0)).set_ 2 (.slice none 0 0)).set_ 3 (.slice none 0 0)))
      clear yf bf kf 
      go_wp2
      refine bodyPost_ret (results_cct rfl _ _ _ _ _ _ _ _ _ _ _ _ rfl YE.out.tail.blk Tryz.underlying37 rfl size_wit rfl YE.out.blk Tryz.underlying64 rfl size_cos) rfl ?_
      exact obs_bad _ YE.out.below
     ·rw [if_neg hz]
      have hcs : (z = zw ∧ ¬ r = rw) ∨ ((z == zw) = true ∧ ((r == rw) = true) ∧ ((r != rw) = false) ∧ ¬ (z = zw ∧ ¬ r = rw)) ∨ ((z == zw) = false ∧ True ∧ True ∧ ¬ (z = zw ∧ ¬ r = rw)) := by
       by_cases e1 : z = zw
       ·by_cases e2 : r = rw
        ·exact .inr (.inl ⟨beq_iff_eq.2 e1, beq_iff_eq.2 e2, by rw [bne, beq_iff_eq.2 e2]; rfl, fun h => h.2 e2⟩)
        ·exact .inl ⟨e1, e2⟩
       ·exact .inr (.inr ⟨beq_eq_false_iff_ne.2 e1, trivial, trivial, fun h => e1 h.1⟩)
      rcases hcs with hk | hk
      ·rw [if_pos hk]
       obtain ⟨e1, e2⟩ := hk
       have e1' : (z == zw) = true := beq_iff_eq.2 e1
       have e2' : (r == rw) = false := beq_eq_false_iff_ne.2 e2
       have e2n : (r != rw) = true := by rw [bne, e2']; rfl
       clear hh kE e1 e2
       go_enter Tryz.func35, Tryz.ntmps35
       go_wp2_with fail
       refine kV.mono ?_
       rintro e w1 ⟨rfl, b1⟩
       have y1 := Y.out.under b1
       have B1 := Lib.hid (Y.out.below.trans (b1.mono Y.out.below.size))
       clear kV b1 hW hW0 hW1 hW2 hs0 hs1 hs2 vc0 vc1 vc2 vc3 vc4 vc5 vc6 vw1
       have lc0 := y1.tail.tail.blk.cell 0
       have lc1 := y1.tail.tail.blk.cell 1
       have lc2 := y1.tail.tail.blk.cell 2
       have lw0 := y1.tail.tail.tail.blk.cell 0
       have lw6 := y1.tail.tail.tail.blk.cell 6
       have lw7 := y1.tail.tail.tail.blk.cell 7
       go_wp2_with fail
       refine (kf (24) _).mono ?_
       rintro e w2 ⟨rfl, bf⟩
       have yf := y1.under bf
       have oc0 := yf.blk.cell 0
       have oc1 := yf.blk.cell 1
       have oc2 := yf.blk.cell 2
       have oc3 := yf.blk.cell 3
       have of_0 := yf.blk.frozen 0
       have of_1 := yf.blk.frozen 1
       have of_2 := yf.blk.frozen 2
       have of_3 := yf.blk.frozen 3
       have wc0 := yf.tail.blk.cell 0
       have wc1 := yf.tail.blk.cell 1
       have wc2 := yf.tail.blk.cell 2
       have wc3 := yf.tail.blk.cell 3
       have wc4 := yf.tail.blk.cell 4
       have wc5 := yf.tail.blk.cell 5
       have wc6 := yf.tail.blk.cell 6
       have wc7 := yf.tail.blk.cell 7
       have wf0 := yf.tail.blk.frozen 0
       have wf1 := yf.tail.blk.frozen 1
       have wf2 := yf.tail.blk.frozen 2
       have wf3 := yf.tail.blk.frozen 3
       have wf4 := yf.tail.blk.frozen 4
       have wf5 := yf.tail.blk.frozen 5
       have wf6 := yf.tail.blk.frozen 6
       have wf7 := yf.tail.blk.frozen 7
       have YE := Lib.hid ((((((((((((((yf.swap.set_ 0 (.string ⟨#[]⟩)).set_ 1 (.string ⟨#[]⟩)).set_ 2 (.string ⟨#[]⟩)).set_ 3 (.int .i64 0)).set_ 4 (.int .i64 0)).set_ 5 (.string ⟨#[]⟩)).set_ 6 (.int .i64 0)).set_ 7 (.string ⟨#[]⟩)).swap).set_ 0 (.string ⟨#[]⟩)).set_ 1 (.int .i64 0)).set_ 2 (.slice none 0 0)).set_ 3 (.slice none 0 0)))
       clear yf bf kf 
       go_wp2
       refine bodyPost_ret (results_cct rfl _ _ _ _ _ _ _ _ _ _ _ _ rfl YE.out.tail.blk Tryz.underlying37 rfl size_wit rfl YE.out.blk Tryz.underlying64 rfl size_cos) rfl ?_
       exact obs_bad _ YE.out.below
      ·rw [if_neg (by rcases hk with hk | hk <;> exact hk.2.2.2)]
       cases hx : extB zw z rw r P with
       | false =>
         rw [if_neg (by decide)]
         rw [hx] at kE
         clear hx hh
         rcases hk with ⟨hz1, hz2, hz3, _⟩ | ⟨hz1, hz2, hz3, _⟩
         all_goals
          go_enter Tryz.func35, Tryz.ntmps35
          go_wp2_with fail
          refine kV.mono ?_
          rintro e w1 ⟨rfl, b1⟩
          have y1 := Y.out.under b1
          have B1 := Lib.hid (Y.out.below.trans (b1.mono Y.out.below.size))
          clear kV b1 hW hW0 hW1 hW2 hs0 hs1 hs2 vc0 vc1 vc2 vc3 vc4 vc5 vc6 vw1
          have lc0 := y1.tail.tail.blk.cell 0
          have lc1 := y1.tail.tail.blk.cell 1
          have lc2 := y1.tail.tail.blk.cell 2
          have lw0 := y1.tail.tail.tail.blk.cell 0
          have lw6 := y1.tail.tail.tail.blk.cell 6
          have lw7 := y1.tail.tail.tail.blk.cell 7
          go_wp2_with fail
          refine (kE _ B1.out).mono ?_
          rintro e w2 ⟨rfl, b2⟩
          have y2 := y1.under b2
          clear kE b2 y1 lc0 lc1 lc2 lw0 lw6 lw7
          go_wp2_with fail
          refine (kf (18) _).mono ?_
          rintro e w3 ⟨rfl, bf⟩
          have yf := y2.under bf
          have oc0 := yf.blk.cell 0
          have oc1 := yf.blk.cell 1
          have oc2 := yf.blk.cell 2
          have oc3 := yf.blk.cell 3
          have of_0 := yf.blk.frozen 0
          have of_1 := yf.blk.frozen 1
          have of_2 := yf.blk.frozen 2
          have of_3 := yf.blk.frozen 3
          have wc0 := yf.tail.blk.cell 0
          have wc1 := yf.tail.blk.cell 1
          have wc2 := yf.tail.blk.cell 2
          have wc3 := yf.tail.blk.cell 3
          have wc4 := yf.tail.blk.cell 4
          have wc5 := yf.tail.blk.cell 5
          have wc6 := yf.tail.blk.cell 6
          have wc7 := yf.tail.blk.cell 7
          have wf0 := yf.tail.blk.frozen 0
          have wf1 := yf.tail.blk.frozen 1
          have wf2 := yf.tail.blk.frozen 2
          have wf3 := yf.tail.blk.frozen 3
          have wf4 := yf.tail.blk.frozen 4
          have wf5 := yf.tail.blk.frozen 5
          have wf6 := yf.tail.blk.frozen 6
          have wf7 := yf.tail.blk.frozen 7
          have YE := Lib.hid ((((((((((((((yf.swap.set_ 0 (.string ⟨#[]⟩)).set_ 1 (.string ⟨#[]⟩)).set_ 2 (.string ⟨#[]⟩)).set_ 3 (.int .i64 0)).set_ 4 (.int .i64 0)).set_ 5 (.string ⟨#[]⟩)).set_ 6 (.int .i64 0)).set_ 7 (.string ⟨#[]⟩)).swap).set_ 0 (.string ⟨#[]⟩)).set_ 1 (.int .i64 0)).set_ 2 (.slice none 0 0)).set_ 3 (.slice none 0 0)))
          clear yf bf kf 
          go_wp2
          refine bodyPost_ret (results_cct rfl _ _ _ _ _ _ _ _ _ _ _ _ rfl YE.out.tail.blk Tryz.underlying37 rfl size_wit rfl YE.out.blk Tryz.underlying64 rfl size_cos) rfl ?_
          exact obs_bad _ YE.out.below
       | true =>
         rw [if_pos rfl]
         rw [hx] at kE
         clear hx
         have kb := fun W' => ckbytes_spec o z r W' hh
         have hl := headS_len hh
         have ks := fun W' => sign_spec seed (5 :: headS o z r) h n W' (by rw [List.length_cons]; omega)
         have g1 := cons_bytes 5 (headS o z r)
         obtain ⟨g2, g3⟩ := sg_cat [5] (headS o z r) (by rw [List.length_singleton]; omega)
         rw [List.length_singleton] at g2 g3
         have kp := fun W' => public_spec seed h n W' hs
         generalize pubR seed h = pr at kp ⊢
         obtain ⟨pub, pe⟩ := pr
         obtain ⟨q, hq⟩ : ∃ q, signR seed h n (Sg.dgs (5 :: headS o z r)) = q := ⟨_, rfl⟩
         unfold obsS
         dsimp only at hq ks kp ⊢
         rw [hq] at ks ⊢
         clear hq hl hh
         obtain ⟨⟨i', C', T'⟩, ⟨seed', h', n'⟩, er⟩ := q
         unfold SgP keyA at ks
         dsimp only at ks kp ⊢
         generalize hres : ite (er = 0) _ _ = res
         have HR := Lib.hid hres
         clear hres
         rcases hk with ⟨hz1, hz2, hz3, _⟩ | ⟨hz1, hz2, hz3, _⟩
         all_goals
          go_enter Tryz.func35, Tryz.ntmps35
          go_wp2_with fail
          refine kV.mono ?_
          rintro e w1 ⟨rfl, b1⟩
          have y1 := Y.out.under b1
          have B1 := Lib.hid (Y.out.below.trans (b1.mono Y.out.below.size))
          clear kV b1 hW hW0 hW1 hW2 hs0 hs1 hs2 vc0 vc1 vc2 vc3 vc4 vc5 vc6 vw1
          have lc0 := y1.tail.tail.blk.cell 0
          have lc1 := y1.tail.tail.blk.cell 1
          have lc2 := y1.tail.tail.blk.cell 2
          have lw0 := y1.tail.tail.tail.blk.cell 0
          have lw6 := y1.tail.tail.tail.blk.cell 6
          have lw7 := y1.tail.tail.tail.blk.cell 7
          go_wp2_with fail
          refine (kE _ B1.out).mono ?_
          rintro e w2 ⟨rfl, b2⟩
          have y2 := y1.under b2
          clear kE b2 y1 lc0 lc1 lc2 lw0 lw6 lw7
          have hS : ∀ W', Blk W' (w.heap.size + 1) 32 #[.string ⟨o.toArray⟩, .int .i64 z, .string ⟨r.toArray⟩, .int .i64 i, .slice A C.length a, .slice B T.length b, .slice X L.length c] → Blk W' (w.heap.size) 37 #[.string ⟨ow.toArray⟩, .string ⟨key.toArray⟩, .string ⟨seed.toArray⟩, .int .i64 h, .int .i64 n, .string ⟨ho.toArray⟩, .int .i64 zw, .string ⟨rw.toArray⟩] → (W'.cell? ⟨w.heap.size + 1, 0, none⟩ = some (.string ⟨o.toArray⟩) ∧ W'.cell? ⟨w.heap.size + 1, 1, none⟩ = some (.int .i64 z) ∧ W'.cell? ⟨w.heap.size + 1, 2, none⟩ = some (.string ⟨r.toArray⟩) ∧ W'.cell? ⟨w.heap.size, 2, none⟩ = some (.string ⟨seed.toArray⟩) ∧ W'.cell? ⟨w.heap.size, 3, none⟩ = some (.int .i64 h) ∧ W'.cell? ⟨w.heap.size, 4, none⟩ = some (.int .i64 n)) := fun W' hb hk => ⟨hb.cell 0, hb.cell 1, hb.cell 2, hk.cell 2, hk.cell 3, hk.cell 4⟩
          go_wp2_with fail
          apply region_via6 (fun (pG pJ : Nat) (A1 A2 : Option Addr) (n1 n2 : Nat) w' => St w.heap.size w w' [cellsR (pG) 29 #[.int .i64 i', .slice A1 C'.length n1, .slice A2 T'.length n2], cellsR (pJ) 23 #[.string ⟨seed'.toArray⟩, .int .i64 h', .int .i64 n'], ownR 9 1 (.slice A1 C'.length n1) C'.length (strs C'), ownR 9 1 (.slice A2 T'.length n2) T'.length (strs T'), cellsR (w.heap.size + 1 + 1 + 1) 64 #[.string ⟨#[]⟩, .int .i64 0, .slice none 0 0, .slice none 0 0], cellsR (w.heap.size + 1 + 1) 37 #[.string ⟨#[]⟩, .string ⟨#[]⟩, .string ⟨#[]⟩, .int .i64 0, .int .i64 0, .string ⟨#[]⟩, .int .i64 0, .string ⟨#[]⟩], cellsR (w.heap.size + 1) 32 #[.string ⟨o.toArray⟩, .int .i64 z, .string ⟨r.toArray⟩, .int .i64 i, .slice A C.length a, .slice B T.length b, .slice X L.length c], cellsR (w.heap.size) 37 #[.string ⟨ow.toArray⟩, .string ⟨key.toArray⟩, .string ⟨seed.toArray⟩, .int .i64 h, .int .i64 n, .string ⟨ho.toArray⟩, .int .i64 zw, .string ⟨rw.toArray⟩]])
          case h =>
           have q0 := y2.drew
           have sf := hS _ (q0.tail.tail).blk (q0.tail.tail.tail).blk
           clear q0
           have qG0 := (y2.alloc 29 #[.int .i64 0, .slice none 0 0, .slice none 0 0]).drew
           have sfG := hS _ (qG0.tail.tail.tail).blk (qG0.tail.tail.tail.tail).blk
           clear qG0
           have qGJ0 := ((y2.alloc 29 #[.int .i64 0, .slice none 0 0, .slice none 0 0]).alloc 23 #[.string ⟨#[]⟩, .int .i64 0, .int .i64 0]).drew
           have sfGJ := hS _ (qGJ0.tail.tail.tail.tail).blk (qGJ0.tail.tail.tail.tail.tail).blk
           clear qGJ0
           have qJ0 := (y2.alloc 23 #[.string ⟨#[]⟩, .int .i64 0, .int .i64 0]).drew
           have sfJ := hS _ (qJ0.tail.tail.tail).blk (qJ0.tail.tail.tail.tail).blk
           clear qJ0
           have qJG0 := ((y2.alloc 23 #[.string ⟨#[]⟩, .int .i64 0, .int .i64 0]).alloc 29 #[.int .i64 0, .slice none 0 0, .slice none 0 0]).drew
           have sfJG := hS _ (qJG0.tail.tail.tail.tail).blk (qJG0.tail.tail.tail.tail.tail).blk
           clear qJG0
           refine wp_region_noPanic ?_
           refine wp_region_held_drew (S := (fun W' => W'.cell? ⟨w.heap.size + 1, 0, none⟩ = some (.string ⟨o.toArray⟩) ∧ W'.cell? ⟨w.heap.size + 1, 1, none⟩ = some (.int .i64 z) ∧ W'.cell? ⟨w.heap.size + 1, 2, none⟩ = some (.string ⟨r.toArray⟩) ∧ W'.cell? ⟨w.heap.size, 2, none⟩ = some (.string ⟨seed.toArray⟩) ∧ W'.cell? ⟨w.heap.size, 3, none⟩ = some (.int .i64 h) ∧ W'.cell? ⟨w.heap.size, 4, none⟩ = some (.int .i64 n))) (by kernel_rfl) ?_ (fun hH0 => ?_)
           ·with_reducible exact sf
           refine tk 0 91 hH0 ?_
           refine tk 1 92 hH0 ?_
           refine tk 2 93 hH0 ?_
           refine tk 3 94 hH0 ?_
           refine rdy [4, 11, 12] ?_
           refine ad 95 (fun K hK => ?_) ?_
           go_simp; (
            (with_reducible refine (kb _).mono ?_)
            rintro e wB ⟨rfl, bB⟩
            have yB := y2.drew.under bB
            have sfB := hS _ (yB.tail.tail).blk (yB.tail.tail.tail).blk
            have qBG0 := (yB.alloc 29 #[.int .i64 0, .slice none 0 0, .slice none 0 0])
            have sfBG := hS _ (qBG0.tail.tail.tail).blk (qBG0.tail.tail.tail.tail).blk
            clear qBG0
            have qBGJ0 := ((yB.alloc 29 #[.int .i64 0, .slice none 0 0, .slice none 0 0]).alloc 23 #[.string ⟨#[]⟩, .int .i64 0, .int .i64 0])
            have sfBGJ := hS _ (qBGJ0.tail.tail.tail.tail).blk (qBGJ0.tail.tail.tail.tail.tail).blk
            clear qBGJ0
            have qBJ0 := (yB.alloc 23 #[.string ⟨#[]⟩, .int .i64 0, .int .i64 0])
            have sfBJ := hS _ (qBJ0.tail.tail.tail).blk (qBJ0.tail.tail.tail.tail).blk
            clear qBJ0
            have qBJG0 := ((yB.alloc 23 #[.string ⟨#[]⟩, .int .i64 0, .int .i64 0]).alloc 29 #[.int .i64 0, .slice none 0 0, .slice none 0 0])
            have sfBJG := hS _ (qBJG0.tail.tail.tail.tail).blk (qBJG0.tail.tail.tail.tail.tail).blk
            clear qBJG0); go_wp2_with fail
           refine hK.out _ _ (by with_reducible exact sfB) fun hH1 => ?_
           clear hK K hH0
           try simp only [pu]
           refine tk 5 96 hH1 ?_
           refine rdy [6, 11, 12] ?_
           refine ad 97 (fun K hK => ?_) ?_
           go_simp; (
            (with_reducible refine (ks _).mono ?_)
            rintro e wBS ⟨ua, ub, rfl, t2⟩
            obtain ⟨A1, n1, rfl, _, _⟩ := own_form t2.own
            obtain ⟨A2, n2, rfl, _, _⟩ := own_form t2.tail.own
            have yBS := yB.join t2
            have sfBS := hS _ (yBS.tail.tail.tail.tail).blk (yBS.tail.tail.tail.tail.tail).blk
            have qBSG0 := (yBS.alloc 29 #[.int .i64 0, .slice none 0 0, .slice none 0 0])
            have sfBSG := hS _ (qBSG0.tail.tail.tail.tail.tail).blk (qBSG0.tail.tail.tail.tail.tail.tail).blk
            clear qBSG0
            have qBSGJ0 := ((yBS.alloc 29 #[.int .i64 0, .slice none 0 0, .slice none 0 0]).alloc 23 #[.string ⟨#[]⟩, .int .i64 0, .int .i64 0])
            have sfBSGJ := hS _ (qBSGJ0.tail.tail.tail.tail.tail.tail).blk (qBSGJ0.tail.tail.tail.tail.tail.tail.tail).blk
            clear qBSGJ0
            have qBSGJ1 := ((yBS.alloc 29 #[.int .i64 i', .slice A1 C'.length n1, .slice A2 T'.length n2]).alloc 23 #[.string ⟨#[]⟩, .int .i64 0, .int .i64 0])
            have sfBSGJ1 := hS _ (qBSGJ1.tail.tail.tail.tail.tail.tail).blk (qBSGJ1.tail.tail.tail.tail.tail.tail.tail).blk
            clear qBSGJ1
            have qBSGJ2 := ((yBS.alloc 29 #[.int .i64 i', .slice A1 C'.length n1, .slice A2 T'.length n2]).alloc 23 #[.string ⟨seed'.toArray⟩, .int .i64 h', .int .i64 n'])
            have sfBSGJ2 := hS _ (qBSGJ2.tail.tail.tail.tail.tail.tail).blk (qBSGJ2.tail.tail.tail.tail.tail.tail.tail).blk
            clear qBSGJ2
            have qBSJ0 := (yBS.alloc 23 #[.string ⟨#[]⟩, .int .i64 0, .int .i64 0])
            have sfBSJ := hS _ (qBSJ0.tail.tail.tail.tail.tail).blk (qBSJ0.tail.tail.tail.tail.tail.tail).blk
            clear qBSJ0
            have qBSJG0 := ((yBS.alloc 23 #[.string ⟨#[]⟩, .int .i64 0, .int .i64 0]).alloc 29 #[.int .i64 0, .slice none 0 0, .slice none 0 0])
            have sfBSJG := hS _ (qBSJG0.tail.tail.tail.tail.tail.tail).blk (qBSJG0.tail.tail.tail.tail.tail.tail.tail).blk
            clear qBSJG0
            have qBSJG1 := ((yBS.alloc 23 #[.string ⟨#[]⟩, .int .i64 0, .int .i64 0]).alloc 29 #[.int .i64 i', .slice A1 C'.length n1, .slice A2 T'.length n2])
            have sfBSJG1 := hS _ (qBSJG1.tail.tail.tail.tail.tail.tail).blk (qBSJG1.tail.tail.tail.tail.tail.tail.tail).blk
            clear qBSJG1
            have qBSJG2 := ((yBS.alloc 23 #[.string ⟨seed'.toArray⟩, .int .i64 h', .int .i64 n']).alloc 29 #[.int .i64 i', .slice A1 C'.length n1, .slice A2 T'.length n2])
            have sfBSJG2 := hS _ (qBSJG2.tail.tail.tail.tail.tail.tail).blk (qBSJG2.tail.tail.tail.tail.tail.tail.tail).blk
            clear qBSJG2); go_wp2_with fail
           refine hK.out _ _ (by with_reducible exact sfBS) fun hH2 => ?_
           clear hK K hH1
           try simp only [pu]
           refine tk 7 90 hH2 ?_
           refine tk 8 98 hH2 ?_
           refine tk 9 99 hH2 ?_
           refine tk 10 100 hH2 ?_
           refine rdy [11, 12] ?_
           refine ad 10 (fun K hK => ?_) ?_
           go_simp
           refine hK.out _ _ (by with_reducible exact sfBSG) fun hH3 => ?_
           clear hK K hH2
           try simp only [pu]
           refine rdy [12] ?_
           refine an 11 fun K hK => ?_
           go_simp
           refine hK.out _ _ (by with_reducible exact sfBSGJ) fun hH4 => ?_
           clear hK K hH3
           try simp only [pu]
           refine rdy [13] ?_
           refine az fun K hK => ?_
           go_simp
           refine hK.out _ _ (by with_reducible exact sfBSGJ1) fun hH5 => ?_
           clear hK K hH4
           try simp only [pu]
           refine rdy [14] ?_
           refine az fun K hK => ?_
           go_simp
           refine hK.out _ _ (by with_reducible exact sfBSGJ2) fun hH6 => ?_
           clear hK K hH5
           try simp only [pu]
           refine tk 15 12 hH6 ?_
           refine dn ?_ _
           rotate_left 1
           refine an 11 fun K hK => ?_
           go_simp
           refine hK.out _ _ (by with_reducible exact sfBSJ) fun hH7 => ?_
           clear hK K hH2
           try simp only [pu]
           refine rdy [11] ?_
           refine an 10 fun K hK => ?_
           go_simp
           refine hK.out _ _ (by with_reducible exact sfBSJG) fun hH8 => ?_
           clear hK K hH7
           try simp only [pu]
           refine rdy [13] ?_
           refine az fun K hK => ?_
           go_simp
           refine hK.out _ _ (by with_reducible exact sfBSJG1) fun hH9 => ?_
           clear hK K hH8
           try simp only [pu]
           refine rdy [14] ?_
           refine az fun K hK => ?_
           go_simp
           refine hK.out _ _ (by with_reducible exact sfBSJG2) fun hH10 => ?_
           clear hK K hH9
           try simp only [pu]
           refine tk 15 12 hH10 ?_
           refine dn ?_ _
           rotate_left 1
           refine ad 10 (fun K hK => ?_) ?_
           go_simp
           refine hK.out _ _ (by with_reducible exact sfBG) fun hH11 => ?_
           clear hK K hH1
           try simp only [pu]
           refine rdy [6, 12] ?_
           refine ad 97 (fun K hK => ?_) ?_
           go_simp; (
            (with_reducible refine (ks _).mono ?_)
            rintro e wBGS ⟨ua, ub, rfl, t2⟩
            obtain ⟨A1, n1, rfl, _, _⟩ := own_form t2.own
            obtain ⟨A2, n2, rfl, _, _⟩ := own_form t2.tail.own
            have yBGS := (yB.alloc 29 #[.int .i64 0, .slice none 0 0, .slice none 0 0]).join t2
            have ltG := (yBGS.tail.tail).blk.lt
            have neG : ¬ (wBGS.heap.size = wB.heap.size) := Nat.ne_of_gt ltG
            have sfBGS := hS _ (yBGS.tail.tail.tail.tail.tail).blk (yBGS.tail.tail.tail.tail.tail.tail).blk
            have qBGSJ0 := (yBGS.alloc 23 #[.string ⟨#[]⟩, .int .i64 0, .int .i64 0])
            have sfBGSJ := hS _ (qBGSJ0.tail.tail.tail.tail.tail.tail).blk (qBGSJ0.tail.tail.tail.tail.tail.tail.tail).blk
            clear qBGSJ0
            have qBGSJ1 := (((((yBGS.pk [2, 0, 1, 3, 4, 5, 6]).set_ 0 (.int .i64 i')).set_ 1 (.slice A1 C'.length n1)).set_ 2 (.slice A2 T'.length n2)).alloc 23 #[.string ⟨#[]⟩, .int .i64 0, .int .i64 0])
            have sfBGSJ1 := hS _ (qBGSJ1.tail.tail.tail.tail.tail.tail).blk (qBGSJ1.tail.tail.tail.tail.tail.tail.tail).blk
            clear qBGSJ1
            have qBGSJ2 := (((((yBGS.pk [2, 0, 1, 3, 4, 5, 6]).set_ 0 (.int .i64 i')).set_ 1 (.slice A1 C'.length n1)).set_ 2 (.slice A2 T'.length n2)).alloc 23 #[.string ⟨seed'.toArray⟩, .int .i64 h', .int .i64 n'])
            have sfBGSJ2 := hS _ (qBGSJ2.tail.tail.tail.tail.tail.tail).blk (qBGSJ2.tail.tail.tail.tail.tail.tail.tail).blk
            clear qBGSJ2
            obtain ⟨_, _, _, _, _, _⟩ := bk3 yBGS.tail.tail.blk); go_wp2_with fail
           refine hK.out _ _ (by with_reducible exact sfBGS) fun hH12 => ?_
           clear hK K hH11
           try simp only [pu]
           refine tk 7 90 hH12 ?_
           refine tk 8 98 hH12 ?_
           refine tk 9 99 hH12 ?_
           refine tk 10 100 hH12 ?_
           refine rdy [12] ?_
           refine an 11 fun K hK => ?_
           go_simp
           refine hK.out _ _ (by with_reducible exact sfBGSJ) fun hH13 => ?_
           clear hK K hH12
           try simp only [pu]
           refine rdy [13] ?_
           refine az fun K hK => ?_
           go_simp
           refine hK.out _ _ (by with_reducible exact sfBGSJ1) fun hH14 => ?_
           clear hK K hH13
           try simp only [pu]
           refine rdy [14] ?_
           refine az fun K hK => ?_
           go_simp
           refine hK.out _ _ (by with_reducible exact sfBGSJ2) fun hH15 => ?_
           clear hK K hH14
           try simp only [pu]
           refine tk 15 12 hH15 ?_
           refine dn ?_ _
           rotate_left 1
           refine an 11 fun K hK => ?_
           go_simp
           refine hK.out _ _ (by with_reducible exact sfBGJ) fun hH16 => ?_
           clear hK K hH11
           try simp only [pu]
           refine rdy [6] ?_
           refine an 97 fun K hK => ?_
           go_simp; (
            (with_reducible refine (ks _).mono ?_)
            rintro e wBGJS ⟨ua, ub, rfl, t2⟩
            obtain ⟨A1, n1, rfl, _, _⟩ := own_form t2.own
            obtain ⟨A2, n2, rfl, _, _⟩ := own_form t2.tail.own
            have yBGJS := ((yB.alloc 29 #[.int .i64 0, .slice none 0 0, .slice none 0 0]).alloc 23 #[.string ⟨#[]⟩, .int .i64 0, .int .i64 0]).join t2
            try simp only [World.size_alloc] at yBGJS
            have ltG := (yBGJS.tail.tail.tail).blk.lt
            have neG : ¬ (wBGJS.heap.size = wB.heap.size) := Nat.ne_of_gt ltG
            have ltJ := (yBGJS.tail.tail).blk.lt
            have neJ : ¬ (wBGJS.heap.size = wB.heap.size + 1) := Nat.ne_of_gt ltJ
            have ltGJ : wB.heap.size < wB.heap.size + 1 := by first | exact ((yB.alloc 29 #[.int .i64 0, .slice none 0 0, .slice none 0 0])).blk.lt | (have := ((yB.alloc 29 #[.int .i64 0, .slice none 0 0, .slice none 0 0])).blk.lt; simp only [World.size_alloc] at this; exact this) | (have := ((yB.alloc 29 #[.int .i64 0, .slice none 0 0, .slice none 0 0])).blk.lt; simp only [World.size_drew, World.size_alloc] at this; exact this)
            have neGJ : ¬ (wB.heap.size = wB.heap.size + 1) := Nat.ne_of_lt ltGJ
            have neJG : ¬ (wB.heap.size + 1 = wB.heap.size) := Nat.ne_of_gt ltGJ
            have sfBGJS := hS _ (yBGJS.tail.tail.tail.tail.tail.tail).blk (yBGJS.tail.tail.tail.tail.tail.tail.tail).blk
            have qBGJS1 := ((((yBGJS.pk [3, 0, 1, 2, 4, 5, 6, 7]).set_ 0 (.int .i64 i')).set_ 1 (.slice A1 C'.length n1)).set_ 2 (.slice A2 T'.length n2))
            have sfBGJS1 := hS _ (qBGJS1.tail.tail.tail.tail.tail.tail).blk (qBGJS1.tail.tail.tail.tail.tail.tail.tail).blk
            clear qBGJS1
            have qBGJS2 := ((((((((yBGJS.pk [3, 0, 1, 2, 4, 5, 6, 7]).set_ 0 (.int .i64 i')).set_ 1 (.slice A1 C'.length n1)).set_ 2 (.slice A2 T'.length n2)).pk [3, 0, 1, 2, 4, 5, 6, 7]).set_ 0 (.string ⟨seed'.toArray⟩)).set_ 1 (.int .i64 h')).set_ 2 (.int .i64 n'))
            have sfBGJS2 := hS _ (qBGJS2.tail.tail.tail.tail.tail.tail).blk (qBGJS2.tail.tail.tail.tail.tail.tail.tail).blk
            clear qBGJS2
            obtain ⟨_, _, _, _, _, _⟩ := bk3 yBGJS.tail.tail.tail.blk
            obtain ⟨_, _, _, _, _, _⟩ := bk3 yBGJS.tail.tail.blk); go_wp2_with fail
           refine hK.out _ _ (by with_reducible exact sfBGJS) fun hH17 => ?_
           clear hK K hH16
           try simp only [pu]
           refine tk 7 90 hH17 ?_
           refine tk 8 98 hH17 ?_
           refine tk 9 99 hH17 ?_
           refine tk 10 100 hH17 ?_
           refine rdy [13] ?_
           refine az fun K hK => ?_
           go_simp
           refine hK.out _ _ (by with_reducible exact sfBGJS1) fun hH18 => ?_
           clear hK K hH17
           try simp only [pu]
           refine rdy [14] ?_
           refine az fun K hK => ?_
           go_simp
           refine hK.out _ _ (by with_reducible exact sfBGJS2) fun hH19 => ?_
           clear hK K hH18
           try simp only [pu]
           refine tk 15 12 hH19 ?_
           refine dn ?_ _
           rotate_left 1
           refine an 11 fun K hK => ?_
           go_simp
           refine hK.out _ _ (by with_reducible exact sfBJ) fun hH20 => ?_
           clear hK K hH1
           try simp only [pu]
           refine rdy [6, 11] ?_
           refine ad 97 (fun K hK => ?_) ?_
           go_simp; (
            (with_reducible refine (ks _).mono ?_)
            rintro e wBJS ⟨ua, ub, rfl, t2⟩
            obtain ⟨A1, n1, rfl, _, _⟩ := own_form t2.own
            obtain ⟨A2, n2, rfl, _, _⟩ := own_form t2.tail.own
            have yBJS := (yB.alloc 23 #[.string ⟨#[]⟩, .int .i64 0, .int .i64 0]).join t2
            have ltJ := (yBJS.tail.tail).blk.lt
            have neJ : ¬ (wBJS.heap.size = wB.heap.size) := Nat.ne_of_gt ltJ
            have sfBJS := hS _ (yBJS.tail.tail.tail.tail.tail).blk (yBJS.tail.tail.tail.tail.tail.tail).blk
            have qBJSG0 := (yBJS.alloc 29 #[.int .i64 0, .slice none 0 0, .slice none 0 0])
            have sfBJSG := hS _ (qBJSG0.tail.tail.tail.tail.tail.tail).blk (qBJSG0.tail.tail.tail.tail.tail.tail.tail).blk
            clear qBJSG0
            have qBJSG1 := (yBJS.alloc 29 #[.int .i64 i', .slice A1 C'.length n1, .slice A2 T'.length n2])
            have sfBJSG1 := hS _ (qBJSG1.tail.tail.tail.tail.tail.tail).blk (qBJSG1.tail.tail.tail.tail.tail.tail.tail).blk
            clear qBJSG1
            have qBJSG2 := (((((yBJS.pk [2, 0, 1, 3, 4, 5, 6]).set_ 0 (.string ⟨seed'.toArray⟩)).set_ 1 (.int .i64 h')).set_ 2 (.int .i64 n')).alloc 29 #[.int .i64 i', .slice A1 C'.length n1, .slice A2 T'.length n2])
            have sfBJSG2 := hS _ (qBJSG2.tail.tail.tail.tail.tail.tail).blk (qBJSG2.tail.tail.tail.tail.tail.tail.tail).blk
            clear qBJSG2
            obtain ⟨_, _, _, _, _, _⟩ := bk3 yBJS.tail.tail.blk); go_wp2_with fail
           refine hK.out _ _ (by with_reducible exact sfBJS) fun hH21 => ?_
           clear hK K hH20
           try simp only [pu]
           refine tk 7 90 hH21 ?_
           refine tk 8 98 hH21 ?_
           refine tk 9 99 hH21 ?_
           refine tk 10 100 hH21 ?_
           refine rdy [11] ?_
           refine an 10 fun K hK => ?_
           go_simp
           refine hK.out _ _ (by with_reducible exact sfBJSG) fun hH22 => ?_
           clear hK K hH21
           try simp only [pu]
           refine rdy [13] ?_
           refine az fun K hK => ?_
           go_simp
           refine hK.out _ _ (by with_reducible exact sfBJSG1) fun hH23 => ?_
           clear hK K hH22
           try simp only [pu]
           refine rdy [14] ?_
           refine az fun K hK => ?_
           go_simp
           refine hK.out _ _ (by with_reducible exact sfBJSG2) fun hH24 => ?_
           clear hK K hH23
           try simp only [pu]
           refine tk 15 12 hH24 ?_
           refine dn ?_ _
           rotate_left 1
           refine an 10 fun K hK => ?_
           go_simp
           refine hK.out _ _ (by with_reducible exact sfBJG) fun hH25 => ?_
           clear hK K hH20
           try simp only [pu]
           refine rdy [6] ?_
           refine an 97 fun K hK => ?_
           go_simp; (
            (with_reducible refine (ks _).mono ?_)
            rintro e wBJGS ⟨ua, ub, rfl, t2⟩
            obtain ⟨A1, n1, rfl, _, _⟩ := own_form t2.own
            obtain ⟨A2, n2, rfl, _, _⟩ := own_form t2.tail.own
            have yBJGS := ((yB.alloc 23 #[.string ⟨#[]⟩, .int .i64 0, .int .i64 0]).alloc 29 #[.int .i64 0, .slice none 0 0, .slice none 0 0]).join t2
            try simp only [World.size_alloc] at yBJGS
            have ltG := (yBJGS.tail.tail).blk.lt
            have neG : ¬ (wBJGS.heap.size = wB.heap.size + 1) := Nat.ne_of_gt ltG
            have ltJ := (yBJGS.tail.tail.tail).blk.lt
            have neJ : ¬ (wBJGS.heap.size = wB.heap.size) := Nat.ne_of_gt ltJ
            have ltJG : wB.heap.size < wB.heap.size + 1 := by first | exact ((yB.alloc 23 #[.string ⟨#[]⟩, .int .i64 0, .int .i64 0])).blk.lt | (have := ((yB.alloc 23 #[.string ⟨#[]⟩, .int .i64 0, .int .i64 0])).blk.lt; simp only [World.size_alloc] at this; exact this) | (have := ((yB.alloc 23 #[.string ⟨#[]⟩, .int .i64 0, .int .i64 0])).blk.lt; simp only [World.size_drew, World.size_alloc] at this; exact this)
            have neJG : ¬ (wB.heap.size = wB.heap.size + 1) := Nat.ne_of_lt ltJG
            have neGJ : ¬ (wB.heap.size + 1 = wB.heap.size) := Nat.ne_of_gt ltJG
            have sfBJGS := hS _ (yBJGS.tail.tail.tail.tail.tail.tail).blk (yBJGS.tail.tail.tail.tail.tail.tail.tail).blk
            have qBJGS1 := ((((yBJGS.pk [2, 0, 1, 3, 4, 5, 6, 7]).set_ 0 (.int .i64 i')).set_ 1 (.slice A1 C'.length n1)).set_ 2 (.slice A2 T'.length n2))
            have sfBJGS1 := hS _ (qBJGS1.tail.tail.tail.tail.tail.tail).blk (qBJGS1.tail.tail.tail.tail.tail.tail.tail).blk
            clear qBJGS1
            have qBJGS2 := ((((((((yBJGS.pk [2, 0, 1, 3, 4, 5, 6, 7]).set_ 0 (.int .i64 i')).set_ 1 (.slice A1 C'.length n1)).set_ 2 (.slice A2 T'.length n2)).pk [3, 0, 1, 2, 4, 5, 6, 7]).set_ 0 (.string ⟨seed'.toArray⟩)).set_ 1 (.int .i64 h')).set_ 2 (.int .i64 n'))
            have sfBJGS2 := hS _ (qBJGS2.tail.tail.tail.tail.tail.tail).blk (qBJGS2.tail.tail.tail.tail.tail.tail.tail).blk
            clear qBJGS2
            obtain ⟨_, _, _, _, _, _⟩ := bk3 yBJGS.tail.tail.tail.blk
            obtain ⟨_, _, _, _, _, _⟩ := bk3 yBJGS.tail.tail.blk); go_wp2_with fail
           refine hK.out _ _ (by with_reducible exact sfBJGS) fun hH26 => ?_
           clear hK K hH25
           try simp only [pu]
           refine tk 7 90 hH26 ?_
           refine tk 8 98 hH26 ?_
           refine tk 9 99 hH26 ?_
           refine tk 10 100 hH26 ?_
           refine rdy [13] ?_
           refine az fun K hK => ?_
           go_simp
           refine hK.out _ _ (by with_reducible exact sfBJGS1) fun hH27 => ?_
           clear hK K hH26
           try simp only [pu]
           refine rdy [14] ?_
           refine az fun K hK => ?_
           go_simp
           refine hK.out _ _ (by with_reducible exact sfBJGS2) fun hH28 => ?_
           clear hK K hH27
           try simp only [pu]
           refine tk 15 12 hH28 ?_
           refine dn ?_ _
           rotate_left 1
           refine ad 10 (fun K hK => ?_) ?_
           go_simp
           refine hK.out _ _ (by with_reducible exact sfG) fun hH29 => ?_
           clear hK K hH0
           try simp only [pu]
           refine rdy [4, 12] ?_
           refine ad 95 (fun K hK => ?_) ?_
           go_simp; (
            (with_reducible refine (kb _).mono ?_)
            rintro e wGB ⟨rfl, bB⟩
            have yGB := (y2.alloc 29 #[.int .i64 0, .slice none 0 0, .slice none 0 0]).drew.under bB
            have sfGB := hS _ (yGB.tail.tail.tail).blk (yGB.tail.tail.tail.tail).blk
            have qGBJ0 := (yGB.alloc 23 #[.string ⟨#[]⟩, .int .i64 0, .int .i64 0])
            have sfGBJ := hS _ (qGBJ0.tail.tail.tail.tail).blk (qGBJ0.tail.tail.tail.tail.tail).blk
            clear qGBJ0); go_wp2_with fail
           refine hK.out _ _ (by with_reducible exact sfGB) fun hH30 => ?_
           clear hK K hH29
           try simp only [pu]
           refine tk 5 96 hH30 ?_
           refine rdy [6, 12] ?_
           refine ad 97 (fun K hK => ?_) ?_
           go_simp; (
            (with_reducible refine (ks _).mono ?_)
            rintro e wGBS ⟨ua, ub, rfl, t2⟩
            obtain ⟨A1, n1, rfl, _, _⟩ := own_form t2.own
            obtain ⟨A2, n2, rfl, _, _⟩ := own_form t2.tail.own
            have yGBS := yGB.join t2
            have ltG := (yGBS.tail.tail).blk.lt
            have neG : ¬ (wGBS.heap.size = w2.heap.size) := Nat.ne_of_gt ltG
            have sfGBS := hS _ (yGBS.tail.tail.tail.tail.tail).blk (yGBS.tail.tail.tail.tail.tail.tail).blk
            have qGBSJ0 := (yGBS.alloc 23 #[.string ⟨#[]⟩, .int .i64 0, .int .i64 0])
            have sfGBSJ := hS _ (qGBSJ0.tail.tail.tail.tail.tail.tail).blk (qGBSJ0.tail.tail.tail.tail.tail.tail.tail).blk
            clear qGBSJ0
            have qGBSJ1 := (((((yGBS.pk [2, 0, 1, 3, 4, 5, 6]).set_ 0 (.int .i64 i')).set_ 1 (.slice A1 C'.length n1)).set_ 2 (.slice A2 T'.length n2)).alloc 23 #[.string ⟨#[]⟩, .int .i64 0, .int .i64 0])
            have sfGBSJ1 := hS _ (qGBSJ1.tail.tail.tail.tail.tail.tail).blk (qGBSJ1.tail.tail.tail.tail.tail.tail.tail).blk
            clear qGBSJ1
            have qGBSJ2 := (((((yGBS.pk [2, 0, 1, 3, 4, 5, 6]).set_ 0 (.int .i64 i')).set_ 1 (.slice A1 C'.length n1)).set_ 2 (.slice A2 T'.length n2)).alloc 23 #[.string ⟨seed'.toArray⟩, .int .i64 h', .int .i64 n'])
            have sfGBSJ2 := hS _ (qGBSJ2.tail.tail.tail.tail.tail.tail).blk (qGBSJ2.tail.tail.tail.tail.tail.tail.tail).blk
            clear qGBSJ2
            obtain ⟨_, _, _, _, _, _⟩ := bk3 yGBS.tail.tail.blk); go_wp2_with fail
           refine hK.out _ _ (by with_reducible exact sfGBS) fun hH31 => ?_
           clear hK K hH30
           try simp only [pu]
           refine tk 7 90 hH31 ?_
           refine tk 8 98 hH31 ?_
           refine tk 9 99 hH31 ?_
           refine tk 10 100 hH31 ?_
           refine rdy [12] ?_
           refine an 11 fun K hK => ?_
           go_simp
           refine hK.out _ _ (by with_reducible exact sfGBSJ) fun hH32 => ?_
           clear hK K hH31
           try simp only [pu]
           refine rdy [13] ?_
           refine az fun K hK => ?_
           go_simp
           refine hK.out _ _ (by with_reducible exact sfGBSJ1) fun hH33 => ?_
           clear hK K hH32
           try simp only [pu]
           refine rdy [14] ?_
           refine az fun K hK => ?_
           go_simp
           refine hK.out _ _ (by with_reducible exact sfGBSJ2) fun hH34 => ?_
           clear hK K hH33
           try simp only [pu]
           refine tk 15 12 hH34 ?_
           refine dn ?_ _
           rotate_left 1
           refine an 11 fun K hK => ?_
           go_simp
           refine hK.out _ _ (by with_reducible exact sfGBJ) fun hH35 => ?_
           clear hK K hH30
           try simp only [pu]
           refine rdy [6] ?_
           refine an 97 fun K hK => ?_
           go_simp; (
            (with_reducible refine (ks _).mono ?_)
            rintro e wGBJS ⟨ua, ub, rfl, t2⟩
            obtain ⟨A1, n1, rfl, _, _⟩ := own_form t2.own
            obtain ⟨A2, n2, rfl, _, _⟩ := own_form t2.tail.own
            have yGBJS := (yGB.alloc 23 #[.string ⟨#[]⟩, .int .i64 0, .int .i64 0]).join t2
            try simp only [World.size_alloc] at yGBJS
            have ltG := (yGBJS.tail.tail.tail).blk.lt
            have neG : ¬ (wGBJS.heap.size = w2.heap.size) := Nat.ne_of_gt ltG
            have ltJ := (yGBJS.tail.tail).blk.lt
            have neJ : ¬ (wGBJS.heap.size = wGB.heap.size) := Nat.ne_of_gt ltJ
            have ltGJ : w2.heap.size < wGB.heap.size := by first | exact (yGB).blk.lt | (have := (yGB).blk.lt; simp only [World.size_alloc] at this; exact this) | (have := (yGB).blk.lt; simp only [World.size_drew, World.size_alloc] at this; exact this)
            have neGJ : ¬ (w2.heap.size = wGB.heap.size) := Nat.ne_of_lt ltGJ
            have neJG : ¬ (wGB.heap.size = w2.heap.size) := Nat.ne_of_gt ltGJ
            have sfGBJS := hS _ (yGBJS.tail.tail.tail.tail.tail.tail).blk (yGBJS.tail.tail.tail.tail.tail.tail.tail).blk
            have qGBJS1 := ((((yGBJS.pk [3, 0, 1, 2, 4, 5, 6, 7]).set_ 0 (.int .i64 i')).set_ 1 (.slice A1 C'.length n1)).set_ 2 (.slice A2 T'.length n2))
            have sfGBJS1 := hS _ (qGBJS1.tail.tail.tail.tail.tail.tail).blk (qGBJS1.tail.tail.tail.tail.tail.tail.tail).blk
            clear qGBJS1
            have qGBJS2 := ((((((((yGBJS.pk [3, 0, 1, 2, 4, 5, 6, 7]).set_ 0 (.int .i64 i')).set_ 1 (.slice A1 C'.length n1)).set_ 2 (.slice A2 T'.length n2)).pk [3, 0, 1, 2, 4, 5, 6, 7]).set_ 0 (.string ⟨seed'.toArray⟩)).set_ 1 (.int .i64 h')).set_ 2 (.int .i64 n'))
            have sfGBJS2 := hS _ (qGBJS2.tail.tail.tail.tail.tail.tail).blk (qGBJS2.tail.tail.tail.tail.tail.tail.tail).blk
            clear qGBJS2
            obtain ⟨_, _, _, _, _, _⟩ := bk3 yGBJS.tail.tail.tail.blk
            obtain ⟨_, _, _, _, _, _⟩ := bk3 yGBJS.tail.tail.blk); go_wp2_with fail
           refine hK.out _ _ (by with_reducible exact sfGBJS) fun hH36 => ?_
           clear hK K hH35
           try simp only [pu]
           refine tk 7 90 hH36 ?_
           refine tk 8 98 hH36 ?_
           refine tk 9 99 hH36 ?_
           refine tk 10 100 hH36 ?_
           refine rdy [13] ?_
           refine az fun K hK => ?_
           go_simp
           refine hK.out _ _ (by with_reducible exact sfGBJS1) fun hH37 => ?_
           clear hK K hH36
           try simp only [pu]
           refine rdy [14] ?_
           refine az fun K hK => ?_
           go_simp
           refine hK.out _ _ (by with_reducible exact sfGBJS2) fun hH38 => ?_
           clear hK K hH37
           try simp only [pu]
           refine tk 15 12 hH38 ?_
           refine dn ?_ _
           rotate_left 1
           refine an 11 fun K hK => ?_
           go_simp
           refine hK.out _ _ (by with_reducible exact sfGJ) fun hH39 => ?_
           clear hK K hH29
           try simp only [pu]
           refine rdy [4] ?_
           refine an 95 fun K hK => ?_
           go_simp; (
            (with_reducible refine (kb _).mono ?_)
            rintro e wGJB ⟨rfl, bB⟩
            have yGJB := ((y2.alloc 29 #[.int .i64 0, .slice none 0 0, .slice none 0 0]).alloc 23 #[.string ⟨#[]⟩, .int .i64 0, .int .i64 0]).drew.under bB
            try simp only [World.size_alloc] at yGJB
            have sfGJB := hS _ (yGJB.tail.tail.tail.tail).blk (yGJB.tail.tail.tail.tail.tail).blk); go_wp2_with fail
           refine hK.out _ _ (by with_reducible exact sfGJB) fun hH40 => ?_
           clear hK K hH39
           try simp only [pu]
           refine tk 5 96 hH40 ?_
           refine rdy [6] ?_
           refine an 97 fun K hK => ?_
           go_simp; (
            (with_reducible refine (ks _).mono ?_)
            rintro e wGJBS ⟨ua, ub, rfl, t2⟩
            obtain ⟨A1, n1, rfl, _, _⟩ := own_form t2.own
            obtain ⟨A2, n2, rfl, _, _⟩ := own_form t2.tail.own
            have yGJBS := yGJB.join t2
            try simp only [World.size_alloc] at yGJBS
            have ltG := (yGJBS.tail.tail.tail).blk.lt
            have neG : ¬ (wGJBS.heap.size = w2.heap.size) := Nat.ne_of_gt ltG
            have ltJ := (yGJBS.tail.tail).blk.lt
            have neJ : ¬ (wGJBS.heap.size = w2.heap.size + 1) := Nat.ne_of_gt ltJ
            have ltGJ : w2.heap.size < w2.heap.size + 1 := by first | exact ((y2.alloc 29 #[.int .i64 0, .slice none 0 0, .slice none 0 0]).drew).blk.lt | (have := ((y2.alloc 29 #[.int .i64 0, .slice none 0 0, .slice none 0 0]).drew).blk.lt; simp only [World.size_alloc] at this; exact this) | (have := ((y2.alloc 29 #[.int .i64 0, .slice none 0 0, .slice none 0 0]).drew).blk.lt; simp only [World.size_drew, World.size_alloc] at this; exact this)
            have neGJ : ¬ (w2.heap.size = w2.heap.size + 1) := Nat.ne_of_lt ltGJ
            have neJG : ¬ (w2.heap.size + 1 = w2.heap.size) := Nat.ne_of_gt ltGJ
            have sfGJBS := hS _ (yGJBS.tail.tail.tail.tail.tail.tail).blk (yGJBS.tail.tail.tail.tail.tail.tail.tail).blk
            have qGJBS1 := ((((yGJBS.pk [3, 0, 1, 2, 4, 5, 6, 7]).set_ 0 (.int .i64 i')).set_ 1 (.slice A1 C'.length n1)).set_ 2 (.slice A2 T'.length n2))
            have sfGJBS1 := hS _ (qGJBS1.tail.tail.tail.tail.tail.tail).blk (qGJBS1.tail.tail.tail.tail.tail.tail.tail).blk
            clear qGJBS1
            have qGJBS2 := ((((((((yGJBS.pk [3, 0, 1, 2, 4, 5, 6, 7]).set_ 0 (.int .i64 i')).set_ 1 (.slice A1 C'.length n1)).set_ 2 (.slice A2 T'.length n2)).pk [3, 0, 1, 2, 4, 5, 6, 7]).set_ 0 (.string ⟨seed'.toArray⟩)).set_ 1 (.int .i64 h')).set_ 2 (.int .i64 n'))
            have sfGJBS2 := hS _ (qGJBS2.tail.tail.tail.tail.tail.tail).blk (qGJBS2.tail.tail.tail.tail.tail.tail.tail).blk
            clear qGJBS2
            obtain ⟨_, _, _, _, _, _⟩ := bk3 yGJBS.tail.tail.tail.blk
            obtain ⟨_, _, _, _, _, _⟩ := bk3 yGJBS.tail.tail.blk); go_wp2_with fail
           refine hK.out _ _ (by with_reducible exact sfGJBS) fun hH41 => ?_
           clear hK K hH40
           try simp only [pu]
           refine tk 7 90 hH41 ?_
           refine tk 8 98 hH41 ?_
           refine tk 9 99 hH41 ?_
           refine tk 10 100 hH41 ?_
           refine rdy [13] ?_
           refine az fun K hK => ?_
           go_simp
           refine hK.out _ _ (by with_reducible exact sfGJBS1) fun hH42 => ?_
           clear hK K hH41
           try simp only [pu]
           refine rdy [14] ?_
           refine az fun K hK => ?_
           go_simp
           refine hK.out _ _ (by with_reducible exact sfGJBS2) fun hH43 => ?_
           clear hK K hH42
           try simp only [pu]
           refine tk 15 12 hH43 ?_
           refine dn ?_ _
           rotate_left 1
           refine an 11 fun K hK => ?_
           go_simp
           refine hK.out _ _ (by with_reducible exact sfJ) fun hH44 => ?_
           clear hK K hH0
           try simp only [pu]
           refine rdy [4, 11] ?_
           refine ad 95 (fun K hK => ?_) ?_
           go_simp; (
            (with_reducible refine (kb _).mono ?_)
            rintro e wJB ⟨rfl, bB⟩
            have yJB := (y2.alloc 23 #[.string ⟨#[]⟩, .int .i64 0, .int .i64 0]).drew.under bB
            have sfJB := hS _ (yJB.tail.tail.tail).blk (yJB.tail.tail.tail.tail).blk
            have qJBG0 := (yJB.alloc 29 #[.int .i64 0, .slice none 0 0, .slice none 0 0])
            have sfJBG := hS _ (qJBG0.tail.tail.tail.tail).blk (qJBG0.tail.tail.tail.tail.tail).blk
            clear qJBG0); go_wp2_with fail
           refine hK.out _ _ (by with_reducible exact sfJB) fun hH45 => ?_
           clear hK K hH44
           try simp only [pu]
           refine tk 5 96 hH45 ?_
           refine rdy [6, 11] ?_
           refine ad 97 (fun K hK => ?_) ?_
           go_simp; (
            (with_reducible refine (ks _).mono ?_)
            rintro e wJBS ⟨ua, ub, rfl, t2⟩
            obtain ⟨A1, n1, rfl, _, _⟩ := own_form t2.own
            obtain ⟨A2, n2, rfl, _, _⟩ := own_form t2.tail.own
            have yJBS := yJB.join t2
            have ltJ := (yJBS.tail.tail).blk.lt
            have neJ : ¬ (wJBS.heap.size = w2.heap.size) := Nat.ne_of_gt ltJ
            have sfJBS := hS _ (yJBS.tail.tail.tail.tail.tail).blk (yJBS.tail.tail.tail.tail.tail.tail).blk
            have qJBSG0 := (yJBS.alloc 29 #[.int .i64 0, .slice none 0 0, .slice none 0 0])
            have sfJBSG := hS _ (qJBSG0.tail.tail.tail.tail.tail.tail).blk (qJBSG0.tail.tail.tail.tail.tail.tail.tail).blk
            clear qJBSG0
            have qJBSG1 := (yJBS.alloc 29 #[.int .i64 i', .slice A1 C'.length n1, .slice A2 T'.length n2])
            have sfJBSG1 := hS _ (qJBSG1.tail.tail.tail.tail.tail.tail).blk (qJBSG1.tail.tail.tail.tail.tail.tail.tail).blk
            clear qJBSG1
            have qJBSG2 := (((((yJBS.pk [2, 0, 1, 3, 4, 5, 6]).set_ 0 (.string ⟨seed'.toArray⟩)).set_ 1 (.int .i64 h')).set_ 2 (.int .i64 n')).alloc 29 #[.int .i64 i', .slice A1 C'.length n1, .slice A2 T'.length n2])
            have sfJBSG2 := hS _ (qJBSG2.tail.tail.tail.tail.tail.tail).blk (qJBSG2.tail.tail.tail.tail.tail.tail.tail).blk
            clear qJBSG2
            obtain ⟨_, _, _, _, _, _⟩ := bk3 yJBS.tail.tail.blk); go_wp2_with fail
           refine hK.out _ _ (by with_reducible exact sfJBS) fun hH46 => ?_
           clear hK K hH45
           try simp only [pu]
           refine tk 7 90 hH46 ?_
           refine tk 8 98 hH46 ?_
           refine tk 9 99 hH46 ?_
           refine tk 10 100 hH46 ?_
           refine rdy [11] ?_
           refine an 10 fun K hK => ?_
           go_simp
           refine hK.out _ _ (by with_reducible exact sfJBSG) fun hH47 => ?_
           clear hK K hH46
           try simp only [pu]
           refine rdy [13] ?_
           refine az fun K hK => ?_
           go_simp
           refine hK.out _ _ (by with_reducible exact sfJBSG1) fun hH48 => ?_
           clear hK K hH47
           try simp only [pu]
           refine rdy [14] ?_
           refine az fun K hK => ?_
           go_simp
           refine hK.out _ _ (by with_reducible exact sfJBSG2) fun hH49 => ?_
           clear hK K hH48
           try simp only [pu]
           refine tk 15 12 hH49 ?_
           refine dn ?_ _
           rotate_left 1
           refine an 10 fun K hK => ?_
           go_simp
           refine hK.out _ _ (by with_reducible exact sfJBG) fun hH50 => ?_
           clear hK K hH45
           try simp only [pu]
           refine rdy [6] ?_
           refine an 97 fun K hK => ?_
           go_simp; (
            (with_reducible refine (ks _).mono ?_)
            rintro e wJBGS ⟨ua, ub, rfl, t2⟩
            obtain ⟨A1, n1, rfl, _, _⟩ := own_form t2.own
            obtain ⟨A2, n2, rfl, _, _⟩ := own_form t2.tail.own
            have yJBGS := (yJB.alloc 29 #[.int .i64 0, .slice none 0 0, .slice none 0 0]).join t2
            try simp only [World.size_alloc] at yJBGS
            have ltG := (yJBGS.tail.tail).blk.lt
            have neG : ¬ (wJBGS.heap.size = wJB.heap.size) := Nat.ne_of_gt ltG
            have ltJ := (yJBGS.tail.tail.tail).blk.lt
            have neJ : ¬ (wJBGS.heap.size = w2.heap.size) := Nat.ne_of_gt ltJ
            have ltJG : w2.heap.size < wJB.heap.size := by first | exact (yJB).blk.lt | (have := (yJB).blk.lt; simp only [World.size_alloc] at this; exact this) | (have := (yJB).blk.lt; simp only [World.size_drew, World.size_alloc] at this; exact this)
            have neJG : ¬ (w2.heap.size = wJB.heap.size) := Nat.ne_of_lt ltJG
            have neGJ : ¬ (wJB.heap.size = w2.heap.size) := Nat.ne_of_gt ltJG
            have sfJBGS := hS _ (yJBGS.tail.tail.tail.tail.tail.tail).blk (yJBGS.tail.tail.tail.tail.tail.tail.tail).blk
            have qJBGS1 := ((((yJBGS.pk [2, 0, 1, 3, 4, 5, 6, 7]).set_ 0 (.int .i64 i')).set_ 1 (.slice A1 C'.length n1)).set_ 2 (.slice A2 T'.length n2))
            have sfJBGS1 := hS _ (qJBGS1.tail.tail.tail.tail.tail.tail).blk (qJBGS1.tail.tail.tail.tail.tail.tail.tail).blk
            clear qJBGS1
            have qJBGS2 := ((((((((yJBGS.pk [2, 0, 1, 3, 4, 5, 6, 7]).set_ 0 (.int .i64 i')).set_ 1 (.slice A1 C'.length n1)).set_ 2 (.slice A2 T'.length n2)).pk [3, 0, 1, 2, 4, 5, 6, 7]).set_ 0 (.string ⟨seed'.toArray⟩)).set_ 1 (.int .i64 h')).set_ 2 (.int .i64 n'))
            have sfJBGS2 := hS _ (qJBGS2.tail.tail.tail.tail.tail.tail).blk (qJBGS2.tail.tail.tail.tail.tail.tail.tail).blk
            clear qJBGS2
            obtain ⟨_, _, _, _, _, _⟩ := bk3 yJBGS.tail.tail.tail.blk
            obtain ⟨_, _, _, _, _, _⟩ := bk3 yJBGS.tail.tail.blk); go_wp2_with fail
           refine hK.out _ _ (by with_reducible exact sfJBGS) fun hH51 => ?_
           clear hK K hH50
           try simp only [pu]
           refine tk 7 90 hH51 ?_
           refine tk 8 98 hH51 ?_
           refine tk 9 99 hH51 ?_
           refine tk 10 100 hH51 ?_
           refine rdy [13] ?_
           refine az fun K hK => ?_
           go_simp
           refine hK.out _ _ (by with_reducible exact sfJBGS1) fun hH52 => ?_
           clear hK K hH51
           try simp only [pu]
           refine rdy [14] ?_
           refine az fun K hK => ?_
           go_simp
           refine hK.out _ _ (by with_reducible exact sfJBGS2) fun hH53 => ?_
           clear hK K hH52
           try simp only [pu]
           refine tk 15 12 hH53 ?_
           refine dn ?_ _
           rotate_left 1
           refine an 10 fun K hK => ?_
           go_simp
           refine hK.out _ _ (by with_reducible exact sfJG) fun hH54 => ?_
           clear hK K hH44
           try simp only [pu]
           refine rdy [4] ?_
           refine an 95 fun K hK => ?_
           go_simp; (
            (with_reducible refine (kb _).mono ?_)
            rintro e wJGB ⟨rfl, bB⟩
            have yJGB := ((y2.alloc 23 #[.string ⟨#[]⟩, .int .i64 0, .int .i64 0]).alloc 29 #[.int .i64 0, .slice none 0 0, .slice none 0 0]).drew.under bB
            try simp only [World.size_alloc] at yJGB
            have sfJGB := hS _ (yJGB.tail.tail.tail.tail).blk (yJGB.tail.tail.tail.tail.tail).blk); go_wp2_with fail
           refine hK.out _ _ (by with_reducible exact sfJGB) fun hH55 => ?_
           clear hK K hH54
           try simp only [pu]
           refine tk 5 96 hH55 ?_
           refine rdy [6] ?_
           refine an 97 fun K hK => ?_
           go_simp; (
            (with_reducible refine (ks _).mono ?_)
            rintro e wJGBS ⟨ua, ub, rfl, t2⟩
            obtain ⟨A1, n1, rfl, _, _⟩ := own_form t2.own
            obtain ⟨A2, n2, rfl, _, _⟩ := own_form t2.tail.own
            have yJGBS := yJGB.join t2
            try simp only [World.size_alloc] at yJGBS
            have ltG := (yJGBS.tail.tail).blk.lt
            have neG : ¬ (wJGBS.heap.size = w2.heap.size + 1) := Nat.ne_of_gt ltG
            have ltJ := (yJGBS.tail.tail.tail).blk.lt
            have neJ : ¬ (wJGBS.heap.size = w2.heap.size) := Nat.ne_of_gt ltJ
            have ltJG : w2.heap.size < w2.heap.size + 1 := by first | exact ((y2.alloc 23 #[.string ⟨#[]⟩, .int .i64 0, .int .i64 0]).drew).blk.lt | (have := ((y2.alloc 23 #[.string ⟨#[]⟩, .int .i64 0, .int .i64 0]).drew).blk.lt; simp only [World.size_alloc] at this; exact this) | (have := ((y2.alloc 23 #[.string ⟨#[]⟩, .int .i64 0, .int .i64 0]).drew).blk.lt; simp only [World.size_drew, World.size_alloc] at this; exact this)
            have neJG : ¬ (w2.heap.size = w2.heap.size + 1) := Nat.ne_of_lt ltJG
            have neGJ : ¬ (w2.heap.size + 1 = w2.heap.size) := Nat.ne_of_gt ltJG
            have sfJGBS := hS _ (yJGBS.tail.tail.tail.tail.tail.tail).blk (yJGBS.tail.tail.tail.tail.tail.tail.tail).blk
            have qJGBS1 := ((((yJGBS.pk [2, 0, 1, 3, 4, 5, 6, 7]).set_ 0 (.int .i64 i')).set_ 1 (.slice A1 C'.length n1)).set_ 2 (.slice A2 T'.length n2))
            have sfJGBS1 := hS _ (qJGBS1.tail.tail.tail.tail.tail.tail).blk (qJGBS1.tail.tail.tail.tail.tail.tail.tail).blk
            clear qJGBS1
            have qJGBS2 := ((((((((yJGBS.pk [2, 0, 1, 3, 4, 5, 6, 7]).set_ 0 (.int .i64 i')).set_ 1 (.slice A1 C'.length n1)).set_ 2 (.slice A2 T'.length n2)).pk [3, 0, 1, 2, 4, 5, 6, 7]).set_ 0 (.string ⟨seed'.toArray⟩)).set_ 1 (.int .i64 h')).set_ 2 (.int .i64 n'))
            have sfJGBS2 := hS _ (qJGBS2.tail.tail.tail.tail.tail.tail).blk (qJGBS2.tail.tail.tail.tail.tail.tail.tail).blk
            clear qJGBS2
            obtain ⟨_, _, _, _, _, _⟩ := bk3 yJGBS.tail.tail.tail.blk
            obtain ⟨_, _, _, _, _, _⟩ := bk3 yJGBS.tail.tail.blk); go_wp2_with fail
           refine hK.out _ _ (by with_reducible exact sfJGBS) fun hH56 => ?_
           clear hK K hH55
           try simp only [pu]
           refine tk 7 90 hH56 ?_
           refine tk 8 98 hH56 ?_
           refine tk 9 99 hH56 ?_
           refine tk 10 100 hH56 ?_
           refine rdy [13] ?_
           refine az fun K hK => ?_
           go_simp
           refine hK.out _ _ (by with_reducible exact sfJGBS1) fun hH57 => ?_
           clear hK K hH56
           try simp only [pu]
           refine rdy [14] ?_
           refine az fun K hK => ?_
           go_simp
           refine hK.out _ _ (by with_reducible exact sfJGBS2) fun hH58 => ?_
           clear hK K hH57
           try simp only [pu]
           refine tk 15 12 hH58 ?_
           refine dn ?_ _
           all_goals (refine NoPanic.normal ?_)
           all_goals
            first
             | (have yF := ((yBS.alloc 29 #[.int .i64 i', .slice A1 C'.length n1, .slice A2 T'.length n2]).alloc 23 #[.string ⟨seed'.toArray⟩, .int .i64 h', .int .i64 n']).pk [1, 0, 2, 3, 4, 5, 6, 7]
                try simp only [ws] at yF
                obtain ⟨pJ, hpJ⟩ : ∃ q, wBS.heap.size + 1 = q := ⟨_, rfl⟩
                rw [hpJ] at yF ⊢
                obtain ⟨pG, hpG⟩ : ∃ q, wBS.heap.size = q := ⟨_, rfl⟩
                rw [hpG] at yF ⊢
                exact ⟨rfl, pG, pJ, A1, A2, n1, n2, rfl, yF⟩)
             | (have yF := ((yBS.alloc 23 #[.string ⟨seed'.toArray⟩, .int .i64 h', .int .i64 n']).alloc 29 #[.int .i64 i', .slice A1 C'.length n1, .slice A2 T'.length n2]).pk [0, 1, 2, 3, 4, 5, 6, 7]
                try simp only [ws] at yF
                obtain ⟨pG, hpG⟩ : ∃ q, wBS.heap.size + 1 = q := ⟨_, rfl⟩
                rw [hpG] at yF ⊢
                obtain ⟨pJ, hpJ⟩ : ∃ q, wBS.heap.size = q := ⟨_, rfl⟩
                rw [hpJ] at yF ⊢
                exact ⟨rfl, pG, pJ, A1, A2, n1, n2, rfl, yF⟩)
             | (have yF := (((((yBGS.pk [2, 0, 1, 3, 4, 5, 6]).set_ 0 (.int .i64 i')).set_ 1 (.slice A1 C'.length n1)).set_ 2 (.slice A2 T'.length n2)).alloc 23 #[.string ⟨seed'.toArray⟩, .int .i64 h', .int .i64 n']).pk [1, 0, 2, 3, 4, 5, 6, 7]
                try simp only [ws] at yF
                obtain ⟨pJ, hpJ⟩ : ∃ q, wBGS.heap.size = q := ⟨_, rfl⟩
                rw [hpJ] at yF ⊢
                obtain ⟨pG, hpG⟩ : ∃ q, wB.heap.size = q := ⟨_, rfl⟩
                rw [hpG] at yF ⊢
                exact ⟨rfl, pG, pJ, A1, A2, n1, n2, rfl, yF⟩)
             | (have yF := ((((((((yBGJS.pk [3, 0, 1, 2, 4, 5, 6, 7]).set_ 0 (.int .i64 i')).set_ 1 (.slice A1 C'.length n1)).set_ 2 (.slice A2 T'.length n2)).pk [3, 0, 1, 2, 4, 5, 6, 7]).set_ 0 (.string ⟨seed'.toArray⟩)).set_ 1 (.int .i64 h')).set_ 2 (.int .i64 n')).pk [1, 0, 2, 3, 4, 5, 6, 7]
                try simp only [ws] at yF
                obtain ⟨pJ, hpJ⟩ : ∃ q, wB.heap.size + 1 = q := ⟨_, rfl⟩
                rw [hpJ] at yF ⊢
                obtain ⟨pG, hpG⟩ : ∃ q, wB.heap.size = q := ⟨_, rfl⟩
                rw [hpG] at yF ⊢
                exact ⟨rfl, pG, pJ, A1, A2, n1, n2, rfl, yF⟩)
             | (have yF := (((((yBJS.pk [2, 0, 1, 3, 4, 5, 6]).set_ 0 (.string ⟨seed'.toArray⟩)).set_ 1 (.int .i64 h')).set_ 2 (.int .i64 n')).alloc 29 #[.int .i64 i', .slice A1 C'.length n1, .slice A2 T'.length n2]).pk [0, 1, 2, 3, 4, 5, 6, 7]
                try simp only [ws] at yF
                obtain ⟨pG, hpG⟩ : ∃ q, wBJS.heap.size = q := ⟨_, rfl⟩
                rw [hpG] at yF ⊢
                obtain ⟨pJ, hpJ⟩ : ∃ q, wB.heap.size = q := ⟨_, rfl⟩
                rw [hpJ] at yF ⊢
                exact ⟨rfl, pG, pJ, A1, A2, n1, n2, rfl, yF⟩)
             | (have yF := ((((((((yBJGS.pk [2, 0, 1, 3, 4, 5, 6, 7]).set_ 0 (.int .i64 i')).set_ 1 (.slice A1 C'.length n1)).set_ 2 (.slice A2 T'.length n2)).pk [3, 0, 1, 2, 4, 5, 6, 7]).set_ 0 (.string ⟨seed'.toArray⟩)).set_ 1 (.int .i64 h')).set_ 2 (.int .i64 n')).pk [1, 0, 2, 3, 4, 5, 6, 7]
                try simp only [ws] at yF
                obtain ⟨pG, hpG⟩ : ∃ q, wB.heap.size + 1 = q := ⟨_, rfl⟩
                rw [hpG] at yF ⊢
                obtain ⟨pJ, hpJ⟩ : ∃ q, wB.heap.size = q := ⟨_, rfl⟩
                rw [hpJ] at yF ⊢
                exact ⟨rfl, pG, pJ, A1, A2, n1, n2, rfl, yF⟩)
             | (have yF := (((((yGBS.pk [2, 0, 1, 3, 4, 5, 6]).set_ 0 (.int .i64 i')).set_ 1 (.slice A1 C'.length n1)).set_ 2 (.slice A2 T'.length n2)).alloc 23 #[.string ⟨seed'.toArray⟩, .int .i64 h', .int .i64 n']).pk [1, 0, 2, 3, 4, 5, 6, 7]
                try simp only [ws] at yF
                obtain ⟨pJ, hpJ⟩ : ∃ q, wGBS.heap.size = q := ⟨_, rfl⟩
                rw [hpJ] at yF ⊢
                obtain ⟨pG, hpG⟩ : ∃ q, w2.heap.size = q := ⟨_, rfl⟩
                rw [hpG] at yF ⊢
                exact ⟨rfl, pG, pJ, A1, A2, n1, n2, rfl, yF⟩)
             | (have yF := ((((((((yGBJS.pk [3, 0, 1, 2, 4, 5, 6, 7]).set_ 0 (.int .i64 i')).set_ 1 (.slice A1 C'.length n1)).set_ 2 (.slice A2 T'.length n2)).pk [3, 0, 1, 2, 4, 5, 6, 7]).set_ 0 (.string ⟨seed'.toArray⟩)).set_ 1 (.int .i64 h')).set_ 2 (.int .i64 n')).pk [1, 0, 2, 3, 4, 5, 6, 7]
                try simp only [ws] at yF
                obtain ⟨pJ, hpJ⟩ : ∃ q, wGB.heap.size = q := ⟨_, rfl⟩
                rw [hpJ] at yF ⊢
                obtain ⟨pG, hpG⟩ : ∃ q, w2.heap.size = q := ⟨_, rfl⟩
                rw [hpG] at yF ⊢
                exact ⟨rfl, pG, pJ, A1, A2, n1, n2, rfl, yF⟩)
             | (have yF := ((((((((yGJBS.pk [3, 0, 1, 2, 4, 5, 6, 7]).set_ 0 (.int .i64 i')).set_ 1 (.slice A1 C'.length n1)).set_ 2 (.slice A2 T'.length n2)).pk [3, 0, 1, 2, 4, 5, 6, 7]).set_ 0 (.string ⟨seed'.toArray⟩)).set_ 1 (.int .i64 h')).set_ 2 (.int .i64 n')).pk [1, 0, 2, 3, 4, 5, 6, 7]
                try simp only [ws] at yF
                obtain ⟨pJ, hpJ⟩ : ∃ q, w2.heap.size + 1 = q := ⟨_, rfl⟩
                rw [hpJ] at yF ⊢
                obtain ⟨pG, hpG⟩ : ∃ q, w2.heap.size = q := ⟨_, rfl⟩
                rw [hpG] at yF ⊢
                exact ⟨rfl, pG, pJ, A1, A2, n1, n2, rfl, yF⟩)
             | (have yF := (((((yJBS.pk [2, 0, 1, 3, 4, 5, 6]).set_ 0 (.string ⟨seed'.toArray⟩)).set_ 1 (.int .i64 h')).set_ 2 (.int .i64 n')).alloc 29 #[.int .i64 i', .slice A1 C'.length n1, .slice A2 T'.length n2]).pk [0, 1, 2, 3, 4, 5, 6, 7]
                try simp only [ws] at yF
                obtain ⟨pG, hpG⟩ : ∃ q, wJBS.heap.size = q := ⟨_, rfl⟩
                rw [hpG] at yF ⊢
                obtain ⟨pJ, hpJ⟩ : ∃ q, w2.heap.size = q := ⟨_, rfl⟩
                rw [hpJ] at yF ⊢
                exact ⟨rfl, pG, pJ, A1, A2, n1, n2, rfl, yF⟩)
             | (have yF := ((((((((yJBGS.pk [2, 0, 1, 3, 4, 5, 6, 7]).set_ 0 (.int .i64 i')).set_ 1 (.slice A1 C'.length n1)).set_ 2 (.slice A2 T'.length n2)).pk [3, 0, 1, 2, 4, 5, 6, 7]).set_ 0 (.string ⟨seed'.toArray⟩)).set_ 1 (.int .i64 h')).set_ 2 (.int .i64 n')).pk [1, 0, 2, 3, 4, 5, 6, 7]
                try simp only [ws] at yF
                obtain ⟨pG, hpG⟩ : ∃ q, wJB.heap.size = q := ⟨_, rfl⟩
                rw [hpG] at yF ⊢
                obtain ⟨pJ, hpJ⟩ : ∃ q, w2.heap.size = q := ⟨_, rfl⟩
                rw [hpJ] at yF ⊢
                exact ⟨rfl, pG, pJ, A1, A2, n1, n2, rfl, yF⟩)
             | (have yF := ((((((((yJGBS.pk [2, 0, 1, 3, 4, 5, 6, 7]).set_ 0 (.int .i64 i')).set_ 1 (.slice A1 C'.length n1)).set_ 2 (.slice A2 T'.length n2)).pk [3, 0, 1, 2, 4, 5, 6, 7]).set_ 0 (.string ⟨seed'.toArray⟩)).set_ 1 (.int .i64 h')).set_ 2 (.int .i64 n')).pk [1, 0, 2, 3, 4, 5, 6, 7]
                try simp only [ws] at yF
                obtain ⟨pG, hpG⟩ : ∃ q, w2.heap.size + 1 = q := ⟨_, rfl⟩
                rw [hpG] at yF ⊢
                obtain ⟨pJ, hpJ⟩ : ∃ q, w2.heap.size = q := ⟨_, rfl⟩
                rw [hpJ] at yF ⊢
                exact ⟨rfl, pG, pJ, A1, A2, n1, n2, rfl, yF⟩)
          case k =>
           rintro pG pJ A1 A2 n1 n2 w6 y6
           clear kb ks y2 hS
           by_cases her : er = 0
           ·subst her
            have hres := HR.out
            rw [if_pos rfl] at hres
            have y7 := y6.pk [4, 5, 6, 7, 0, 1, 2, 3]
            have vk2 := y7.tail.tail.tail.blk.cell 2
            have vk3 := y7.tail.tail.tail.blk.cell 3
            have vk4 := y7.tail.tail.tail.blk.cell 4
            clear y6
            go_wp2_with fail
            refine (kp _).mono ?_
            rintro e w8 ⟨rfl, b8⟩
            have y8 := y7.under b8
            clear kp b8
            have ltp := y8.tail.tail.tail.tail.tail.blk.lt
            have yA := y8.pk [3, 0, 1, 2, 4, 5, 6, 7]
            clear y7 y8 vk2 vk3 vk4
            go_wp2_with fail
            apply region_same (fun w' => St w.heap.size w w' [cellsR (w.heap.size) 37 #[.string ⟨ow.toArray⟩, .string ⟨key.toArray⟩, .string ⟨seed'.toArray⟩, .int .i64 h', .int .i64 n', .string ⟨o.toArray⟩, .int .i64 z, .string ⟨r.toArray⟩], cellsR (w.heap.size + 1 + 1 + 1) 64 #[.string ⟨#[]⟩, .int .i64 0, .slice none 0 0, .slice none 0 0], cellsR (w.heap.size + 1 + 1) 37 #[.string ⟨#[]⟩, .string ⟨#[]⟩, .string ⟨#[]⟩, .int .i64 0, .int .i64 0, .string ⟨#[]⟩, .int .i64 0, .string ⟨#[]⟩], cellsR (w.heap.size + 1) 32 #[.string ⟨o.toArray⟩, .int .i64 z, .string ⟨r.toArray⟩, .int .i64 i, .slice A C.length a, .slice B T.length b, .slice X L.length c], cellsR (pG) 29 #[.int .i64 i', .slice A1 C'.length n1, .slice A2 T'.length n2], cellsR (pJ) 23 #[.string ⟨seed'.toArray⟩, .int .i64 h', .int .i64 n'], ownR 9 1 (.slice A1 C'.length n1) C'.length (strs C'), ownR 9 1 (.slice A2 T'.length n2) T'.length (strs T')])
            case h =>
             have hT : ∀ W' (R0 R1 R2 R3 R4 R5 : Res), St w.heap.size w W' [R0, R1, R2, cellsR (w.heap.size + 1) 32 #[.string ⟨o.toArray⟩, .int .i64 z, .string ⟨r.toArray⟩, .int .i64 i, .slice A C.length a, .slice B T.length b, .slice X L.length c], R3, cellsR (pJ) 23 #[.string ⟨seed'.toArray⟩, .int .i64 h', .int .i64 n'], R4, R5] → (W'.cell? ⟨w.heap.size + 1, 0, none⟩ = some (.string ⟨o.toArray⟩) ∧ W'.cell? ⟨w.heap.size + 1, 1, none⟩ = some (.int .i64 z) ∧ W'.cell? ⟨w.heap.size + 1, 2, none⟩ = some (.string ⟨r.toArray⟩) ∧ W'.cell? ⟨pJ, 0, none⟩ = some (.string ⟨seed'.toArray⟩) ∧ W'.cell? ⟨pJ, 1, none⟩ = some (.int .i64 h') ∧ W'.cell? ⟨pJ, 2, none⟩ = some (.int .i64 n')) := fun W' R0 R1 R2 R3 R4 R5 hh => ⟨hh.tail.tail.tail.blk.cell 0, hh.tail.tail.tail.blk.cell 1, hh.tail.tail.tail.blk.cell 2, hh.tail.tail.tail.tail.tail.blk.cell 0, hh.tail.tail.tail.tail.tail.blk.cell 1, hh.tail.tail.tail.tail.tail.blk.cell 2⟩
             have s0 := hT _ _ _ _ _ _ _ yA.drew
             have zA := (((yA.set_ 2 (.string ⟨seed'.toArray⟩)).set_ 3 (.int .i64 h')).set_ 4 (.int .i64 n'))
             have zAB := ((((((yA.set_ 2 (.string ⟨seed'.toArray⟩)).set_ 3 (.int .i64 h')).set_ 4 (.int .i64 n')).set_ 5 (.string ⟨o.toArray⟩)).set_ 6 (.int .i64 z)).set_ 7 (.string ⟨r.toArray⟩))
             have s1 := hT _ _ _ _ _ _ _ zA.drew
             have s3 := hT _ _ _ _ _ _ _ zAB.drew
             have wc2 := yA.blk.cell 2
             have wc3 := yA.blk.cell 3
             have wc4 := yA.blk.cell 4
             have wc5 := yA.blk.cell 5
             have wc6 := yA.blk.cell 6
             have wc7 := yA.blk.cell 7
             have wf2 := yA.blk.frozen 2
             have wf3 := yA.blk.frozen 3
             have wf4 := yA.blk.frozen 4
             have wf5 := yA.blk.frozen 5
             have wf6 := yA.blk.frozen 6
             have wf7 := yA.blk.frozen 7
             refine wp_region_noPanic ?_
             refine wp_region_held_drew (S := (fun W' => W'.cell? ⟨w.heap.size + 1, 0, none⟩ = some (.string ⟨o.toArray⟩) ∧ W'.cell? ⟨w.heap.size + 1, 1, none⟩ = some (.int .i64 z) ∧ W'.cell? ⟨w.heap.size + 1, 2, none⟩ = some (.string ⟨r.toArray⟩) ∧ W'.cell? ⟨pJ, 0, none⟩ = some (.string ⟨seed'.toArray⟩) ∧ W'.cell? ⟨pJ, 1, none⟩ = some (.int .i64 h') ∧ W'.cell? ⟨pJ, 2, none⟩ = some (.int .i64 n'))) (by kernel_rfl) ?_ (fun hH0 => ?_)
             ·with_reducible exact s0
             refine tk 0 115 hH0 ?_
             refine tk 1 116 hH0 ?_
             refine tk 2 117 hH0 ?_
             refine tk 3 118 hH0 ?_
             refine rdy [4] ?_
             refine az fun K hK => ?_
             go_simp
             refine hK.out _ _ (by with_reducible exact s1) fun hH1 => ?_
             clear hK K hH0
             try simp only [pu]
             refine tk 5 119 hH1 ?_
             refine rdy [6] ?_
             refine az fun K hK => ?_
             go_simp
             refine hK.out _ _ (by with_reducible exact s3) fun hH2 => ?_
             clear hK K hH1
             try simp only [pu]
             refine dn ?_ _
             all_goals (refine NoPanic.normal ?_)
             all_goals
              exact ⟨rfl, rfl, zAB.drew⟩
            case k =>
             rintro w9 y9
             subst hres
             have yB := y9.pk [2, 1, 0, 4, 3, 5, 6, 7]
             clear yA y9
             go_wp2_with fail
             apply region_same (fun w' => St w.heap.size w w' [cellsR (w.heap.size + 1 + 1) 37 #[.string ⟨ow.toArray⟩, .string ⟨key.toArray⟩, .string ⟨seed'.toArray⟩, .int .i64 h', .int .i64 n', .string ⟨o.toArray⟩, .int .i64 z, .string ⟨r.toArray⟩], cellsR (w.heap.size + 1 + 1 + 1) 64 #[.string ⟨pub.toArray⟩, .int .i64 i', .slice A1 C'.length n1, .slice A2 T'.length n2], cellsR (w.heap.size) 37 #[.string ⟨ow.toArray⟩, .string ⟨key.toArray⟩, .string ⟨seed'.toArray⟩, .int .i64 h', .int .i64 n', .string ⟨o.toArray⟩, .int .i64 z, .string ⟨r.toArray⟩], cellsR (pG) 29 #[.int .i64 i', .slice A1 C'.length n1, .slice A2 T'.length n2], cellsR (w.heap.size + 1) 32 #[.string ⟨o.toArray⟩, .int .i64 z, .string ⟨r.toArray⟩, .int .i64 i, .slice A C.length a, .slice B T.length b, .slice X L.length c], cellsR (pJ) 23 #[.string ⟨seed'.toArray⟩, .int .i64 h', .int .i64 n'], ownR 9 1 (.slice A1 C'.length n1) C'.length (strs C'), ownR 9 1 (.slice A2 T'.length n2) T'.length (strs T')])
             case h =>
              have hT : ∀ W' (R0 R1 R4 R5 R6 R7 : Res), St w.heap.size w W' [R0, R1, cellsR (w.heap.size) 37 #[.string ⟨ow.toArray⟩, .string ⟨key.toArray⟩, .string ⟨seed'.toArray⟩, .int .i64 h', .int .i64 n', .string ⟨o.toArray⟩, .int .i64 z, .string ⟨r.toArray⟩], cellsR (pG) 29 #[.int .i64 i', .slice A1 C'.length n1, .slice A2 T'.length n2], R4, R5, R6, R7] → (W'.cell? ⟨w.heap.size, 0, none⟩ = some (.string ⟨ow.toArray⟩) ∧ W'.cell? ⟨w.heap.size, 1, none⟩ = some (.string ⟨key.toArray⟩) ∧ W'.cell? ⟨w.heap.size, 2, none⟩ = some (.string ⟨seed'.toArray⟩) ∧ W'.cell? ⟨w.heap.size, 3, none⟩ = some (.int .i64 h') ∧ W'.cell? ⟨w.heap.size, 4, none⟩ = some (.int .i64 n') ∧ W'.cell? ⟨w.heap.size, 5, none⟩ = some (.string ⟨o.toArray⟩) ∧ W'.cell? ⟨w.heap.size, 6, none⟩ = some (.int .i64 z) ∧ W'.cell? ⟨w.heap.size, 7, none⟩ = some (.string ⟨r.toArray⟩) ∧ W'.cell? ⟨pG, 0, none⟩ = some (.int .i64 i') ∧ W'.cell? ⟨pG, 1, none⟩ = some (.slice A1 C'.length n1) ∧ W'.cell? ⟨pG, 2, none⟩ = some (.slice A2 T'.length n2)) := fun W' R0 R1 R4 R5 R6 R7 hh => ⟨hh.tail.tail.blk.cell 0, hh.tail.tail.blk.cell 1, hh.tail.tail.blk.cell 2, hh.tail.tail.blk.cell 3, hh.tail.tail.blk.cell 4, hh.tail.tail.blk.cell 5, hh.tail.tail.blk.cell 6, hh.tail.tail.blk.cell 7, hh.tail.tail.tail.blk.cell 0, hh.tail.tail.tail.blk.cell 1, hh.tail.tail.tail.blk.cell 2⟩
              have s0 := hT _ _ _ _ _ _ _ yB.drew
              have zA := ((((((((yB.set_ 0 (.string ⟨ow.toArray⟩)).set_ 1 (.string ⟨key.toArray⟩)).set_ 2 (.string ⟨seed'.toArray⟩)).set_ 3 (.int .i64 h')).set_ 4 (.int .i64 n')).set_ 5 (.string ⟨o.toArray⟩)).set_ 6 (.int .i64 z)).set_ 7 (.string ⟨r.toArray⟩))
              have zAB := ((((((((((((((yB.set_ 0 (.string ⟨ow.toArray⟩)).set_ 1 (.string ⟨key.toArray⟩)).set_ 2 (.string ⟨seed'.toArray⟩)).set_ 3 (.int .i64 h')).set_ 4 (.int .i64 n')).set_ 5 (.string ⟨o.toArray⟩)).set_ 6 (.int .i64 z)).set_ 7 (.string ⟨r.toArray⟩))).swap.set_ 0 (.string ⟨pub.toArray⟩)).set_ 1 (.int .i64 i')).set_ 2 (.slice A1 C'.length n1)).set_ 3 (.slice A2 T'.length n2))).swap
              have s1 := hT _ _ _ _ _ _ _ zA.drew
              have s3 := hT _ _ _ _ _ _ _ zAB.drew
              have wc0 := yB.blk.cell 0
              have wc1 := yB.blk.cell 1
              have wc2 := yB.blk.cell 2
              have wc3 := yB.blk.cell 3
              have wc4 := yB.blk.cell 4
              have wc5 := yB.blk.cell 5
              have wc6 := yB.blk.cell 6
              have wc7 := yB.blk.cell 7
              have wf0 := yB.blk.frozen 0
              have wf1 := yB.blk.frozen 1
              have wf2 := yB.blk.frozen 2
              have wf3 := yB.blk.frozen 3
              have wf4 := yB.blk.frozen 4
              have wf5 := yB.blk.frozen 5
              have wf6 := yB.blk.frozen 6
              have wf7 := yB.blk.frozen 7
              have oc0 := yB.tail.blk.cell 0
              have oc1 := yB.tail.blk.cell 1
              have oc2 := yB.tail.blk.cell 2
              have oc3 := yB.tail.blk.cell 3
              have of_0 := yB.tail.blk.frozen 0
              have of_1 := yB.tail.blk.frozen 1
              have of_2 := yB.tail.blk.frozen 2
              have of_3 := yB.tail.blk.frozen 3
              refine wp_region_noPanic ?_
              refine wp_region_held_drew (S := (fun W' => W'.cell? ⟨w.heap.size, 0, none⟩ = some (.string ⟨ow.toArray⟩) ∧ W'.cell? ⟨w.heap.size, 1, none⟩ = some (.string ⟨key.toArray⟩) ∧ W'.cell? ⟨w.heap.size, 2, none⟩ = some (.string ⟨seed'.toArray⟩) ∧ W'.cell? ⟨w.heap.size, 3, none⟩ = some (.int .i64 h') ∧ W'.cell? ⟨w.heap.size, 4, none⟩ = some (.int .i64 n') ∧ W'.cell? ⟨w.heap.size, 5, none⟩ = some (.string ⟨o.toArray⟩) ∧ W'.cell? ⟨w.heap.size, 6, none⟩ = some (.int .i64 z) ∧ W'.cell? ⟨w.heap.size, 7, none⟩ = some (.string ⟨r.toArray⟩) ∧ W'.cell? ⟨pG, 0, none⟩ = some (.int .i64 i') ∧ W'.cell? ⟨pG, 1, none⟩ = some (.slice A1 C'.length n1) ∧ W'.cell? ⟨pG, 2, none⟩ = some (.slice A2 T'.length n2))) (by kernel_rfl) ?_ (fun hH0 => ?_)
              ·with_reducible exact s0
              refine tk 0 120 hH0 ?_
              refine tk 1 121 hH0 ?_
              refine tk 2 122 hH0 ?_
              refine tk 3 123 hH0 ?_
              refine rdy [4] ?_
              refine az fun K hK => ?_
              go_simp
              refine hK.out _ _ (by with_reducible exact s1) fun hH1 => ?_
              clear hK K hH0
              try simp only [pu]
              refine rdy [5] ?_
              refine az fun K hK => ?_
              go_simp
              refine hK.out _ _ (by with_reducible exact s3) fun hH2 => ?_
              clear hK K hH1
              try simp only [pu]
              refine tk 6 8 hH2 ?_
              refine dn ?_ _
              all_goals (refine NoPanic.normal ?_)
              all_goals
               exact ⟨rfl, rfl, zAB.drew⟩
             case k =>
              rintro w10 y10
              have YE := Lib.hid (y10.pk [1, 0, 6, 7])
              clear yB y10
              go_wp2
              refine bodyPost_ret (results_cct rfl _ _ _ _ _ _ _ _ _ _ _ _ rfl YE.out.tail.blk Tryz.underlying37 rfl size_wit rfl YE.out.blk Tryz.underlying64 rfl size_cos) rfl ?_
              exact ⟨_, _, rfl, YE.out.tail.tail⟩
           ·have hres := HR.out
            rw [if_neg her] at hres
            have her1 : ((er : Int) == 0) = false := beq_eq_false_iff_ne.2 her
            have her2 : ((er : Int) != 0) = true := by rw [bne, her1]; rfl
            have y7 := y6.pk [4, 5, 6, 7]
            clear y6 kp
            subst hres
            go_wp2_with fail
            refine (kf (er) _).mono ?_
            rintro e w8 ⟨rfl, bf⟩
            have yf := y7.under bf
            have oc0 := yf.blk.cell 0
            have oc1 := yf.blk.cell 1
            have oc2 := yf.blk.cell 2
            have oc3 := yf.blk.cell 3
            have of_0 := yf.blk.frozen 0
            have of_1 := yf.blk.frozen 1
            have of_2 := yf.blk.frozen 2
            have of_3 := yf.blk.frozen 3
            have wc0 := yf.tail.blk.cell 0
            have wc1 := yf.tail.blk.cell 1
            have wc2 := yf.tail.blk.cell 2
            have wc3 := yf.tail.blk.cell 3
            have wc4 := yf.tail.blk.cell 4
            have wc5 := yf.tail.blk.cell 5
            have wc6 := yf.tail.blk.cell 6
            have wc7 := yf.tail.blk.cell 7
            have wf0 := yf.tail.blk.frozen 0
            have wf1 := yf.tail.blk.frozen 1
            have wf2 := yf.tail.blk.frozen 2
            have wf3 := yf.tail.blk.frozen 3
            have wf4 := yf.tail.blk.frozen 4
            have wf5 := yf.tail.blk.frozen 5
            have wf6 := yf.tail.blk.frozen 6
            have wf7 := yf.tail.blk.frozen 7
            have YE := Lib.hid ((((((((((((((yf.swap.set_ 0 (.string ⟨#[]⟩)).set_ 1 (.string ⟨#[]⟩)).set_ 2 (.string ⟨#[]⟩)).set_ 3 (.int .i64 0)).set_ 4 (.int .i64 0)).set_ 5 (.string ⟨#[]⟩)).set_ 6 (.int .i64 0)).set_ 7 (.string ⟨#[]⟩)).swap).set_ 0 (.string ⟨#[]⟩)).set_ 1 (.int .i64 0)).set_ 2 (.slice none 0 0)).set_ 3 (.slice none 0 0)))
            clear yf bf kf 
            go_wp2
            refine bodyPost_ret (results_cct rfl _ _ _ _ _ _ _ _ _ _ _ _ rfl YE.out.tail.blk Tryz.underlying37 rfl size_wit rfl YE.out.blk Tryz.underlying64 rfl size_cos) rfl ?_
            exact obs_bad _ YE.out.below
end Go.Proofs.YtjjpdnpbhdcpbaaGreat
