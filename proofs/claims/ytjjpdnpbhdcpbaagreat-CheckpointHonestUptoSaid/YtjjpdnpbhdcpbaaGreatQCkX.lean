/-
  Checkpoints: evidence of two histories, in the program. Conditions: lists of at most 2^40 leaves.
-/
import Derived.Test.YtjjpdnpbhdcpbaaGreatQPe
namespace Go.Proofs.YtjjpdnpbhdcpbaaGreat
set_option linter.unusedVariables false
open Go.RowKit Go.Shelf
attribute [local go_sem] Oper.semAt_some
theorem size_ev : (Tryz.prog.info? 70).map (·.size) = some 16 := by kernel_rfl
def ckA (x : CkV) : Array Value := #[.string ⟨x.o.toArray⟩, .int .i64 x.z, .string ⟨x.r.toArray⟩, .int .i64 x.i, .slice x.A x.C.length x.a, .slice x.B x.T.length x.b, .slice x.X x.L.length x.c]
def evA (x y : CkV) (rt : Sg.Str) (pv : Value) : Array Value := #[.string ⟨x.o.toArray⟩, .int .i64 x.z, .string ⟨x.r.toArray⟩, .int .i64 x.i, .slice x.A x.C.length x.a, .slice x.B x.T.length x.b, .slice x.X x.L.length x.c, .string ⟨y.o.toArray⟩, .int .i64 y.z, .string ⟨y.r.toArray⟩, .int .i64 y.i, .slice y.A y.C.length y.a, .slice y.B y.T.length y.b, .slice y.X y.L.length y.c, .string ⟨rt.toArray⟩, pv]
def CmpP (x y : CkV) (q : (Sg.Str × List Sg.Str) × Bool) (w : World) (e : Ending) (w' : World) : Prop :=
 ∃ pv, e = .returned (.tuple #[.agg (evA (if q.2 = true then x else noCk) (if q.2 = true then y else noCk) q.1.1 pv), .bool q.2]) ∧ St w.heap.size w w' [ownR 9 1 pv q.1.2.length (strs q.1.2)]
theorem cmp_bad (x y : CkV) {w w' : World} (h : Below w.heap.size w w') : CmpP x y (([], []), false) w (.returned (.tuple #[.agg #[.string ⟨#[]⟩, .int .i64 0, .string ⟨#[]⟩, .int .i64 0, .slice none 0 0, .slice none 0 0, .slice none 0 0, .string ⟨#[]⟩, .int .i64 0, .string ⟨#[]⟩, .int .i64 0, .slice none 0 0, .slice none 0 0, .slice none 0 0, .string ⟨#[]⟩, .slice none 0 0], .bool false])) w' :=
 ⟨.slice none 0 0, rfl, ((St.nil w).under h).new_own (Below.refl _ _) (World.ownsRow_nil _ _ _ _)⟩
set_option maxRecDepth 20000 in
set_option maxHeartbeats 4000000 in
theorem compare_spec (x y : CkV) (Y : Option Addr) (L : List Sg.Str) (d : Nat) (w : World) (hP : Rd w Y (strs L)) (hl : L.length ≤ 1099511627776) (hd : L.length ≤ d) (hdm : d ≤ maxLen) :
 Calls Tryz.prog 38 #[.agg (ckA x), .agg (ckA y), .slice Y L.length d] w (CmpP x y (cmpR x.r x.z y.r y.z L) w) := by
 obtain ⟨o1, z1, r1, i1, A1, C1, a1, B1, T1, b1, X1, L1, c1⟩ := x
 obtain ⟨o2, z2, r2, i2, A2, C2, a2, B2, T2, b2, X2, L2, c2⟩ := y
 unfold ckA
 dsimp only
 obtain ⟨W0, hW0⟩ : ∃ W0, w.alloc (.cells #[.string ⟨o1.toArray⟩, .int .i64 z1, .string ⟨r1.toArray⟩, .int .i64 i1, .slice A1 C1.length a1, .slice B1 T1.length b1, .slice X1 L1.length c1] 32) = W0 := ⟨_, rfl⟩
 have hs0 : W0.heap.size = w.heap.size + 1 := by rw [← hW0]; simp
 obtain ⟨W1, hW1⟩ : ∃ W1, W0.alloc (.cells #[.string ⟨o2.toArray⟩, .int .i64 z2, .string ⟨r2.toArray⟩, .int .i64 i2, .slice A2 C2.length a2, .slice B2 T2.length b2, .slice X2 L2.length c2] 32) = W1 := ⟨_, rfl⟩
 have hs1 : W1.heap.size = w.heap.size + 1 + 1 := by rw [← hW1]; simp [hs0]
 obtain ⟨W, hW⟩ : ∃ W, W1.alloc (.cells #[.string ⟨#[]⟩, .int .i64 0, .string ⟨#[]⟩, .int .i64 0, .slice none 0 0, .slice none 0 0, .slice none 0 0, .string ⟨#[]⟩, .int .i64 0, .string ⟨#[]⟩, .int .i64 0, .slice none 0 0, .slice none 0 0, .slice none 0 0, .string ⟨#[]⟩, .slice none 0 0] 70) = W := ⟨_, rfl⟩
 have y0 : St w.heap.size w W [cellsR (w.heap.size + 1 + 1) 70 #[.string ⟨#[]⟩, .int .i64 0, .string ⟨#[]⟩, .int .i64 0, .slice none 0 0, .slice none 0 0, .slice none 0 0, .string ⟨#[]⟩, .int .i64 0, .string ⟨#[]⟩, .int .i64 0, .slice none 0 0, .slice none 0 0, .slice none 0 0, .string ⟨#[]⟩, .slice none 0 0], cellsR (w.heap.size + 1) 32 #[.string ⟨o2.toArray⟩, .int .i64 z2, .string ⟨r2.toArray⟩, .int .i64 i2, .slice A2 C2.length a2, .slice B2 T2.length b2, .slice X2 L2.length c2], cellsR w.heap.size 32 #[.string ⟨o1.toArray⟩, .int .i64 z1, .string ⟨r1.toArray⟩, .int .i64 i1, .slice A1 C1.length a1, .slice B1 T1.length b1, .slice X1 L1.length c1]] := by
  have := (((St.nil w).alloc 32 #[.string ⟨o1.toArray⟩, .int .i64 z1, .string ⟨r1.toArray⟩, .int .i64 i1, .slice A1 C1.length a1, .slice B1 T1.length b1, .slice X1 L1.length c1]).alloc 32 #[.string ⟨o2.toArray⟩, .int .i64 z2, .string ⟨r2.toArray⟩, .int .i64 i2, .slice A2 C2.length a2, .slice B2 T2.length b2, .slice X2 L2.length c2]).alloc 70 #[.string ⟨#[]⟩, .int .i64 0, .string ⟨#[]⟩, .int .i64 0, .slice none 0 0, .slice none 0 0, .slice none 0 0, .string ⟨#[]⟩, .int .i64 0, .string ⟨#[]⟩, .int .i64 0, .slice none 0 0, .slice none 0 0, .slice none 0 0, .string ⟨#[]⟩, .slice none 0 0]
  rw [hW0, hW1, hW, hs0, hs1] at this
  exact this
 obtain ⟨N, hN⟩ : ∃ N, L.length = N := ⟨_, rfl⟩
 have kR := fun W' (hb : Below w.heap.size w W') => root_mk Y L d W' (hP.below hb) hl hd hdm
 have kC := fun (k : Int) W' (hb : Below w.heap.size w W') => con_mk Y L d k W' (hP.below hb) hl hd hdm
 have kS := fun (k : Nat) W' (hb : Below w.heap.size w W') => root_mk Y (L.take k) d W' (rd_take (hP.below hb) k) (by rw [List.length_take]; omega) (by rw [List.length_take]; omega) hdm
 have hmg := mCon_good L
 unfold cmpR
 rw [hN] at kR kC hd hmg ⊢
 have p0 := y0.tail.tail.blk.cell 1
 have q0 := y0.tail.blk.cell 1
 have q2 := y0.tail.blk.cell 2
 by_cases e1 : z2 = (N : Int)
 ·rw [if_pos e1]
  subst e1
  by_cases e2 : 0 ≤ z1
  ·rw [if_pos e2]
   have e2' : ¬ (z1 < 0) := by omega
   obtain ⟨n, rfl⟩ : ∃ n : Nat, z1 = (n : Int) := ⟨z1.toNat, by omega⟩
   by_cases e3 : (n : Int) ≤ (N : Int)
   ·rw [if_pos e3]
    have e3' : ¬ ((N : Int) < (n : Int)) := by omega
    have e3n : n ≤ N := by omega
    have hlt : (L.take n).length = n := by rw [List.length_take, hN]; omega
    have kS := kS n
    have kC := kC (n : Int)
    have hmg := fun h => hmg (n : Int) h e2 e3
    rw [hlt] at kS
    rw [Int.toNat_natCast]
    have hnd : (n : Int) ≤ (d : Int) := by omega
    generalize mRoot (L.take n) = R1 at kS ⊢
    generalize hR : mRoot L = R at kR hmg ⊢
    have PP := Lib.hid (And.intro hP (And.intro hN hR))
    clear hP hR hlt
    by_cases e4 : R = []
    ·rw [if_pos e4]
     subst e4
     go_enter Tryz.func38, Tryz.ntmps38
     go_wp2_with fail
     refine (kR _ y0.below).mono ?_
     rintro e w1 ⟨rfl, b1⟩
     have y1 := y0.under b1
     clear kR b1 hW0 hW1 hW hs0 hs1 p0 q0 q2
     have q2 := y1.tail.blk.cell 2
     have ec0 := y1.blk.cell 0
     have ec1 := y1.blk.cell 1
     have ec2 := y1.blk.cell 2
     have ec3 := y1.blk.cell 3
     have ec4 := y1.blk.cell 4
     have ec5 := y1.blk.cell 5
     have ec6 := y1.blk.cell 6
     have ec7 := y1.blk.cell 7
     have ec8 := y1.blk.cell 8
     have ec9 := y1.blk.cell 9
     have ec10 := y1.blk.cell 10
     have ec11 := y1.blk.cell 11
     have ec12 := y1.blk.cell 12
     have ec13 := y1.blk.cell 13
     have ec14 := y1.blk.cell 14
     have ec15 := y1.blk.cell 15
     have ef0 := y1.blk.frozen 0
     have ef1 := y1.blk.frozen 1
     have ef2 := y1.blk.frozen 2
     have ef3 := y1.blk.frozen 3
     have ef4 := y1.blk.frozen 4
     have ef5 := y1.blk.frozen 5
     have ef6 := y1.blk.frozen 6
     have ef7 := y1.blk.frozen 7
     have ef8 := y1.blk.frozen 8
     have ef9 := y1.blk.frozen 9
     have ef10 := y1.blk.frozen 10
     have ef11 := y1.blk.frozen 11
     have ef12 := y1.blk.frozen 12
     have ef13 := y1.blk.frozen 13
     have ef14 := y1.blk.frozen 14
     have ef15 := y1.blk.frozen 15
     have YE := Lib.hid ((((((((((((((((y1.set_ 0 (.string ⟨#[]⟩)).set_ 1 (.int .i64 0)).set_ 2 (.string ⟨#[]⟩)).set_ 3 (.int .i64 0)).set_ 4 (.slice none 0 0)).set_ 5 (.slice none 0 0)).set_ 6 (.slice none 0 0)).set_ 7 (.string ⟨#[]⟩)).set_ 8 (.int .i64 0)).set_ 9 (.string ⟨#[]⟩)).set_ 10 (.int .i64 0)).set_ 11 (.slice none 0 0)).set_ 12 (.slice none 0 0)).set_ 13 (.slice none 0 0)).set_ 14 (.string ⟨#[]⟩)).set_ 15 (.slice none 0 0))
     clear y1 y0 kS kC hmg
     go_wp2
     refine bodyPost_ret (results_ct rfl _ _ _ _ _ _ _ rfl YE.out.blk Tryz.underlying70 rfl size_ev) rfl ?_
     exact cmp_bad _ _ YE.out.below
    ·rw [if_neg e4]
     have e4' : (R == []) = false := beq_eq_false_iff_ne.2 e4
     have hm2 := hmg e4
     by_cases e5 : R = r2
     ·rw [if_pos e5]
      subst e5
      have e5a : (R == R) = true := beq_self_eq_true R
      have e5b : (R != R) = false := by rw [bne, e5a]; rfl
      generalize mCon L (n : Int) = G at kC hm2 ⊢
      obtain ⟨G, ge⟩ := G
      dsimp only at hm2 ⊢
      subst hm2
      by_cases e6 : R1 = r1
      ·rw [if_pos e6]
       subst e6
       have e6a : (R1 == R1) = true := beq_self_eq_true R1
       go_enter Tryz.func38, Tryz.ntmps38
       go_wp2_with fail
       refine (kR _ y0.below).mono ?_
       rintro e w1 ⟨rfl, b1⟩
       have y1 := y0.under b1
       clear kR b1 hW0 hW1 hW hs0 hs1 p0 q0 q2
       have q2 := y1.tail.blk.cell 2
       clear y0
       go_wp2_with fail
       refine (kS _ y1.below).mono ?_
       rintro e w2 ⟨rfl, b2⟩
       have y2 := y1.under b2
       clear kS b2 q2 y1
       go_wp2_with fail
       refine (kC _ y2.below).mono ?_
       rintro e w3 ⟨pv, rfl, t3⟩
       have y3 := y2.join t3
       clear kC t3 y2
       have p2 := y3.tail.tail.tail.blk.cell 2
       have Y3 := y3.pk [1, 0, 2, 3]
       clear y3
       have ec0 := Y3.blk.cell 0
       have ec1 := Y3.blk.cell 1
       have ec2 := Y3.blk.cell 2
       have ec3 := Y3.blk.cell 3
       have ec4 := Y3.blk.cell 4
       have ec5 := Y3.blk.cell 5
       have ec6 := Y3.blk.cell 6
       have ec7 := Y3.blk.cell 7
       have ec8 := Y3.blk.cell 8
       have ec9 := Y3.blk.cell 9
       have ec10 := Y3.blk.cell 10
       have ec11 := Y3.blk.cell 11
       have ec12 := Y3.blk.cell 12
       have ec13 := Y3.blk.cell 13
       have ec14 := Y3.blk.cell 14
       have ec15 := Y3.blk.cell 15
       have ef0 := Y3.blk.frozen 0
       have ef1 := Y3.blk.frozen 1
       have ef2 := Y3.blk.frozen 2
       have ef3 := Y3.blk.frozen 3
       have ef4 := Y3.blk.frozen 4
       have ef5 := Y3.blk.frozen 5
       have ef6 := Y3.blk.frozen 6
       have ef7 := Y3.blk.frozen 7
       have ef8 := Y3.blk.frozen 8
       have ef9 := Y3.blk.frozen 9
       have ef10 := Y3.blk.frozen 10
       have ef11 := Y3.blk.frozen 11
       have ef12 := Y3.blk.frozen 12
       have ef13 := Y3.blk.frozen 13
       have ef14 := Y3.blk.frozen 14
       have ef15 := Y3.blk.frozen 15
       have YE := Lib.hid ((((((((((((((((Y3.set_ 0 (.string ⟨#[]⟩)).set_ 1 (.int .i64 0)).set_ 2 (.string ⟨#[]⟩)).set_ 3 (.int .i64 0)).set_ 4 (.slice none 0 0)).set_ 5 (.slice none 0 0)).set_ 6 (.slice none 0 0)).set_ 7 (.string ⟨#[]⟩)).set_ 8 (.int .i64 0)).set_ 9 (.string ⟨#[]⟩)).set_ 10 (.int .i64 0)).set_ 11 (.slice none 0 0)).set_ 12 (.slice none 0 0)).set_ 13 (.slice none 0 0)).set_ 14 (.string ⟨#[]⟩)).set_ 15 (.slice none 0 0))
       clear Y3
       go_wp2
       refine bodyPost_ret (results_ct rfl _ _ _ _ _ _ _ rfl YE.out.blk Tryz.underlying70 rfl size_ev) rfl ?_
       exact cmp_bad _ _ YE.out.below
      ·rw [if_neg e6]
       have e6a : (R1 == r1) = false := beq_eq_false_iff_ne.2 e6
       go_enter Tryz.func38, Tryz.ntmps38
       go_wp2_with fail
       refine (kR _ y0.below).mono ?_
       rintro e w1 ⟨rfl, b1⟩
       have y1 := y0.under b1
       clear kR b1 hW0 hW1 hW hs0 hs1 p0 q0 q2
       have q2 := y1.tail.blk.cell 2
       clear y0
       go_wp2_with fail
       refine (kS _ y1.below).mono ?_
       rintro e w2 ⟨rfl, b2⟩
       have y2 := y1.under b2
       clear kS b2 q2 y1
       go_wp2_with fail
       refine (kC _ y2.below).mono ?_
       rintro e w3 ⟨pv, rfl, t3⟩
       have y3 := y2.join t3
       clear kC t3 y2
       have p2 := y3.tail.tail.tail.blk.cell 2
       obtain ⟨Ap, np, rfl, _, _⟩ := own_form y3.own
       have Y3 := y3.pk [1, 0, 2, 3]
       clear y3
       have pa0 := Y3.tail.tail.tail.blk.cell 0
       have pa1 := Y3.tail.tail.tail.blk.cell 1
       have pa2 := Y3.tail.tail.tail.blk.cell 2
       have pa3 := Y3.tail.tail.tail.blk.cell 3
       have pa4 := Y3.tail.tail.tail.blk.cell 4
       have pa5 := Y3.tail.tail.tail.blk.cell 5
       have pa6 := Y3.tail.tail.tail.blk.cell 6
       have pb0 := Y3.tail.tail.blk.cell 0
       have pb1 := Y3.tail.tail.blk.cell 1
       have pb2 := Y3.tail.tail.blk.cell 2
       have pb3 := Y3.tail.tail.blk.cell 3
       have pb4 := Y3.tail.tail.blk.cell 4
       have pb5 := Y3.tail.tail.blk.cell 5
       have pb6 := Y3.tail.tail.blk.cell 6
       have ec0 := Y3.blk.cell 0
       have ec1 := Y3.blk.cell 1
       have ec2 := Y3.blk.cell 2
       have ec3 := Y3.blk.cell 3
       have ec4 := Y3.blk.cell 4
       have ec5 := Y3.blk.cell 5
       have ec6 := Y3.blk.cell 6
       have ec7 := Y3.blk.cell 7
       have ec8 := Y3.blk.cell 8
       have ec9 := Y3.blk.cell 9
       have ec10 := Y3.blk.cell 10
       have ec11 := Y3.blk.cell 11
       have ec12 := Y3.blk.cell 12
       have ec13 := Y3.blk.cell 13
       have ec14 := Y3.blk.cell 14
       have ec15 := Y3.blk.cell 15
       have ef0 := Y3.blk.frozen 0
       have ef1 := Y3.blk.frozen 1
       have ef2 := Y3.blk.frozen 2
       have ef3 := Y3.blk.frozen 3
       have ef4 := Y3.blk.frozen 4
       have ef5 := Y3.blk.frozen 5
       have ef6 := Y3.blk.frozen 6
       have ef7 := Y3.blk.frozen 7
       have ef8 := Y3.blk.frozen 8
       have ef9 := Y3.blk.frozen 9
       have ef10 := Y3.blk.frozen 10
       have ef11 := Y3.blk.frozen 11
       have ef12 := Y3.blk.frozen 12
       have ef13 := Y3.blk.frozen 13
       have ef14 := Y3.blk.frozen 14
       have ef15 := Y3.blk.frozen 15
       have Y9 := ((((((((((((((((Y3.set_ 0 (.string ⟨o1.toArray⟩)).set_ 1 (.int .i64 (n : Int))).set_ 2 (.string ⟨r1.toArray⟩)).set_ 3 (.int .i64 i1)).set_ 4 (.slice A1 C1.length a1)).set_ 5 (.slice B1 T1.length b1)).set_ 6 (.slice X1 L1.length c1)).set_ 7 (.string ⟨o2.toArray⟩)).set_ 8 (.int .i64 (N : Int))).set_ 9 (.string ⟨R.toArray⟩)).set_ 10 (.int .i64 i2)).set_ 11 (.slice A2 C2.length a2)).set_ 12 (.slice B2 T2.length b2)).set_ 13 (.slice X2 L2.length c2)).set_ 14 (.string ⟨R1.toArray⟩)).set_ 15 (.slice Ap G.length np))
       simp only [List.setIfInBounds_toArray, List.set_cons_zero, List.set_cons_succ] at Y9
       have YE := Lib.hid Y9
       clear Y3 Y9
       go_wp2
       refine bodyPost_ret (results_ct rfl _ _ _ _ _ _ _ rfl YE.out.blk Tryz.underlying70 rfl size_ev) rfl ?_
       exact ⟨_, rfl, YE.out.pk [1]⟩
     ·rw [if_neg e5]
      have e5a : (R == r2) = false := beq_eq_false_iff_ne.2 e5
      have e5b : (R != r2) = true := by rw [bne, e5a]; rfl
      go_enter Tryz.func38, Tryz.ntmps38
      go_wp2_with fail
      refine (kR _ y0.below).mono ?_
      rintro e w1 ⟨rfl, b1⟩
      have y1 := y0.under b1
      clear kR b1 hW0 hW1 hW hs0 hs1 p0 q0 q2
      have q2 := y1.tail.blk.cell 2
      have ec0 := y1.blk.cell 0
      have ec1 := y1.blk.cell 1
      have ec2 := y1.blk.cell 2
      have ec3 := y1.blk.cell 3
      have ec4 := y1.blk.cell 4
      have ec5 := y1.blk.cell 5
      have ec6 := y1.blk.cell 6
      have ec7 := y1.blk.cell 7
      have ec8 := y1.blk.cell 8
      have ec9 := y1.blk.cell 9
      have ec10 := y1.blk.cell 10
      have ec11 := y1.blk.cell 11
      have ec12 := y1.blk.cell 12
      have ec13 := y1.blk.cell 13
      have ec14 := y1.blk.cell 14
      have ec15 := y1.blk.cell 15
      have ef0 := y1.blk.frozen 0
      have ef1 := y1.blk.frozen 1
      have ef2 := y1.blk.frozen 2
      have ef3 := y1.blk.frozen 3
      have ef4 := y1.blk.frozen 4
      have ef5 := y1.blk.frozen 5
      have ef6 := y1.blk.frozen 6
      have ef7 := y1.blk.frozen 7
      have ef8 := y1.blk.frozen 8
      have ef9 := y1.blk.frozen 9
      have ef10 := y1.blk.frozen 10
      have ef11 := y1.blk.frozen 11
      have ef12 := y1.blk.frozen 12
      have ef13 := y1.blk.frozen 13
      have ef14 := y1.blk.frozen 14
      have ef15 := y1.blk.frozen 15
      have YE := Lib.hid ((((((((((((((((y1.set_ 0 (.string ⟨#[]⟩)).set_ 1 (.int .i64 0)).set_ 2 (.string ⟨#[]⟩)).set_ 3 (.int .i64 0)).set_ 4 (.slice none 0 0)).set_ 5 (.slice none 0 0)).set_ 6 (.slice none 0 0)).set_ 7 (.string ⟨#[]⟩)).set_ 8 (.int .i64 0)).set_ 9 (.string ⟨#[]⟩)).set_ 10 (.int .i64 0)).set_ 11 (.slice none 0 0)).set_ 12 (.slice none 0 0)).set_ 13 (.slice none 0 0)).set_ 14 (.string ⟨#[]⟩)).set_ 15 (.slice none 0 0))
      clear y1 y0 kS kC hmg
      go_wp2
      refine bodyPost_ret (results_ct rfl _ _ _ _ _ _ _ rfl YE.out.blk Tryz.underlying70 rfl size_ev) rfl ?_
      exact cmp_bad _ _ YE.out.below
   ·rw [if_neg e3]
    have e3' : (N : Int) < (n : Int) := by omega
    have PP := Lib.hid hP
    clear hP kR kC kS hmg
    have ec0 := y0.blk.cell 0
    have ec1 := y0.blk.cell 1
    have ec2 := y0.blk.cell 2
    have ec3 := y0.blk.cell 3
    have ec4 := y0.blk.cell 4
    have ec5 := y0.blk.cell 5
    have ec6 := y0.blk.cell 6
    have ec7 := y0.blk.cell 7
    have ec8 := y0.blk.cell 8
    have ec9 := y0.blk.cell 9
    have ec10 := y0.blk.cell 10
    have ec11 := y0.blk.cell 11
    have ec12 := y0.blk.cell 12
    have ec13 := y0.blk.cell 13
    have ec14 := y0.blk.cell 14
    have ec15 := y0.blk.cell 15
    have ef0 := y0.blk.frozen 0
    have ef1 := y0.blk.frozen 1
    have ef2 := y0.blk.frozen 2
    have ef3 := y0.blk.frozen 3
    have ef4 := y0.blk.frozen 4
    have ef5 := y0.blk.frozen 5
    have ef6 := y0.blk.frozen 6
    have ef7 := y0.blk.frozen 7
    have ef8 := y0.blk.frozen 8
    have ef9 := y0.blk.frozen 9
    have ef10 := y0.blk.frozen 10
    have ef11 := y0.blk.frozen 11
    have ef12 := y0.blk.frozen 12
    have ef13 := y0.blk.frozen 13
    have ef14 := y0.blk.frozen 14
    have ef15 := y0.blk.frozen 15
    have YE := Lib.hid ((((((((((((((((y0.set_ 0 (.string ⟨#[]⟩)).set_ 1 (.int .i64 0)).set_ 2 (.string ⟨#[]⟩)).set_ 3 (.int .i64 0)).set_ 4 (.slice none 0 0)).set_ 5 (.slice none 0 0)).set_ 6 (.slice none 0 0)).set_ 7 (.string ⟨#[]⟩)).set_ 8 (.int .i64 0)).set_ 9 (.string ⟨#[]⟩)).set_ 10 (.int .i64 0)).set_ 11 (.slice none 0 0)).set_ 12 (.slice none 0 0)).set_ 13 (.slice none 0 0)).set_ 14 (.string ⟨#[]⟩)).set_ 15 (.slice none 0 0))
    clear y0
    go_enter Tryz.func38, Tryz.ntmps38
    go_wp2
    refine bodyPost_ret (results_ct rfl _ _ _ _ _ _ _ rfl YE.out.blk Tryz.underlying70 rfl size_ev) rfl ?_
    exact cmp_bad _ _ YE.out.below
  ·rw [if_neg e2]
   have e2' : z1 < 0 := by omega
   have PP := Lib.hid hP
   clear hP kR kC kS hmg
   have ec0 := y0.blk.cell 0
   have ec1 := y0.blk.cell 1
   have ec2 := y0.blk.cell 2
   have ec3 := y0.blk.cell 3
   have ec4 := y0.blk.cell 4
   have ec5 := y0.blk.cell 5
   have ec6 := y0.blk.cell 6
   have ec7 := y0.blk.cell 7
   have ec8 := y0.blk.cell 8
   have ec9 := y0.blk.cell 9
   have ec10 := y0.blk.cell 10
   have ec11 := y0.blk.cell 11
   have ec12 := y0.blk.cell 12
   have ec13 := y0.blk.cell 13
   have ec14 := y0.blk.cell 14
   have ec15 := y0.blk.cell 15
   have ef0 := y0.blk.frozen 0
   have ef1 := y0.blk.frozen 1
   have ef2 := y0.blk.frozen 2
   have ef3 := y0.blk.frozen 3
   have ef4 := y0.blk.frozen 4
   have ef5 := y0.blk.frozen 5
   have ef6 := y0.blk.frozen 6
   have ef7 := y0.blk.frozen 7
   have ef8 := y0.blk.frozen 8
   have ef9 := y0.blk.frozen 9
   have ef10 := y0.blk.frozen 10
   have ef11 := y0.blk.frozen 11
   have ef12 := y0.blk.frozen 12
   have ef13 := y0.blk.frozen 13
   have ef14 := y0.blk.frozen 14
   have ef15 := y0.blk.frozen 15
   have YE := Lib.hid ((((((((((((((((y0.set_ 0 (.string ⟨#[]⟩)).set_ 1 (.int .i64 0)).set_ 2 (.string ⟨#[]⟩)).set_ 3 (.int .i64 0)).set_ 4 (.slice none 0 0)).set_ 5 (.slice none 0 0)).set_ 6 (.slice none 0 0)).set_ 7 (.string ⟨#[]⟩)).set_ 8 (.int .i64 0)).set_ 9 (.string ⟨#[]⟩)).set_ 10 (.int .i64 0)).set_ 11 (.slice none 0 0)).set_ 12 (.slice none 0 0)).set_ 13 (.slice none 0 0)).set_ 14 (.string ⟨#[]⟩)).set_ 15 (.slice none 0 0))
   clear y0
   go_enter Tryz.func38, Tryz.ntmps38
   go_wp2
   refine bodyPost_ret (results_ct rfl _ _ _ _ _ _ _ rfl YE.out.blk Tryz.underlying70 rfl size_ev) rfl ?_
   exact cmp_bad _ _ YE.out.below
 ·rw [if_neg e1]
  have e1a : (z2 == (N : Int)) = false := beq_eq_false_iff_ne.2 e1
  have e1b : (z2 != (N : Int)) = true := by rw [bne, e1a]; rfl
  have PP := Lib.hid hP
  clear hP kR kC kS hmg
  have ec0 := y0.blk.cell 0
  have ec1 := y0.blk.cell 1
  have ec2 := y0.blk.cell 2
  have ec3 := y0.blk.cell 3
  have ec4 := y0.blk.cell 4
  have ec5 := y0.blk.cell 5
  have ec6 := y0.blk.cell 6
  have ec7 := y0.blk.cell 7
  have ec8 := y0.blk.cell 8
  have ec9 := y0.blk.cell 9
  have ec10 := y0.blk.cell 10
  have ec11 := y0.blk.cell 11
  have ec12 := y0.blk.cell 12
  have ec13 := y0.blk.cell 13
  have ec14 := y0.blk.cell 14
  have ec15 := y0.blk.cell 15
  have ef0 := y0.blk.frozen 0
  have ef1 := y0.blk.frozen 1
  have ef2 := y0.blk.frozen 2
  have ef3 := y0.blk.frozen 3
  have ef4 := y0.blk.frozen 4
  have ef5 := y0.blk.frozen 5
  have ef6 := y0.blk.frozen 6
  have ef7 := y0.blk.frozen 7
  have ef8 := y0.blk.frozen 8
  have ef9 := y0.blk.frozen 9
  have ef10 := y0.blk.frozen 10
  have ef11 := y0.blk.frozen 11
  have ef12 := y0.blk.frozen 12
  have ef13 := y0.blk.frozen 13
  have ef14 := y0.blk.frozen 14
  have ef15 := y0.blk.frozen 15
  have YE := Lib.hid ((((((((((((((((y0.set_ 0 (.string ⟨#[]⟩)).set_ 1 (.int .i64 0)).set_ 2 (.string ⟨#[]⟩)).set_ 3 (.int .i64 0)).set_ 4 (.slice none 0 0)).set_ 5 (.slice none 0 0)).set_ 6 (.slice none 0 0)).set_ 7 (.string ⟨#[]⟩)).set_ 8 (.int .i64 0)).set_ 9 (.string ⟨#[]⟩)).set_ 10 (.int .i64 0)).set_ 11 (.slice none 0 0)).set_ 12 (.slice none 0 0)).set_ 13 (.slice none 0 0)).set_ 14 (.string ⟨#[]⟩)).set_ 15 (.slice none 0 0))
  clear y0
  go_enter Tryz.func38, Tryz.ntmps38
  go_wp2
  refine bodyPost_ret (results_ct rfl _ _ _ _ _ _ _ rfl YE.out.blk Tryz.underlying70 rfl size_ev) rfl ?_
  exact cmp_bad _ _ YE.out.below
end Go.Proofs.YtjjpdnpbhdcpbaaGreat
