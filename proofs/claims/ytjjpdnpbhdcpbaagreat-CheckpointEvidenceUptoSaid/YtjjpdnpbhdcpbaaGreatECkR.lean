/-
  Checkpoints: equal evidence, in the reference. Conditions: none.
-/
import Derived.Test.YtjjpdnpbhdcpbaaGreatQPe
import Derived.Test.YtjjpdnpbhdcpbaaGreatEPb
namespace Go.Proofs.YtjjpdnpbhdcpbaaGreat
set_option linter.unusedVariables false
open Go.RowKit Go.Shelf
attribute [local go_sem] Oper.semAt_some
def sameE (x y : CkV) (rt : Sg.Str) (P : List Sg.Str) (x' y' : CkV) (rt' : Sg.Str) (P' : List Sg.Str) : Bool := sameV x x' && (sameV y y' && ((rt == rt') && decide (P = P')))
set_option maxRecDepth 20000 in
set_option maxHeartbeats 4000000 in
theorem sameE_spec (x y : CkV) (rt : Sg.Str) (Y : Option Addr) (P : List Sg.Str) (d : Nat) (x' y' : CkV) (rt' : Sg.Str) (Y' : Option Addr) (P' : List Sg.Str) (d' : Nat) (w : World) (hx : CkV.ok w x) (hy : CkV.ok w y) (hx' : CkV.ok w x') (hy' : CkV.ok w y') (hP : Rd w Y (strs P)) (hP' : Rd w Y' (strs P')) (hl : P.length ≤ maxLen) (hl' : P'.length ≤ maxLen) :
 Calls Tryz.prog 42 #[.agg #[.string ⟨x.o.toArray⟩, .int .i64 x.z, .string ⟨x.r.toArray⟩, .int .i64 x.i, .slice x.A x.C.length x.a, .slice x.B x.T.length x.b, .slice x.X x.L.length x.c, .string ⟨y.o.toArray⟩, .int .i64 y.z, .string ⟨y.r.toArray⟩, .int .i64 y.i, .slice y.A y.C.length y.a, .slice y.B y.T.length y.b, .slice y.X y.L.length y.c, .string ⟨rt.toArray⟩, .slice Y P.length d], .agg #[.string ⟨x'.o.toArray⟩, .int .i64 x'.z, .string ⟨x'.r.toArray⟩, .int .i64 x'.i, .slice x'.A x'.C.length x'.a, .slice x'.B x'.T.length x'.b, .slice x'.X x'.L.length x'.c, .string ⟨y'.o.toArray⟩, .int .i64 y'.z, .string ⟨y'.r.toArray⟩, .int .i64 y'.i, .slice y'.A y'.C.length y'.a, .slice y'.B y'.T.length y'.b, .slice y'.X y'.L.length y'.c, .string ⟨rt'.toArray⟩, .slice Y' P'.length d']] w fun e w' => e = .returned (.bool (sameE x y rt P x' y' rt' P')) ∧ Below w.heap.size w w' := by
 obtain ⟨W0, hW0⟩ : ∃ W0, w.alloc (.cells #[.string ⟨x.o.toArray⟩, .int .i64 x.z, .string ⟨x.r.toArray⟩, .int .i64 x.i, .slice x.A x.C.length x.a, .slice x.B x.T.length x.b, .slice x.X x.L.length x.c, .string ⟨y.o.toArray⟩, .int .i64 y.z, .string ⟨y.r.toArray⟩, .int .i64 y.i, .slice y.A y.C.length y.a, .slice y.B y.T.length y.b, .slice y.X y.L.length y.c, .string ⟨rt.toArray⟩, .slice Y P.length d] 70) = W0 := ⟨_, rfl⟩
 have hs0 : W0.heap.size = w.heap.size + 1 := by rw [← hW0]; simp
 obtain ⟨W, hW⟩ : ∃ W, W0.alloc (.cells #[.string ⟨x'.o.toArray⟩, .int .i64 x'.z, .string ⟨x'.r.toArray⟩, .int .i64 x'.i, .slice x'.A x'.C.length x'.a, .slice x'.B x'.T.length x'.b, .slice x'.X x'.L.length x'.c, .string ⟨y'.o.toArray⟩, .int .i64 y'.z, .string ⟨y'.r.toArray⟩, .int .i64 y'.i, .slice y'.A y'.C.length y'.a, .slice y'.B y'.T.length y'.b, .slice y'.X y'.L.length y'.c, .string ⟨rt'.toArray⟩, .slice Y' P'.length d'] 70) = W := ⟨_, rfl⟩
 have s0 := ((St.nil w).alloc 70 #[.string ⟨x.o.toArray⟩, .int .i64 x.z, .string ⟨x.r.toArray⟩, .int .i64 x.i, .slice x.A x.C.length x.a, .slice x.B x.T.length x.b, .slice x.X x.L.length x.c, .string ⟨y.o.toArray⟩, .int .i64 y.z, .string ⟨y.r.toArray⟩, .int .i64 y.i, .slice y.A y.C.length y.a, .slice y.B y.T.length y.b, .slice y.X y.L.length y.c, .string ⟨rt.toArray⟩, .slice Y P.length d]).alloc 70 #[.string ⟨x'.o.toArray⟩, .int .i64 x'.z, .string ⟨x'.r.toArray⟩, .int .i64 x'.i, .slice x'.A x'.C.length x'.a, .slice x'.B x'.T.length x'.b, .slice x'.X x'.L.length x'.c, .string ⟨y'.o.toArray⟩, .int .i64 y'.z, .string ⟨y'.r.toArray⟩, .int .i64 y'.i, .slice y'.A y'.C.length y'.a, .slice y'.B y'.T.length y'.b, .slice y'.X y'.L.length y'.c, .string ⟨rt'.toArray⟩, .slice Y' P'.length d']
 rw [hW0, hW, hs0] at s0
 have p0 := (s0.tail.blk).cell 0
 have p1 := (s0.tail.blk).cell 1
 have p2 := (s0.tail.blk).cell 2
 have p3 := (s0.tail.blk).cell 3
 have p4 := (s0.tail.blk).cell 4
 have p5 := (s0.tail.blk).cell 5
 have p6 := (s0.tail.blk).cell 6
 have p7 := (s0.tail.blk).cell 7
 have p8 := (s0.tail.blk).cell 8
 have p9 := (s0.tail.blk).cell 9
 have p10 := (s0.tail.blk).cell 10
 have p11 := (s0.tail.blk).cell 11
 have p12 := (s0.tail.blk).cell 12
 have p13 := (s0.tail.blk).cell 13
 have p14 := (s0.tail.blk).cell 14
 have p15 := (s0.tail.blk).cell 15
 have q0 := (s0.blk).cell 0
 have q1 := (s0.blk).cell 1
 have q2 := (s0.blk).cell 2
 have q3 := (s0.blk).cell 3
 have q4 := (s0.blk).cell 4
 have q5 := (s0.blk).cell 5
 have q6 := (s0.blk).cell 6
 have q7 := (s0.blk).cell 7
 have q8 := (s0.blk).cell 8
 have q9 := (s0.blk).cell 9
 have q10 := (s0.blk).cell 10
 have q11 := (s0.blk).cell 11
 have q12 := (s0.blk).cell 12
 have q13 := (s0.blk).cell 13
 have q14 := (s0.blk).cell 14
 have q15 := (s0.blk).cell 15
 have k1 := sameV_spec x x' W (hx.below s0.below) (hx'.below s0.below)
 unfold sameE
 generalize h2 : sameV y y' = vb
 cases h1 : sameV x x' with
 | false =>
   rw [h1] at k1
   go_enter Tryz.func42, Tryz.ntmps42
   go_wp2_with fail
   refine k1.mono ?_
   rintro e w1 ⟨rfl, e1⟩
   have t1 := s0.under e1
   have Y1 := Lib.hid t1.below
   clear hW hW0 hs0 k1 p0 q0 p1 q1 p2 q2 p3 q3 p4 q4 p5 q5 p6 q6 p7 q7 p8 q8 p9 q9 p10 q10 p11 q11 p12 q12 p13 q13 p14 q14 p15 q15
   clear t1 e1
   go_wp2
   go_ret
   exact ⟨rfl, Y1.out⟩
 | true =>
   rw [h1] at k1
   rw [Bool.true_and]
   cases vb with
   | false =>
     go_enter Tryz.func42, Tryz.ntmps42
     go_wp2_with fail
     refine k1.mono ?_
     rintro e w1 ⟨rfl, e1⟩
     have t1 := s0.under e1
     have Y1 := Lib.hid t1.below
     have u0 := (t1.tail.blk).cell 0
     have u1 := (t1.tail.blk).cell 1
     have u2 := (t1.tail.blk).cell 2
     have u3 := (t1.tail.blk).cell 3
     have u4 := (t1.tail.blk).cell 4
     have u5 := (t1.tail.blk).cell 5
     have u6 := (t1.tail.blk).cell 6
     have u7 := (t1.tail.blk).cell 7
     have u8 := (t1.tail.blk).cell 8
     have u9 := (t1.tail.blk).cell 9
     have u10 := (t1.tail.blk).cell 10
     have u11 := (t1.tail.blk).cell 11
     have u12 := (t1.tail.blk).cell 12
     have u13 := (t1.tail.blk).cell 13
     have u14 := (t1.tail.blk).cell 14
     have u15 := (t1.tail.blk).cell 15
     have v0 := (t1.blk).cell 0
     have v1 := (t1.blk).cell 1
     have v2 := (t1.blk).cell 2
     have v3 := (t1.blk).cell 3
     have v4 := (t1.blk).cell 4
     have v5 := (t1.blk).cell 5
     have v6 := (t1.blk).cell 6
     have v7 := (t1.blk).cell 7
     have v8 := (t1.blk).cell 8
     have v9 := (t1.blk).cell 9
     have v10 := (t1.blk).cell 10
     have v11 := (t1.blk).cell 11
     have v12 := (t1.blk).cell 12
     have v13 := (t1.blk).cell 13
     have v14 := (t1.blk).cell 14
     have v15 := (t1.blk).cell 15
     clear hW hW0 hs0 k1 p0 q0 p1 q1 p2 q2 p3 q3 p4 q4 p5 q5 p6 q6 p7 q7 p8 q8 p9 q9 p10 q10 p11 q11 p12 q12 p13 q13 p14 q14 p15 q15
     have k2 := sameV_spec y y' w1 (hy.below Y1.out) (hy'.below Y1.out)
     rw [h2] at k2
     go_wp2_with fail
     refine k2.mono ?_
     rintro e w2 ⟨rfl, e2⟩
     have t2 := t1.under e2
     have Y2 := Lib.hid t2.below
     clear k2 u0 v0 u1 v1 u2 v2 u3 v3 u4 v4 u5 v5 u6 v6 u7 v7 u8 v8 u9 v9 u10 v10 u11 v11 u12 v12 u13 v13 u14 v14 u15 v15
     have m0 := (t2.tail.blk).cell 0
     have m1 := (t2.tail.blk).cell 1
     have m2 := (t2.tail.blk).cell 2
     have m3 := (t2.tail.blk).cell 3
     have m4 := (t2.tail.blk).cell 4
     have m5 := (t2.tail.blk).cell 5
     have m6 := (t2.tail.blk).cell 6
     have m7 := (t2.tail.blk).cell 7
     have m8 := (t2.tail.blk).cell 8
     have m9 := (t2.tail.blk).cell 9
     have m10 := (t2.tail.blk).cell 10
     have m11 := (t2.tail.blk).cell 11
     have m12 := (t2.tail.blk).cell 12
     have m13 := (t2.tail.blk).cell 13
     have m14 := (t2.tail.blk).cell 14
     have m15 := (t2.tail.blk).cell 15
     have n0 := (t2.blk).cell 0
     have n1 := (t2.blk).cell 1
     have n2 := (t2.blk).cell 2
     have n3 := (t2.blk).cell 3
     have n4 := (t2.blk).cell 4
     have n5 := (t2.blk).cell 5
     have n6 := (t2.blk).cell 6
     have n7 := (t2.blk).cell 7
     have n8 := (t2.blk).cell 8
     have n9 := (t2.blk).cell 9
     have n10 := (t2.blk).cell 10
     have n11 := (t2.blk).cell 11
     have n12 := (t2.blk).cell 12
     have n13 := (t2.blk).cell 13
     have n14 := (t2.blk).cell 14
     have n15 := (t2.blk).cell 15
     clear t1 t2 e1 e2
     go_wp2
     go_ret
     exact ⟨rfl, Y2.out⟩
   | true =>
     rw [Bool.true_and]
     cases hr : (rt == rt') with
     | false =>
       go_enter Tryz.func42, Tryz.ntmps42
       go_wp2_with fail
       refine k1.mono ?_
       rintro e w1 ⟨rfl, e1⟩
       have t1 := s0.under e1
       have Y1 := Lib.hid t1.below
       have u0 := (t1.tail.blk).cell 0
       have u1 := (t1.tail.blk).cell 1
       have u2 := (t1.tail.blk).cell 2
       have u3 := (t1.tail.blk).cell 3
       have u4 := (t1.tail.blk).cell 4
       have u5 := (t1.tail.blk).cell 5
       have u6 := (t1.tail.blk).cell 6
       have u7 := (t1.tail.blk).cell 7
       have u8 := (t1.tail.blk).cell 8
       have u9 := (t1.tail.blk).cell 9
       have u10 := (t1.tail.blk).cell 10
       have u11 := (t1.tail.blk).cell 11
       have u12 := (t1.tail.blk).cell 12
       have u13 := (t1.tail.blk).cell 13
       have u14 := (t1.tail.blk).cell 14
       have u15 := (t1.tail.blk).cell 15
       have v0 := (t1.blk).cell 0
       have v1 := (t1.blk).cell 1
       have v2 := (t1.blk).cell 2
       have v3 := (t1.blk).cell 3
       have v4 := (t1.blk).cell 4
       have v5 := (t1.blk).cell 5
       have v6 := (t1.blk).cell 6
       have v7 := (t1.blk).cell 7
       have v8 := (t1.blk).cell 8
       have v9 := (t1.blk).cell 9
       have v10 := (t1.blk).cell 10
       have v11 := (t1.blk).cell 11
       have v12 := (t1.blk).cell 12
       have v13 := (t1.blk).cell 13
       have v14 := (t1.blk).cell 14
       have v15 := (t1.blk).cell 15
       clear hW hW0 hs0 k1 p0 q0 p1 q1 p2 q2 p3 q3 p4 q4 p5 q5 p6 q6 p7 q7 p8 q8 p9 q9 p10 q10 p11 q11 p12 q12 p13 q13 p14 q14 p15 q15
       have k2 := sameV_spec y y' w1 (hy.below Y1.out) (hy'.below Y1.out)
       rw [h2] at k2
       go_wp2_with fail
       refine k2.mono ?_
       rintro e w2 ⟨rfl, e2⟩
       have t2 := t1.under e2
       have Y2 := Lib.hid t2.below
       clear k2 u0 v0 u1 v1 u2 v2 u3 v3 u4 v4 u5 v5 u6 v6 u7 v7 u8 v8 u9 v9 u10 v10 u11 v11 u12 v12 u13 v13 u14 v14 u15 v15
       have m0 := (t2.tail.blk).cell 0
       have m1 := (t2.tail.blk).cell 1
       have m2 := (t2.tail.blk).cell 2
       have m3 := (t2.tail.blk).cell 3
       have m4 := (t2.tail.blk).cell 4
       have m5 := (t2.tail.blk).cell 5
       have m6 := (t2.tail.blk).cell 6
       have m7 := (t2.tail.blk).cell 7
       have m8 := (t2.tail.blk).cell 8
       have m9 := (t2.tail.blk).cell 9
       have m10 := (t2.tail.blk).cell 10
       have m11 := (t2.tail.blk).cell 11
       have m12 := (t2.tail.blk).cell 12
       have m13 := (t2.tail.blk).cell 13
       have m14 := (t2.tail.blk).cell 14
       have m15 := (t2.tail.blk).cell 15
       have n0 := (t2.blk).cell 0
       have n1 := (t2.blk).cell 1
       have n2 := (t2.blk).cell 2
       have n3 := (t2.blk).cell 3
       have n4 := (t2.blk).cell 4
       have n5 := (t2.blk).cell 5
       have n6 := (t2.blk).cell 6
       have n7 := (t2.blk).cell 7
       have n8 := (t2.blk).cell 8
       have n9 := (t2.blk).cell 9
       have n10 := (t2.blk).cell 10
       have n11 := (t2.blk).cell 11
       have n12 := (t2.blk).cell 12
       have n13 := (t2.blk).cell 13
       have n14 := (t2.blk).cell 14
       have n15 := (t2.blk).cell 15
       clear t1 t2 e1 e2
       go_wp2
       go_ret
       exact ⟨rfl, Y2.out⟩
     | true =>
       rw [Bool.true_and]
       have kx0 := fun W (h : Rd W Y (strs P)) (h' : Rd W Y' (strs P')) => samestr_spec Y Y' P P' d d' W h h' hl hl'
       generalize decide (P = P') = pp at kx0 ⊢
       go_enter Tryz.func42, Tryz.ntmps42
       go_wp2_with fail
       refine k1.mono ?_
       rintro e w1 ⟨rfl, e1⟩
       have t1 := s0.under e1
       have Y1 := Lib.hid t1.below
       have u0 := (t1.tail.blk).cell 0
       have u1 := (t1.tail.blk).cell 1
       have u2 := (t1.tail.blk).cell 2
       have u3 := (t1.tail.blk).cell 3
       have u4 := (t1.tail.blk).cell 4
       have u5 := (t1.tail.blk).cell 5
       have u6 := (t1.tail.blk).cell 6
       have u7 := (t1.tail.blk).cell 7
       have u8 := (t1.tail.blk).cell 8
       have u9 := (t1.tail.blk).cell 9
       have u10 := (t1.tail.blk).cell 10
       have u11 := (t1.tail.blk).cell 11
       have u12 := (t1.tail.blk).cell 12
       have u13 := (t1.tail.blk).cell 13
       have u14 := (t1.tail.blk).cell 14
       have u15 := (t1.tail.blk).cell 15
       have v0 := (t1.blk).cell 0
       have v1 := (t1.blk).cell 1
       have v2 := (t1.blk).cell 2
       have v3 := (t1.blk).cell 3
       have v4 := (t1.blk).cell 4
       have v5 := (t1.blk).cell 5
       have v6 := (t1.blk).cell 6
       have v7 := (t1.blk).cell 7
       have v8 := (t1.blk).cell 8
       have v9 := (t1.blk).cell 9
       have v10 := (t1.blk).cell 10
       have v11 := (t1.blk).cell 11
       have v12 := (t1.blk).cell 12
       have v13 := (t1.blk).cell 13
       have v14 := (t1.blk).cell 14
       have v15 := (t1.blk).cell 15
       clear hW hW0 hs0 k1 p0 q0 p1 q1 p2 q2 p3 q3 p4 q4 p5 q5 p6 q6 p7 q7 p8 q8 p9 q9 p10 q10 p11 q11 p12 q12 p13 q13 p14 q14 p15 q15
       have k2 := sameV_spec y y' w1 (hy.below Y1.out) (hy'.below Y1.out)
       rw [h2] at k2
       go_wp2_with fail
       refine k2.mono ?_
       rintro e w2 ⟨rfl, e2⟩
       have t2 := t1.under e2
       have Y2 := Lib.hid t2.below
       clear k2 u0 v0 u1 v1 u2 v2 u3 v3 u4 v4 u5 v5 u6 v6 u7 v7 u8 v8 u9 v9 u10 v10 u11 v11 u12 v12 u13 v13 u14 v14 u15 v15
       have m0 := (t2.tail.blk).cell 0
       have m1 := (t2.tail.blk).cell 1
       have m2 := (t2.tail.blk).cell 2
       have m3 := (t2.tail.blk).cell 3
       have m4 := (t2.tail.blk).cell 4
       have m5 := (t2.tail.blk).cell 5
       have m6 := (t2.tail.blk).cell 6
       have m7 := (t2.tail.blk).cell 7
       have m8 := (t2.tail.blk).cell 8
       have m9 := (t2.tail.blk).cell 9
       have m10 := (t2.tail.blk).cell 10
       have m11 := (t2.tail.blk).cell 11
       have m12 := (t2.tail.blk).cell 12
       have m13 := (t2.tail.blk).cell 13
       have m14 := (t2.tail.blk).cell 14
       have m15 := (t2.tail.blk).cell 15
       have n0 := (t2.blk).cell 0
       have n1 := (t2.blk).cell 1
       have n2 := (t2.blk).cell 2
       have n3 := (t2.blk).cell 3
       have n4 := (t2.blk).cell 4
       have n5 := (t2.blk).cell 5
       have n6 := (t2.blk).cell 6
       have n7 := (t2.blk).cell 7
       have n8 := (t2.blk).cell 8
       have n9 := (t2.blk).cell 9
       have n10 := (t2.blk).cell 10
       have n11 := (t2.blk).cell 11
       have n12 := (t2.blk).cell 12
       have n13 := (t2.blk).cell 13
       have n14 := (t2.blk).cell 14
       have n15 := (t2.blk).cell 15
       have kx := kx0 w2 (hP.below Y2.out) (hP'.below Y2.out)
       clear t1 t2 e1 e2 kx0
       go_wp2_with fail
       refine kx.mono ?_
       rintro e w3 ⟨rfl, kq, rfl⟩
       have Y3 := Lib.hid (Y2.out.trans ((Mod.refl (fun _ => False) w2).drewN kq |>.below Y2.out.size (fun _ _ h => h)))
       clear kx
       go_wp2
       go_ret
       exact ⟨rfl, Y3.out⟩
end Go.Proofs.YtjjpdnpbhdcpbaaGreat
