/-
  Checkpoints: whether evidence is accepted, in the program. Conditions: none.
-/
import Derived.Test.YtjjpdnpbhdcpbaaGreatQCkJ
import Derived.Test.YtjjpdnpbhdcpbaaGreatQMkB
namespace Go.Proofs.YtjjpdnpbhdcpbaaGreat
set_option linter.unusedVariables false
open Go.RowKit Go.Shelf
attribute [local go_sem] Oper.semAt_some
def chkB (va vb : Bool) (o1 : Sg.Str) (z1 : Int) (r1 o2 : Sg.Str) (z2 : Int) (r2 rt : Sg.Str) (P : List Sg.Str) : Bool := va && (vb && ((o1 == o2) && (decide (z1 ≤ z2) && (!(rt == r1) && extB z1 z2 rt r2 P))))
set_option maxRecDepth 20000 in
set_option maxHeartbeats 4000000 in
theorem check_spec (pub : Sg.Str) (o1 : Sg.Str) (z1 : Int) (r1 : Sg.Str) (i1 : Int) (A1 : Option Addr) (C1 : List Sg.Str) (a1 : Nat) (B1 : Option Addr) (T1 : List Sg.Str) (b1 : Nat) (X1 : Option Addr) (l1 c1 : Nat) (o2 : Sg.Str) (z2 : Int) (r2 : Sg.Str) (i2 : Int) (A2 : Option Addr) (C2 : List Sg.Str) (a2 : Nat) (B2 : Option Addr) (T2 : List Sg.Str) (b2 : Nat) (X2 : Option Addr) (l2 c2 : Nat) (rt : Sg.Str) (Y : Option Addr) (P : List Sg.Str) (d : Nat) (w : World) (hA1 : Rd w A1 (strs C1)) (hB1 : Rd w B1 (strs T1)) (u1 : C1.length ≤ a1) (v1 : a1 ≤ maxLen) (s1 : T1.length ≤ b1) (t1 : b1 ≤ maxLen) (hA2 : Rd w A2 (strs C2)) (hB2 : Rd w B2 (strs T2)) (u2 : C2.length ≤ a2) (v2 : a2 ≤ maxLen) (s2 : T2.length ≤ b2) (t2 : b2 ≤ maxLen) (hP : Rd w Y (strs P)) (hP1 : P.length ≤ d) (hP2 : d ≤ maxLen) :
 Calls Tryz.prog 40 #[.string ⟨pub.toArray⟩, .agg #[.string ⟨o1.toArray⟩, .int .i64 z1, .string ⟨r1.toArray⟩, .int .i64 i1, .slice A1 C1.length a1, .slice B1 T1.length b1, .slice X1 l1 c1, .string ⟨o2.toArray⟩, .int .i64 z2, .string ⟨r2.toArray⟩, .int .i64 i2, .slice A2 C2.length a2, .slice B2 T2.length b2, .slice X2 l2 c2, .string ⟨rt.toArray⟩, .slice Y P.length d]] w fun e w' => e = .returned (.bool (chkB (ckB 4 pub o1 z1 r1 i1 C1 T1) (ckB 4 pub o2 z2 r2 i2 C2 T2) o1 z1 r1 o2 z2 r2 rt P)) ∧ Below w.heap.size w w' := by
 have b0 := (Below.refl w.heap.size w).alloc (Nat.le_refl _) (.cells #[.string ⟨o1.toArray⟩, .int .i64 z1, .string ⟨r1.toArray⟩, .int .i64 i1, .slice A1 C1.length a1, .slice B1 T1.length b1, .slice X1 l1 c1, .string ⟨o2.toArray⟩, .int .i64 z2, .string ⟨r2.toArray⟩, .int .i64 i2, .slice A2 C2.length a2, .slice B2 T2.length b2, .slice X2 l2 c2, .string ⟨rt.toArray⟩, .slice Y P.length d] 70)
 have bk := Blk.new w 70 #[.string ⟨o1.toArray⟩, .int .i64 z1, .string ⟨r1.toArray⟩, .int .i64 i1, .slice A1 C1.length a1, .slice B1 T1.length b1, .slice X1 l1 c1, .string ⟨o2.toArray⟩, .int .i64 z2, .string ⟨r2.toArray⟩, .int .i64 i2, .slice A2 C2.length a2, .slice B2 T2.length b2, .slice X2 l2 c2, .string ⟨rt.toArray⟩, .slice Y P.length d]
 obtain ⟨W0, hW0⟩ : ∃ W0, w.alloc (.cells #[.string ⟨o1.toArray⟩, .int .i64 z1, .string ⟨r1.toArray⟩, .int .i64 i1, .slice A1 C1.length a1, .slice B1 T1.length b1, .slice X1 l1 c1, .string ⟨o2.toArray⟩, .int .i64 z2, .string ⟨r2.toArray⟩, .int .i64 i2, .slice A2 C2.length a2, .slice B2 T2.length b2, .slice X2 l2 c2, .string ⟨rt.toArray⟩, .slice Y P.length d] 70) = W0 := ⟨_, rfl⟩
 rw [hW0] at b0 bk
 have kA := ckverify_spec pub o1 z1 r1 i1 C1 T1 A1 B1 X1 a1 b1 l1 c1 W0 (hA1.below b0) (hB1.below b0) u1 v1 s1 t1
 have q0 := (bk).cell 0
 have q1 := (bk).cell 1
 have q2 := (bk).cell 2
 have q3 := (bk).cell 3
 have q4 := (bk).cell 4
 have q5 := (bk).cell 5
 have q6 := (bk).cell 6
 have q7 := (bk).cell 7
 have q8 := (bk).cell 8
 have q9 := (bk).cell 9
 have q10 := (bk).cell 10
 have q11 := (bk).cell 11
 have q12 := (bk).cell 12
 have q13 := (bk).cell 13
 have q14 := (bk).cell 14
 have q15 := (bk).cell 15
 unfold chkB
 generalize hv2 : ckB 4 pub o2 z2 r2 i2 C2 T2 = vb
 cases hv1 : ckB 4 pub o1 z1 r1 i1 C1 T1 with
 | false =>
   rw [hv1] at kA
   clear hv1 hv2
   go_enter Tryz.func40, Tryz.ntmps40
   go_wp2_with fail
   refine kA.mono ?_
   rintro e w1 ⟨rfl, e1⟩
   have y1 := b0.trans (e1.mono b0.size)
   have Y1 := Lib.hid y1
   clear kA y1
   go_wp2
   go_ret
   exact ⟨rfl, Y1.out⟩
 | true =>
   rw [hv1] at kA
   rw [Bool.true_and]
   clear hv1
   cases vb with
   | false =>
     go_enter Tryz.func40, Tryz.ntmps40
     go_wp2_with fail
     refine kA.mono ?_
     rintro e w1 ⟨rfl, e1⟩
     have y1 := b0.trans (e1.mono b0.size)
     have Y1 := Lib.hid y1
     have kB := ckverify_spec pub o2 z2 r2 i2 C2 T2 A2 B2 X2 a2 b2 l2 c2 w1 (hA2.below y1) (hB2.below y1) u2 v2 s2 t2
     rw [hv2] at kB
     have p0 := (bk.below e1).cell 0
     have p1 := (bk.below e1).cell 1
     have p2 := (bk.below e1).cell 2
     have p3 := (bk.below e1).cell 3
     have p4 := (bk.below e1).cell 4
     have p5 := (bk.below e1).cell 5
     have p6 := (bk.below e1).cell 6
     have p7 := (bk.below e1).cell 7
     have p8 := (bk.below e1).cell 8
     have p9 := (bk.below e1).cell 9
     have p10 := (bk.below e1).cell 10
     have p11 := (bk.below e1).cell 11
     have p12 := (bk.below e1).cell 12
     have p13 := (bk.below e1).cell 13
     have p14 := (bk.below e1).cell 14
     have p15 := (bk.below e1).cell 15
     clear kA y1 q0 q1 q2 q3 q4 q5 q6 q7 q8 q9 q10 q11 q12 q13 q14 q15 hW0
     go_wp2_with fail
     refine kB.mono ?_
     rintro e w2 ⟨rfl, e2⟩
     have y2 := Y1.out.trans (e2.mono Y1.out.size)
     have Y2 := Lib.hid y2
     clear kB y2 e1 e2
     go_wp2
     go_ret
     exact ⟨rfl, Y2.out⟩
   | true =>
     rw [Bool.true_and]
     cases ho : (o1 == o2) with
     | false =>
       have ho' : (o1 != o2) = true := by rw [bne, ho]; rfl
       go_enter Tryz.func40, Tryz.ntmps40
       go_wp2_with fail
       refine kA.mono ?_
       rintro e w1 ⟨rfl, e1⟩
       have y1 := b0.trans (e1.mono b0.size)
       have Y1 := Lib.hid y1
       have kB := ckverify_spec pub o2 z2 r2 i2 C2 T2 A2 B2 X2 a2 b2 l2 c2 w1 (hA2.below y1) (hB2.below y1) u2 v2 s2 t2
       rw [hv2] at kB
       have p0 := (bk.below e1).cell 0
       have p1 := (bk.below e1).cell 1
       have p2 := (bk.below e1).cell 2
       have p3 := (bk.below e1).cell 3
       have p4 := (bk.below e1).cell 4
       have p5 := (bk.below e1).cell 5
       have p6 := (bk.below e1).cell 6
       have p7 := (bk.below e1).cell 7
       have p8 := (bk.below e1).cell 8
       have p9 := (bk.below e1).cell 9
       have p10 := (bk.below e1).cell 10
       have p11 := (bk.below e1).cell 11
       have p12 := (bk.below e1).cell 12
       have p13 := (bk.below e1).cell 13
       have p14 := (bk.below e1).cell 14
       have p15 := (bk.below e1).cell 15
       clear kA y1 q0 q1 q2 q3 q4 q5 q6 q7 q8 q9 q10 q11 q12 q13 q14 q15 hW0
       go_wp2_with fail
       refine kB.mono ?_
       rintro e w2 ⟨rfl, e2⟩
       have y2 := Y1.out.trans (e2.mono Y1.out.size)
       have Y2 := Lib.hid y2
       have rr0 := (bk.below (e1.trans (e2.mono e1.size))).cell 0
       have rr1 := (bk.below (e1.trans (e2.mono e1.size))).cell 1
       have rr2 := (bk.below (e1.trans (e2.mono e1.size))).cell 2
       have rr3 := (bk.below (e1.trans (e2.mono e1.size))).cell 3
       have rr4 := (bk.below (e1.trans (e2.mono e1.size))).cell 4
       have rr5 := (bk.below (e1.trans (e2.mono e1.size))).cell 5
       have rr6 := (bk.below (e1.trans (e2.mono e1.size))).cell 6
       have rr7 := (bk.below (e1.trans (e2.mono e1.size))).cell 7
       have rr8 := (bk.below (e1.trans (e2.mono e1.size))).cell 8
       have rr9 := (bk.below (e1.trans (e2.mono e1.size))).cell 9
       have rr10 := (bk.below (e1.trans (e2.mono e1.size))).cell 10
       have rr11 := (bk.below (e1.trans (e2.mono e1.size))).cell 11
       have rr12 := (bk.below (e1.trans (e2.mono e1.size))).cell 12
       have rr13 := (bk.below (e1.trans (e2.mono e1.size))).cell 13
       have rr14 := (bk.below (e1.trans (e2.mono e1.size))).cell 14
       have rr15 := (bk.below (e1.trans (e2.mono e1.size))).cell 15
       clear kB y2 e1 e2
       go_wp2
       go_ret
       exact ⟨rfl, Y2.out⟩
     | true =>
       have ho' : (o1 != o2) = false := by rw [bne, ho]; rfl
       rw [Bool.true_and]
       by_cases hz : z1 ≤ z2
       ·rw [decide_eq_true hz, Bool.true_and]
        have hz' : ¬ (z2 < z1) := by omega
        cases hr : (rt == r1) with
        | true =>
          have hr' : (rt != r1) = false := by rw [bne, hr]; rfl
          go_enter Tryz.func40, Tryz.ntmps40
          go_wp2_with fail
          refine kA.mono ?_
          rintro e w1 ⟨rfl, e1⟩
          have y1 := b0.trans (e1.mono b0.size)
          have Y1 := Lib.hid y1
          have kB := ckverify_spec pub o2 z2 r2 i2 C2 T2 A2 B2 X2 a2 b2 l2 c2 w1 (hA2.below y1) (hB2.below y1) u2 v2 s2 t2
          rw [hv2] at kB
          have p0 := (bk.below e1).cell 0
          have p1 := (bk.below e1).cell 1
          have p2 := (bk.below e1).cell 2
          have p3 := (bk.below e1).cell 3
          have p4 := (bk.below e1).cell 4
          have p5 := (bk.below e1).cell 5
          have p6 := (bk.below e1).cell 6
          have p7 := (bk.below e1).cell 7
          have p8 := (bk.below e1).cell 8
          have p9 := (bk.below e1).cell 9
          have p10 := (bk.below e1).cell 10
          have p11 := (bk.below e1).cell 11
          have p12 := (bk.below e1).cell 12
          have p13 := (bk.below e1).cell 13
          have p14 := (bk.below e1).cell 14
          have p15 := (bk.below e1).cell 15
          clear kA y1 q0 q1 q2 q3 q4 q5 q6 q7 q8 q9 q10 q11 q12 q13 q14 q15 hW0
          go_wp2_with fail
          refine kB.mono ?_
          rintro e w2 ⟨rfl, e2⟩
          have y2 := Y1.out.trans (e2.mono Y1.out.size)
          have Y2 := Lib.hid y2
          have rr0 := (bk.below (e1.trans (e2.mono e1.size))).cell 0
          have rr1 := (bk.below (e1.trans (e2.mono e1.size))).cell 1
          have rr2 := (bk.below (e1.trans (e2.mono e1.size))).cell 2
          have rr3 := (bk.below (e1.trans (e2.mono e1.size))).cell 3
          have rr4 := (bk.below (e1.trans (e2.mono e1.size))).cell 4
          have rr5 := (bk.below (e1.trans (e2.mono e1.size))).cell 5
          have rr6 := (bk.below (e1.trans (e2.mono e1.size))).cell 6
          have rr7 := (bk.below (e1.trans (e2.mono e1.size))).cell 7
          have rr8 := (bk.below (e1.trans (e2.mono e1.size))).cell 8
          have rr9 := (bk.below (e1.trans (e2.mono e1.size))).cell 9
          have rr10 := (bk.below (e1.trans (e2.mono e1.size))).cell 10
          have rr11 := (bk.below (e1.trans (e2.mono e1.size))).cell 11
          have rr12 := (bk.below (e1.trans (e2.mono e1.size))).cell 12
          have rr13 := (bk.below (e1.trans (e2.mono e1.size))).cell 13
          have rr14 := (bk.below (e1.trans (e2.mono e1.size))).cell 14
          have rr15 := (bk.below (e1.trans (e2.mono e1.size))).cell 15
          clear kB y2 e1 e2 hz
          go_wp2
          go_ret
          exact ⟨rfl, Y2.out⟩
        | false =>
          have hr' : (rt != r1) = true := by rw [bne, hr]; rfl
          have kx0 := fun W (h : Rd W Y (strs P)) => extends_spec z1 z2 rt r2 Y P d W h hP1 hP2
          generalize extB z1 z2 rt r2 P = xx at kx0 ⊢
          go_enter Tryz.func40, Tryz.ntmps40
          go_wp2_with fail
          refine kA.mono ?_
          rintro e w1 ⟨rfl, e1⟩
          have y1 := b0.trans (e1.mono b0.size)
          have Y1 := Lib.hid y1
          have kB := ckverify_spec pub o2 z2 r2 i2 C2 T2 A2 B2 X2 a2 b2 l2 c2 w1 (hA2.below y1) (hB2.below y1) u2 v2 s2 t2
          rw [hv2] at kB
          have p0 := (bk.below e1).cell 0
          have p1 := (bk.below e1).cell 1
          have p2 := (bk.below e1).cell 2
          have p3 := (bk.below e1).cell 3
          have p4 := (bk.below e1).cell 4
          have p5 := (bk.below e1).cell 5
          have p6 := (bk.below e1).cell 6
          have p7 := (bk.below e1).cell 7
          have p8 := (bk.below e1).cell 8
          have p9 := (bk.below e1).cell 9
          have p10 := (bk.below e1).cell 10
          have p11 := (bk.below e1).cell 11
          have p12 := (bk.below e1).cell 12
          have p13 := (bk.below e1).cell 13
          have p14 := (bk.below e1).cell 14
          have p15 := (bk.below e1).cell 15
          clear kA y1 q0 q1 q2 q3 q4 q5 q6 q7 q8 q9 q10 q11 q12 q13 q14 q15 hW0
          go_wp2_with fail
          refine kB.mono ?_
          rintro e w2 ⟨rfl, e2⟩
          have y2 := Y1.out.trans (e2.mono Y1.out.size)
          have Y2 := Lib.hid y2
          have rr0 := (bk.below (e1.trans (e2.mono e1.size))).cell 0
          have rr1 := (bk.below (e1.trans (e2.mono e1.size))).cell 1
          have rr2 := (bk.below (e1.trans (e2.mono e1.size))).cell 2
          have rr3 := (bk.below (e1.trans (e2.mono e1.size))).cell 3
          have rr4 := (bk.below (e1.trans (e2.mono e1.size))).cell 4
          have rr5 := (bk.below (e1.trans (e2.mono e1.size))).cell 5
          have rr6 := (bk.below (e1.trans (e2.mono e1.size))).cell 6
          have rr7 := (bk.below (e1.trans (e2.mono e1.size))).cell 7
          have rr8 := (bk.below (e1.trans (e2.mono e1.size))).cell 8
          have rr9 := (bk.below (e1.trans (e2.mono e1.size))).cell 9
          have rr10 := (bk.below (e1.trans (e2.mono e1.size))).cell 10
          have rr11 := (bk.below (e1.trans (e2.mono e1.size))).cell 11
          have rr12 := (bk.below (e1.trans (e2.mono e1.size))).cell 12
          have rr13 := (bk.below (e1.trans (e2.mono e1.size))).cell 13
          have rr14 := (bk.below (e1.trans (e2.mono e1.size))).cell 14
          have rr15 := (bk.below (e1.trans (e2.mono e1.size))).cell 15
          have kx := kx0 w2 (hP.below y2)
          clear kx0
          clear kB y2 e1 e2 hz
          go_wp2_with fail
          refine kx.mono ?_
          rintro e w3 ⟨rfl, e3⟩
          have Y3 := Lib.hid (Y2.out.trans (e3.mono Y2.out.size))
          clear kx e3
          cases xx
          all_goals
           go_wp2
           go_ret
           refine ⟨?_, Y3.out⟩
           rfl
       ·rw [decide_eq_false hz, Bool.false_and]
        have hz' : z2 < z1 := by omega
        go_enter Tryz.func40, Tryz.ntmps40
        go_wp2_with fail
        refine kA.mono ?_
        rintro e w1 ⟨rfl, e1⟩
        have y1 := b0.trans (e1.mono b0.size)
        have Y1 := Lib.hid y1
        have kB := ckverify_spec pub o2 z2 r2 i2 C2 T2 A2 B2 X2 a2 b2 l2 c2 w1 (hA2.below y1) (hB2.below y1) u2 v2 s2 t2
        rw [hv2] at kB
        have p0 := (bk.below e1).cell 0
        have p1 := (bk.below e1).cell 1
        have p2 := (bk.below e1).cell 2
        have p3 := (bk.below e1).cell 3
        have p4 := (bk.below e1).cell 4
        have p5 := (bk.below e1).cell 5
        have p6 := (bk.below e1).cell 6
        have p7 := (bk.below e1).cell 7
        have p8 := (bk.below e1).cell 8
        have p9 := (bk.below e1).cell 9
        have p10 := (bk.below e1).cell 10
        have p11 := (bk.below e1).cell 11
        have p12 := (bk.below e1).cell 12
        have p13 := (bk.below e1).cell 13
        have p14 := (bk.below e1).cell 14
        have p15 := (bk.below e1).cell 15
        clear kA y1 q0 q1 q2 q3 q4 q5 q6 q7 q8 q9 q10 q11 q12 q13 q14 q15 hW0
        go_wp2_with fail
        refine kB.mono ?_
        rintro e w2 ⟨rfl, e2⟩
        have y2 := Y1.out.trans (e2.mono Y1.out.size)
        have Y2 := Lib.hid y2
        have rr0 := (bk.below (e1.trans (e2.mono e1.size))).cell 0
        have rr1 := (bk.below (e1.trans (e2.mono e1.size))).cell 1
        have rr2 := (bk.below (e1.trans (e2.mono e1.size))).cell 2
        have rr3 := (bk.below (e1.trans (e2.mono e1.size))).cell 3
        have rr4 := (bk.below (e1.trans (e2.mono e1.size))).cell 4
        have rr5 := (bk.below (e1.trans (e2.mono e1.size))).cell 5
        have rr6 := (bk.below (e1.trans (e2.mono e1.size))).cell 6
        have rr7 := (bk.below (e1.trans (e2.mono e1.size))).cell 7
        have rr8 := (bk.below (e1.trans (e2.mono e1.size))).cell 8
        have rr9 := (bk.below (e1.trans (e2.mono e1.size))).cell 9
        have rr10 := (bk.below (e1.trans (e2.mono e1.size))).cell 10
        have rr11 := (bk.below (e1.trans (e2.mono e1.size))).cell 11
        have rr12 := (bk.below (e1.trans (e2.mono e1.size))).cell 12
        have rr13 := (bk.below (e1.trans (e2.mono e1.size))).cell 13
        have rr14 := (bk.below (e1.trans (e2.mono e1.size))).cell 14
        have rr15 := (bk.below (e1.trans (e2.mono e1.size))).cell 15
        clear kB y2 e1 e2 hz
        go_wp2
        go_ret
        exact ⟨rfl, Y2.out⟩
end Go.Proofs.YtjjpdnpbhdcpbaaGreat
