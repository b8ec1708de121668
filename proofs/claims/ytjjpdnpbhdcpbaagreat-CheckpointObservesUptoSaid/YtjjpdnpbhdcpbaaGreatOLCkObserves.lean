/-
  CheckpointObserves: the walk. Conditions: strings of at most 2^20 bytes, signatures of bulk at most 2^40.
-/
import Derived.Test.YtjjpdnpbhdcpbaaGreatQCkAw
import Derived.Test.YtjjpdnpbhdcpbaaGreatQCkAwA
import Derived.Test.YtjjpdnpbhdcpbaaGreatQPe
import Derived.Test.YtjjpdnpbhdcpbaaGreatOPb
import Derived.Test.YtjjpdnpbhdcpbaaGreatQPd
import Derived.Test.YtjjpdnpbhdcpbaaGreatQCkL
import Derived.Test.YtjjpdnpbhdcpbaaGreatQCkK
import Derived.Test.YtjjpdnpbhdcpbaaGreatQCkJ
import Derived.Test.YtjjpdnpbhdcpbaaGreatQCkI
import Derived.Test.YtjjpdnpbhdcpbaaGreatQCkH
import Derived.Test.YtjjpdnpbhdcpbaaGreatQCkF
import Derived.Test.YtjjpdnpbhdcpbaaGreatQCkE
import Derived.Test.YtjjpdnpbhdcpbaaGreatOPa
import Derived.Test.YtjjpdnpbhdcpbaaGreatQPa
import Derived.Test.YtjjpdnpbhdcpbaaGreatQCkC
import Derived.Test.YtjjpdnpbhdcpbaaGreatQPc
import Derived.Test.YtjjpdnpbhdcpbaaGreatOSgR
import Derived.Deep.Strs
import Derived.Test.YtjjpdnpbhdcpbaaGreatQBase
import Derived.Maps.OwnSet
import Derived.Test.YtjjpdnpbhdcpbaaGreatQPb
import Derived.Test.YtjjpdnpbhdcpbaaGreatQSgJ
import Derived.Test.YtjjpdnpbhdcpbaaGreatQSgI
import Derived.Test.YtjjpdnpbhdcpbaaGreatQSgH
import Derived.Test.YtjjpdnpbhdcpbaaGreatQSgG
import Derived.Test.YtjjpdnpbhdcpbaaGreatQSgF
import Derived.Test.YtjjpdnpbhdcpbaaGreatQCdA
import Derived.Test.YtjjpdnpbhdcpbaaGreatQMkB
import Derived.Test.YtjjpdnpbhdcpbaaGreatQShaB
import Derived.Test.YtjjpdnpbhdcpbaaGreatQShaA
import Derived.Test.YtjjpdnpbhdcpbaaGreatProg
import Derived.Laws.BitsAllLaws
import Derived.BigQuiet
import Derived.BigRegion
import Derived.Deep.RegionHeld3
import Derived.Test.YtjjpdnpbhdcpbaaGreatLayC
import Derived.Test.YtjjpdnpbhdcpbaaGreatLay
import Derived.Laws.CopyRow
import Derived.Laws.IdiomStrings
import Derived.Lib.Bytealg
import Derived.Laws.MakeOwn
import Derived.Test.YtjjpdnpbhdcpbaaGreatLayR
import Derived.Lib.OthersKept
import Derived.Test.YtjjpdnpbhdcpbaaGreatQSgD
import Derived.RangeFuncNested
import Derived.RangeFuncBound
import Derived.RangeFuncCalls
import Derived.RangeFuncLeaves
import Derived.Shelf.Abstract
import Derived.Shelf.RegionOpen
import Derived.OwnWalkIn
import Derived.TacticsInMore
import Derived.LoopNIn
import Derived.LoopIn
import Derived.Lib.FrozenHead2
import Derived.OrdersIn
import Derived.RangeFuncFrom
import Derived.Laws.ResultCell
import Derived.Test.YtjjpdnpbhdcpbaaGreatQCdB
import Derived.Laws.DeepNot64
import Derived.Test.YtjjpdnpbhdcpbaaGreatQCkZ
import Derived.Test.YtjjpdnpbhdcpbaaGreatQCkY
import Derived.Test.YtjjpdnpbhdcpbaaGreatQCkX
import Derived.Test.YtjjpdnpbhdcpbaaGreatOSgP
import Derived.Test.YtjjpdnpbhdcpbaaGreatORkE
namespace Go.Proofs.YtjjpdnpbhdcpbaaGreat
set_option linter.unusedVariables false
open Go.RowKit Go.Shelf
attribute [local go_sem] Oper.semAt_some
set_option maxRecDepth 20000 in
set_option maxHeartbeats 8000000 in
theorem ckObserves_walk (x : Wit) (y : CkV) (Y : Option Addr) (P : List Sg.Str) (d : Nat) (w : World) (hy : CkV.ok w y) (hf : CkV.few y) (hP : Rd w Y (strs P)) (hd : P.length ≤ d) (hdm : d ≤ maxLen) (hPw : weight P ≤ 1099511627776)
 (s1 : x.seed.length ≤ 1048576) (s2 : x.o.length ≤ 1048576) (s3 : x.key.length ≤ 1048576) (s4 : x.r.length ≤ 1048576) (s5 : x.ho.length ≤ 1048576) :
 Calls Tryz.prog 6 #[.agg (witA x), .agg (ckA y), .slice Y P.length d] w fun e w' => e = .returned (.bool true) ∧ Below w.heap.size w w' := by
 have z1 := bytes_size x.seed
 have z2 := bytes_size x.o
 have z3 := bytes_size x.key
 have z4 := bytes_size x.r
 have z5 := bytes_size x.ho
 have kO : ∀ (W' : World), Below w.heap.size w W' → Calls Tryz.prog 35 #[.agg (witA x), .agg (ckA y), .slice Y P.length d] W' (ObsP (obsR x y P) W') := fun (W' : World) (hb : Below w.heap.size w W') => observe_spec x y Y P d W' (hy.below hb) (hP.below hb) hd hdm (by omega)
 have rO : P.length ≤ 4096 → ∀ (W' : World), Below w.heap.size w W' → Calls Tryz.prog 36 #[.agg (witA x), .agg (ckA y), .slice Y P.length d] W' (ObsP (obsR x y P) W') := fun h4 (W' : World) (hb : Below w.heap.size w W') => robserve_spec x y Y P d W' (hy.below hb) (hP.below hb) hd hdm h4 (by omega)
 generalize obsR x y P = Q at kO rO
 obtain ⟨⟨v1, v2, v3, v4, v5, v6, v7, v8⟩, ⟨q1, q2, D, U⟩, q5⟩ := Q
 obtain ⟨o, z, r, i, A, C, a, B, T, b, X, L, c⟩ := y
 obtain ⟨ow, key, seed, h, n, ho, zw, rw⟩ := x
 obtain ⟨g1, g2, g3, g4⟩ := hf
 unfold ObsP witA ckA at kO rO
 unfold witA ckA
 dsimp only at g1 g2 g3 g4 kO rO z1 z2 z3 z4 z5 s1 s2 s3 s4 s5 ⊢
 have y0 := ((St.nil w).alloc 37 #[.string ⟨ow.toArray⟩, .string ⟨key.toArray⟩, .string ⟨seed.toArray⟩, .int .i64 h, .int .i64 n, .string ⟨ho.toArray⟩, .int .i64 zw, .string ⟨rw.toArray⟩]).alloc 32 #[.string ⟨o.toArray⟩, .int .i64 z, .string ⟨r.toArray⟩, .int .i64 i, .slice A C.length a, .slice B T.length b, .slice X L.length c]
 rw [World.size_alloc] at y0
 have Y0 := Lib.hid y0
 clear y0
 have kF := fun (W' : World) (hb : Below w.heap.size w W') => ckfew_spec o z r i A B C T a b X L c W' (hy.below hb).2.2.2.2.2.2.1 g1 (hy.below hb).1 (hy.below hb).2.1 g2 g3 hy.2.2.1 hy.2.2.2.1 hy.2.2.2.2.1 hy.2.2.2.2.2.1 g4
 have kP := fun (W' : World) (hb : Below w.heap.size w W') => mfew_spec Y P d W' (hP.below hb) (by omega)
 generalize ckFew o r C T L = p at kF
 generalize fewB P = pf at kP
 have pl : (P.length : Int) ≤ (d : Int) := by omega
 clear hy g1 g2 g3 g4 hP
 have t1 : (seed.length : Int) ≤ 1048576 := by omega
 have t2 : (ow.length : Int) ≤ 1048576 := by omega
 have t3 : (key.length : Int) ≤ 1048576 := by omega
 have t4 : (rw.length : Int) ≤ 1048576 := by omega
 have t5 : (ho.length : Int) ≤ 1048576 := by omega
 clear s1 s2 s3 s4 s5
 cases p with
 | false =>
   clear kO rO kP hd hdm hPw
   go_enter Tryz.func6, Tryz.ntmps6
   go_wp2_with fail
   refine (awake_ck _).mono ?_
   rintro e w1 ⟨rfl, b1⟩
   have y1 := Y0.out.under b1
   clear b1
   have a0 := y1.tail.blk.cell 0
   have a1 := y1.tail.blk.cell 1
   have a2 := y1.tail.blk.cell 2
   have a3 := y1.tail.blk.cell 3
   have a4 := y1.tail.blk.cell 4
   have a5 := y1.tail.blk.cell 5
   have a6 := y1.tail.blk.cell 6
   have a7 := y1.tail.blk.cell 7
   have e0 := y1.blk.cell 0
   have e1 := y1.blk.cell 1
   have e2 := y1.blk.cell 2
   have e3 := y1.blk.cell 3
   have e4 := y1.blk.cell 4
   have e5 := y1.blk.cell 5
   have e6 := y1.blk.cell 6
   go_wp2_with fail
   refine (kF _ y1.below).mono ?_
   rintro e w2 ⟨rfl, b2⟩
   have y2 := y1.under b2
   clear kF b2 y1 a0 a1 a2 a3 a4 a5 a6 a7 e0 e1 e2 e3 e4 e5 e6
   have a0 := y2.tail.blk.cell 0
   have a1 := y2.tail.blk.cell 1
   have a2 := y2.tail.blk.cell 2
   have a3 := y2.tail.blk.cell 3
   have a4 := y2.tail.blk.cell 4
   have a5 := y2.tail.blk.cell 5
   have a6 := y2.tail.blk.cell 6
   have a7 := y2.tail.blk.cell 7
   have e0 := y2.blk.cell 0
   have e1 := y2.blk.cell 1
   have e2 := y2.blk.cell 2
   have e3 := y2.blk.cell 3
   have e4 := y2.blk.cell 4
   have e5 := y2.blk.cell 5
   have e6 := y2.blk.cell 6
   go_wp2
   go_ret
   exact ⟨rfl, y2.below⟩
 | true =>
   have hc : (2 < h ∧ h ≤ 6) ∨ (¬ 2 < h) ∨ (2 < h ∧ ¬ h ≤ 6) := by omega
   rcases hc with ⟨h1, h2⟩ | h1 | ⟨h1, h2⟩
   ·clear kO rO kP hd hdm hPw
    go_enter Tryz.func6, Tryz.ntmps6
    go_wp2_with fail
    refine (awake_ck _).mono ?_
    rintro e w1 ⟨rfl, b1⟩
    have y1 := Y0.out.under b1
    clear b1
    have a0 := y1.tail.blk.cell 0
    have a1 := y1.tail.blk.cell 1
    have a2 := y1.tail.blk.cell 2
    have a3 := y1.tail.blk.cell 3
    have a4 := y1.tail.blk.cell 4
    have a5 := y1.tail.blk.cell 5
    have a6 := y1.tail.blk.cell 6
    have a7 := y1.tail.blk.cell 7
    have e0 := y1.blk.cell 0
    have e1 := y1.blk.cell 1
    have e2 := y1.blk.cell 2
    have e3 := y1.blk.cell 3
    have e4 := y1.blk.cell 4
    have e5 := y1.blk.cell 5
    have e6 := y1.blk.cell 6
    go_wp2_with fail
    refine (kF _ y1.below).mono ?_
    rintro e w2 ⟨rfl, b2⟩
    have y2 := y1.under b2
    clear kF b2 y1 a0 a1 a2 a3 a4 a5 a6 a7 e0 e1 e2 e3 e4 e5 e6
    have a0 := y2.tail.blk.cell 0
    have a1 := y2.tail.blk.cell 1
    have a2 := y2.tail.blk.cell 2
    have a3 := y2.tail.blk.cell 3
    have a4 := y2.tail.blk.cell 4
    have a5 := y2.tail.blk.cell 5
    have a6 := y2.tail.blk.cell 6
    have a7 := y2.tail.blk.cell 7
    have e0 := y2.blk.cell 0
    have e1 := y2.blk.cell 1
    have e2 := y2.blk.cell 2
    have e3 := y2.blk.cell 3
    have e4 := y2.blk.cell 4
    have e5 := y2.blk.cell 5
    have e6 := y2.blk.cell 6
    go_wp2
    go_ret
    exact ⟨rfl, y2.below⟩
   all_goals
    by_cases hs : (600 : Int) < (seed.length : Int) + (ow.length : Int) + (key.length : Int) + (rw.length : Int) + (ho.length : Int)
    ·clear kO rO kP hd hdm hPw
     go_enter Tryz.func6, Tryz.ntmps6
     go_wp2_with fail
     refine (awake_ck _).mono ?_
     rintro e w1 ⟨rfl, b1⟩
     have y1 := Y0.out.under b1
     clear b1
     have a0 := y1.tail.blk.cell 0
     have a1 := y1.tail.blk.cell 1
     have a2 := y1.tail.blk.cell 2
     have a3 := y1.tail.blk.cell 3
     have a4 := y1.tail.blk.cell 4
     have a5 := y1.tail.blk.cell 5
     have a6 := y1.tail.blk.cell 6
     have a7 := y1.tail.blk.cell 7
     have e0 := y1.blk.cell 0
     have e1 := y1.blk.cell 1
     have e2 := y1.blk.cell 2
     have e3 := y1.blk.cell 3
     have e4 := y1.blk.cell 4
     have e5 := y1.blk.cell 5
     have e6 := y1.blk.cell 6
     go_wp2_with fail
     refine (kF _ y1.below).mono ?_
     rintro e w2 ⟨rfl, b2⟩
     have y2 := y1.under b2
     clear kF b2 y1 a0 a1 a2 a3 a4 a5 a6 a7 e0 e1 e2 e3 e4 e5 e6
     have a0 := y2.tail.blk.cell 0
     have a1 := y2.tail.blk.cell 1
     have a2 := y2.tail.blk.cell 2
     have a3 := y2.tail.blk.cell 3
     have a4 := y2.tail.blk.cell 4
     have a5 := y2.tail.blk.cell 5
     have a6 := y2.tail.blk.cell 6
     have a7 := y2.tail.blk.cell 7
     have e0 := y2.blk.cell 0
     have e1 := y2.blk.cell 1
     have e2 := y2.blk.cell 2
     have e3 := y2.blk.cell 3
     have e4 := y2.blk.cell 4
     have e5 := y2.blk.cell 5
     have e6 := y2.blk.cell 6
     go_wp2
     go_ret
     exact ⟨rfl, y2.below⟩
    ·by_cases h20 : P.length ≤ 20
     ·have h20' : ¬ ((20 : Int) < (P.length : Int)) := by omega
      have rO := rO (by omega)
      clear hd hdm hPw h20
      cases pf with
      | false =>
        clear kO rO
        go_enter Tryz.func6, Tryz.ntmps6
        go_wp2_with fail
        refine (awake_ck _).mono ?_
        rintro e w1 ⟨rfl, b1⟩
        have y1 := Y0.out.under b1
        clear b1
        have a0 := y1.tail.blk.cell 0
        have a1 := y1.tail.blk.cell 1
        have a2 := y1.tail.blk.cell 2
        have a3 := y1.tail.blk.cell 3
        have a4 := y1.tail.blk.cell 4
        have a5 := y1.tail.blk.cell 5
        have a6 := y1.tail.blk.cell 6
        have a7 := y1.tail.blk.cell 7
        have e0 := y1.blk.cell 0
        have e1 := y1.blk.cell 1
        have e2 := y1.blk.cell 2
        have e3 := y1.blk.cell 3
        have e4 := y1.blk.cell 4
        have e5 := y1.blk.cell 5
        have e6 := y1.blk.cell 6
        go_wp2_with fail
        refine (kF _ y1.below).mono ?_
        rintro e w2 ⟨rfl, b2⟩
        have y2 := y1.under b2
        clear kF b2 y1 a0 a1 a2 a3 a4 a5 a6 a7 e0 e1 e2 e3 e4 e5 e6
        have a0 := y2.tail.blk.cell 0
        have a1 := y2.tail.blk.cell 1
        have a2 := y2.tail.blk.cell 2
        have a3 := y2.tail.blk.cell 3
        have a4 := y2.tail.blk.cell 4
        have a5 := y2.tail.blk.cell 5
        have a6 := y2.tail.blk.cell 6
        have a7 := y2.tail.blk.cell 7
        have e0 := y2.blk.cell 0
        have e1 := y2.blk.cell 1
        have e2 := y2.blk.cell 2
        have e3 := y2.blk.cell 3
        have e4 := y2.blk.cell 4
        have e5 := y2.blk.cell 5
        have e6 := y2.blk.cell 6
        go_wp2_with fail
        refine (kP _ y2.below).mono ?_
        rintro e w3 ⟨rfl, rfl⟩
        clear kP
        go_wp2
        go_ret
        exact ⟨rfl, y2.below⟩
      | true =>
        go_enter Tryz.func6, Tryz.ntmps6
        go_wp2_with fail
        refine (awake_ck _).mono ?_
        rintro e w1 ⟨rfl, b1⟩
        have y1 := Y0.out.under b1
        clear b1
        have a0 := y1.tail.blk.cell 0
        have a1 := y1.tail.blk.cell 1
        have a2 := y1.tail.blk.cell 2
        have a3 := y1.tail.blk.cell 3
        have a4 := y1.tail.blk.cell 4
        have a5 := y1.tail.blk.cell 5
        have a6 := y1.tail.blk.cell 6
        have a7 := y1.tail.blk.cell 7
        have e0 := y1.blk.cell 0
        have e1 := y1.blk.cell 1
        have e2 := y1.blk.cell 2
        have e3 := y1.blk.cell 3
        have e4 := y1.blk.cell 4
        have e5 := y1.blk.cell 5
        have e6 := y1.blk.cell 6
        go_wp2_with fail
        refine (kF _ y1.below).mono ?_
        rintro e w2 ⟨rfl, b2⟩
        have y2 := y1.under b2
        clear kF b2 y1 a0 a1 a2 a3 a4 a5 a6 a7 e0 e1 e2 e3 e4 e5 e6
        have a0 := y2.tail.blk.cell 0
        have a1 := y2.tail.blk.cell 1
        have a2 := y2.tail.blk.cell 2
        have a3 := y2.tail.blk.cell 3
        have a4 := y2.tail.blk.cell 4
        have a5 := y2.tail.blk.cell 5
        have a6 := y2.tail.blk.cell 6
        have a7 := y2.tail.blk.cell 7
        have e0 := y2.blk.cell 0
        have e1 := y2.blk.cell 1
        have e2 := y2.blk.cell 2
        have e3 := y2.blk.cell 3
        have e4 := y2.blk.cell 4
        have e5 := y2.blk.cell 5
        have e6 := y2.blk.cell 6
        go_wp2_with fail
        refine (kP _ y2.below).mono ?_
        rintro e w3 ⟨rfl, rfl⟩
        clear kP
        go_wp2_with fail
        refine (kO _ y2.below).mono ?_
        rintro e w4 ⟨va, vb, rfl, t1⟩
        obtain ⟨A1, n1, rfl, u11, u12⟩ := own_form t1.own
        obtain ⟨B1, m1, rfl, u13, u14⟩ := own_form t1.tail.own
        have U1 := Lib.hid (And.intro u11 (And.intro u12 (And.intro u13 u14)))
        have y4 := ((y2.join t1).alloc 37 #[.string ⟨v1.toArray⟩, .string ⟨v2.toArray⟩, .string ⟨v3.toArray⟩, .int .i64 v4, .int .i64 v5, .string ⟨v6.toArray⟩, .int .i64 v7, .string ⟨v8.toArray⟩]).alloc 64 #[.string ⟨q1.toArray⟩, .int .i64 q2, .slice A1 D.length n1, .slice B1 U.length m1]
        rw [World.size_alloc] at y4
        obtain ⟨g1, hg1⟩ : ∃ q, w4.heap.size = q := ⟨_, rfl⟩
        rw [hg1] at y4
        obtain ⟨w4x, hw1, y4⟩ : ∃ q, (w4.alloc (.cells #[.string ⟨v1.toArray⟩, .string ⟨v2.toArray⟩, .string ⟨v3.toArray⟩, .int .i64 v4, .int .i64 v5, .string ⟨v6.toArray⟩, .int .i64 v7, .string ⟨v8.toArray⟩] 37)).alloc (.cells #[.string ⟨q1.toArray⟩, .int .i64 q2, .slice A1 D.length n1, .slice B1 U.length m1] 64) = q ∧ St w.heap.size w q _ := ⟨_, rfl, y4⟩
        clear kO t1 y2 u11 u12 u13 u14 a0 a1 a2 a3 a4 a5 a6 a7 e0 e1 e2 e3 e4 e5 e6
        have a0 := y4.tail.tail.tail.tail.tail.blk.cell 0
        have a1 := y4.tail.tail.tail.tail.tail.blk.cell 1
        have a2 := y4.tail.tail.tail.tail.tail.blk.cell 2
        have a3 := y4.tail.tail.tail.tail.tail.blk.cell 3
        have a4 := y4.tail.tail.tail.tail.tail.blk.cell 4
        have a5 := y4.tail.tail.tail.tail.tail.blk.cell 5
        have a6 := y4.tail.tail.tail.tail.tail.blk.cell 6
        have a7 := y4.tail.tail.tail.tail.tail.blk.cell 7
        have e0 := y4.tail.tail.tail.tail.blk.cell 0
        have e1 := y4.tail.tail.tail.tail.blk.cell 1
        have e2 := y4.tail.tail.tail.tail.blk.cell 2
        have e3 := y4.tail.tail.tail.tail.blk.cell 3
        have e4 := y4.tail.tail.tail.tail.blk.cell 4
        have e5 := y4.tail.tail.tail.tail.blk.cell 5
        have e6 := y4.tail.tail.tail.tail.blk.cell 6
        go_wp2_with fail
        refine (rO _ y4.below).mono ?_
        rintro e w5 ⟨va, vb, rfl, t2⟩
        obtain ⟨A2, n2, rfl, u21, u22⟩ := own_form t2.own
        obtain ⟨B2, m2, rfl, u23, u24⟩ := own_form t2.tail.own
        have U2 := Lib.hid (And.intro u21 (And.intro u22 (And.intro u23 u24)))
        have y5 := ((y4.join t2).alloc 37 #[.string ⟨v1.toArray⟩, .string ⟨v2.toArray⟩, .string ⟨v3.toArray⟩, .int .i64 v4, .int .i64 v5, .string ⟨v6.toArray⟩, .int .i64 v7, .string ⟨v8.toArray⟩]).alloc 64 #[.string ⟨q1.toArray⟩, .int .i64 q2, .slice A2 D.length n2, .slice B2 U.length m2]
        rw [World.size_alloc] at y5
        obtain ⟨g2, hg2⟩ : ∃ q, w5.heap.size = q := ⟨_, rfl⟩
        rw [hg2] at y5
        obtain ⟨w5x, hw2, y5⟩ : ∃ q, (w5.alloc (.cells #[.string ⟨v1.toArray⟩, .string ⟨v2.toArray⟩, .string ⟨v3.toArray⟩, .int .i64 v4, .int .i64 v5, .string ⟨v6.toArray⟩, .int .i64 v7, .string ⟨v8.toArray⟩] 37)).alloc (.cells #[.string ⟨q1.toArray⟩, .int .i64 q2, .slice A2 D.length n2, .slice B2 U.length m2] 64) = q ∧ St w.heap.size w q _ := ⟨_, rfl, y5⟩
        clear rO t2 y4 u21 u22 u23 u24 a0 a1 a2 a3 a4 a5 a6 a7 e0 e1 e2 e3 e4 e5 e6
        clear hw1 hg1
        have wa0 := y5.tail.tail.tail.tail.tail.blk.cell 0
        have wa1 := y5.tail.tail.tail.tail.tail.blk.cell 1
        have wa2 := y5.tail.tail.tail.tail.tail.blk.cell 2
        have wa3 := y5.tail.tail.tail.tail.tail.blk.cell 3
        have wa4 := y5.tail.tail.tail.tail.tail.blk.cell 4
        have wa5 := y5.tail.tail.tail.tail.tail.blk.cell 5
        have wa6 := y5.tail.tail.tail.tail.tail.blk.cell 6
        have wa7 := y5.tail.tail.tail.tail.tail.blk.cell 7
        have wb0 := y5.tail.blk.cell 0
        have wb1 := y5.tail.blk.cell 1
        have wb2 := y5.tail.blk.cell 2
        have wb3 := y5.tail.blk.cell 3
        have wb4 := y5.tail.blk.cell 4
        have wb5 := y5.tail.blk.cell 5
        have wb6 := y5.tail.blk.cell 6
        have wb7 := y5.tail.blk.cell 7
        have ca0 := y5.tail.tail.tail.tail.blk.cell 0
        have ca1 := y5.tail.tail.tail.tail.blk.cell 1
        have ca2 := y5.tail.tail.tail.tail.blk.cell 2
        have ca3 := y5.tail.tail.tail.tail.blk.cell 3
        have cb0 := y5.blk.cell 0
        have cb1 := y5.blk.cell 1
        have cb2 := y5.blk.cell 2
        have cb3 := y5.blk.cell 3
        have hsm := sameC_strip (⟨q1, q2, A1, D, n1, B1, U, m1⟩ : SgRow) ⟨q1, q2, A2, D, n2, B2, U, m2⟩ rfl
        have ks := samecos_spec (⟨q1, q2, A1, D, n1, B1, U, m1⟩ : SgRow) ⟨q1, q2, A2, D, n2, B2, U, m2⟩ w5x ⟨Rd.of_own y5.tail.tail.tail.tail.tail.tail.own, Rd.of_own y5.tail.tail.tail.tail.tail.tail.tail.own, U1.out.1, U1.out.2.1, U1.out.2.2.1, U1.out.2.2.2⟩ ⟨Rd.of_own y5.tail.tail.own, Rd.of_own y5.tail.tail.tail.own, U2.out.1, U2.out.2.1, U2.out.2.2.1, U2.out.2.2.2⟩
        rw [hsm] at ks
        dsimp only at ks
        have Y5 := Lib.hid y5
        clear hsm y5
        go_wp2_with fail
        refine ks.mono ?_
        rintro e w6 ⟨rfl, b6⟩
        have Y6 := Lib.hid (Y5.out.under b6)
        clear ks b6 Y5 hw2 hg2
        go_wp2
        go_ret
        exact ⟨rfl, Y6.out.below⟩
     ·have h20' : (20 : Int) < (P.length : Int) := by omega
      clear kO rO kP hd hdm hPw h20
      go_enter Tryz.func6, Tryz.ntmps6
      go_wp2_with fail
      refine (awake_ck _).mono ?_
      rintro e w1 ⟨rfl, b1⟩
      have y1 := Y0.out.under b1
      clear b1
      have a0 := y1.tail.blk.cell 0
      have a1 := y1.tail.blk.cell 1
      have a2 := y1.tail.blk.cell 2
      have a3 := y1.tail.blk.cell 3
      have a4 := y1.tail.blk.cell 4
      have a5 := y1.tail.blk.cell 5
      have a6 := y1.tail.blk.cell 6
      have a7 := y1.tail.blk.cell 7
      have e0 := y1.blk.cell 0
      have e1 := y1.blk.cell 1
      have e2 := y1.blk.cell 2
      have e3 := y1.blk.cell 3
      have e4 := y1.blk.cell 4
      have e5 := y1.blk.cell 5
      have e6 := y1.blk.cell 6
      go_wp2_with fail
      refine (kF _ y1.below).mono ?_
      rintro e w2 ⟨rfl, b2⟩
      have y2 := y1.under b2
      clear kF b2 y1 a0 a1 a2 a3 a4 a5 a6 a7 e0 e1 e2 e3 e4 e5 e6
      have a0 := y2.tail.blk.cell 0
      have a1 := y2.tail.blk.cell 1
      have a2 := y2.tail.blk.cell 2
      have a3 := y2.tail.blk.cell 3
      have a4 := y2.tail.blk.cell 4
      have a5 := y2.tail.blk.cell 5
      have a6 := y2.tail.blk.cell 6
      have a7 := y2.tail.blk.cell 7
      have e0 := y2.blk.cell 0
      have e1 := y2.blk.cell 1
      have e2 := y2.blk.cell 2
      have e3 := y2.blk.cell 3
      have e4 := y2.blk.cell 4
      have e5 := y2.blk.cell 5
      have e6 := y2.blk.cell 6
      go_wp2
      go_ret
      exact ⟨rfl, y2.below⟩
end Go.Proofs.YtjjpdnpbhdcpbaaGreat
