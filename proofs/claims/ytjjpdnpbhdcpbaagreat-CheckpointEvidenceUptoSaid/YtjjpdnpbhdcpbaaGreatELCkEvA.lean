/-
  CheckpointEvidence: the walk. Conditions: signatures and lists of bulk at most 2^40.
-/
import Derived.Test.YtjjpdnpbhdcpbaaGreatQCkAw
import Derived.Test.YtjjpdnpbhdcpbaaGreatQCkAwA
import Derived.Test.YtjjpdnpbhdcpbaaGreatQPe
import Derived.Test.YtjjpdnpbhdcpbaaGreatECkR
import Derived.Test.YtjjpdnpbhdcpbaaGreatQPd
import Derived.Test.YtjjpdnpbhdcpbaaGreatQCkL
import Derived.Test.YtjjpdnpbhdcpbaaGreatQCkK
import Derived.Test.YtjjpdnpbhdcpbaaGreatQCkJ
import Derived.Test.YtjjpdnpbhdcpbaaGreatQCkI
import Derived.Test.YtjjpdnpbhdcpbaaGreatQCkH
import Derived.Test.YtjjpdnpbhdcpbaaGreatQCkF
import Derived.Test.YtjjpdnpbhdcpbaaGreatQCkE
import Derived.Test.YtjjpdnpbhdcpbaaGreatQPa
import Derived.Test.YtjjpdnpbhdcpbaaGreatEPa
import Derived.Test.YtjjpdnpbhdcpbaaGreatQBase
import Derived.Test.YtjjpdnpbhdcpbaaGreatQCkC
import Derived.Test.YtjjpdnpbhdcpbaaGreatEPb
import Derived.Test.YtjjpdnpbhdcpbaaGreatQPc
import Derived.Test.YtjjpdnpbhdcpbaaGreatESgP
import Derived.Test.YtjjpdnpbhdcpbaaGreatQCdB
import Derived.Test.YtjjpdnpbhdcpbaaGreatProg
import Derived.Test.YtjjpdnpbhdcpbaaGreatQCdA
import Derived.Laws.DeepNot64
import Derived.Test.YtjjpdnpbhdcpbaaGreatEMkB
import Derived.Test.YtjjpdnpbhdcpbaaGreatQMkB
import Derived.Deep.Strs
import Derived.Maps.OwnSet
import Derived.Test.YtjjpdnpbhdcpbaaGreatQPb
import Derived.Test.YtjjpdnpbhdcpbaaGreatQSgJ
import Derived.Test.YtjjpdnpbhdcpbaaGreatQSgI
import Derived.Test.YtjjpdnpbhdcpbaaGreatQSgH
import Derived.Test.YtjjpdnpbhdcpbaaGreatQSgG
import Derived.Test.YtjjpdnpbhdcpbaaGreatQSgF
import Derived.Test.YtjjpdnpbhdcpbaaGreatQShaB
import Derived.Test.YtjjpdnpbhdcpbaaGreatQShaA
import Derived.Laws.BitsAllLaws
import Derived.BigQuiet
import Derived.BigRegion
import Derived.Deep.RegionHeld3
import Derived.Test.YtjjpdnpbhdcpbaaGreatLayC
import Derived.Test.YtjjpdnpbhdcpbaaGreatLay
import Derived.Laws.CopyRow
import Derived.Laws.IdiomStrings
import Derived.Lib.Bytealg
import Derived.Laws.MakeOwn
import Derived.Test.YtjjpdnpbhdcpbaaGreatLayR
import Derived.Lib.OthersKept
import Derived.Test.YtjjpdnpbhdcpbaaGreatQSgD
import Derived.RangeFuncNested
import Derived.RangeFuncBound
import Derived.RangeFuncCalls
import Derived.RangeFuncLeaves
import Derived.Shelf.Abstract
import Derived.Shelf.RegionOpen
import Derived.OwnWalkIn
import Derived.TacticsInMore
import Derived.LoopNIn
import Derived.LoopIn
import Derived.Lib.FrozenHead2
import Derived.OrdersIn
import Derived.RangeFuncFrom
import Derived.Laws.ResultCell
import Derived.Test.YtjjpdnpbhdcpbaaGreatQCkZ
import Derived.Test.YtjjpdnpbhdcpbaaGreatQCkY
import Derived.Test.YtjjpdnpbhdcpbaaGreatQCkX
import Derived.Test.YtjjpdnpbhdcpbaaGreatERkC
import Derived.Test.YtjjpdnpbhdcpbaaGreatERkD
import Derived.Test.YtjjpdnpbhdcpbaaGreatERkQ
namespace Go.Proofs.YtjjpdnpbhdcpbaaGreat
set_option linter.unusedVariables false
open Go.RowKit Go.Shelf
attribute [local go_sem] Oper.semAt_some
set_option maxRecDepth 20000 in
set_option maxHeartbeats 8000000 in
theorem ckEvidence_no (pub : Sg.Str) (x y : CkV) (rt : Sg.Str) (Y : Option Addr) (P : List Sg.Str) (d : Nat) (Z : Option Addr) (L : List Sg.Str) (l : Nat) (w : World) (hx : CkV.ok w x) (hfx : CkV.few x) (hy : CkV.ok w y) (hfy : CkV.few y) (hP : Rd w Y (strs P)) (hd : P.length ≤ d) (hdm : d ≤ maxLen) (hPw : weight P ≤ 1099511627776)
 (hL : Rd w Z (strs L)) (hl : L.length ≤ l) (hlm : l ≤ maxLen) (hLw : weight L ≤ 1099511627776)
 (hno : 200 < pub.length ∨ 200 < rt.length ∨ ckFew x.o x.r x.C x.T x.L = false ∨ ckFew y.o y.r y.C y.T y.L = false ∨ 20 < P.length ∨ fewB P = false ∨ 30 < L.length ∨ fewB L = false) :
 Calls Tryz.prog 7 #[.string ⟨pub.toArray⟩, .agg (evA x y rt (.slice Y P.length d)), .slice Z L.length l] w fun e w' => e = .returned (.bool true) ∧ Below w.heap.size w w' := by
 have z1 := bytes_size pub
 have z2 := bytes_size rt
 obtain ⟨o1, z1, r1, i1, A1, C1, a1, B1, T1, b1, X1, L1, c1⟩ := x
 obtain ⟨o2, z2, r2, i2, A2, C2, a2, B2, T2, b2, X2, L2, c2⟩ := y
 obtain ⟨f1, f2, f3, f4⟩ := hfx
 obtain ⟨f5, f6, f7, f8⟩ := hfy
 unfold evA
 dsimp only at f1 f2 f3 f4 f5 f6 f7 f8 hno ⊢
 have y0 := (St.nil w).alloc 70 #[.string ⟨o1.toArray⟩, .int .i64 z1, .string ⟨r1.toArray⟩, .int .i64 i1, .slice A1 C1.length a1, .slice B1 T1.length b1, .slice X1 L1.length c1, .string ⟨o2.toArray⟩, .int .i64 z2, .string ⟨r2.toArray⟩, .int .i64 i2, .slice A2 C2.length a2, .slice B2 T2.length b2, .slice X2 L2.length c2, .string ⟨rt.toArray⟩, .slice Y P.length d]
 have Y0 := Lib.hid y0
 clear y0
 have kF1 := fun (W' : World) (hb : Below w.heap.size w W') => ckfew_spec o1 z1 r1 i1 A1 B1 C1 T1 a1 b1 X1 L1 c1 W' (hx.below hb).2.2.2.2.2.2.1 f1 (hx.below hb).1 (hx.below hb).2.1 f2 f3 hx.2.2.1 hx.2.2.2.1 hx.2.2.2.2.1 hx.2.2.2.2.2.1 f4
 have kF2 := fun (W' : World) (hb : Below w.heap.size w W') => ckfew_spec o2 z2 r2 i2 A2 B2 C2 T2 a2 b2 X2 L2 c2 W' (hy.below hb).2.2.2.2.2.2.1 f5 (hy.below hb).1 (hy.below hb).2.1 f6 f7 hy.2.2.1 hy.2.2.2.1 hy.2.2.2.2.1 hy.2.2.2.2.2.1 f8
 have kP := fun (W' : World) (hb : Below w.heap.size w W') => mfew_spec Y P d W' (hP.below hb) (by omega)
 have kL := fun (W' : World) (hb : Below w.heap.size w W') => mfew_spec Z L l W' (hL.below hb) (by omega)
 generalize ckFew o1 r1 C1 T1 L1 = q1 at kF1 hno
 generalize ckFew o2 r2 C2 T2 L2 = q2 at kF2 hno
 generalize fewB P = q3 at kP hno
 generalize fewB L = q4 at kL hno
 have pl : (P.length : Int) ≤ (d : Int) := by omega
 have ll : (L.length : Int) ≤ (l : Int) := by omega
 clear hx hy f1 f2 f3 f4 f5 f6 f7 f8 hP hL hd hl hdm hlm hPw hLw
 by_cases h1 : pub.length ≤ 200
 ·have h1' : ¬ ((200 : Int) < (pub.length : Int)) := by omega
  by_cases h2 : rt.length ≤ 200
  ·have h2' : ¬ ((200 : Int) < (rt.length : Int)) := by omega
   cases q1 with
   | false =>
     clear hno kF2 kP kL h1 h2
     go_enter Tryz.func7, Tryz.ntmps7
     go_wp2_with fail
     refine (awake_ck _).mono ?_
     rintro e w1 ⟨rfl, bw⟩
     have y1 := Y0.out.under bw
     clear bw
     have ee0 := y1.blk.cell 0
     have ee1 := y1.blk.cell 1
     have ee2 := y1.blk.cell 2
     have ee3 := y1.blk.cell 3
     have ee4 := y1.blk.cell 4
     have ee5 := y1.blk.cell 5
     have ee6 := y1.blk.cell 6
     have ee7 := y1.blk.cell 7
     have ee8 := y1.blk.cell 8
     have ee9 := y1.blk.cell 9
     have ee10 := y1.blk.cell 10
     have ee11 := y1.blk.cell 11
     have ee12 := y1.blk.cell 12
     have ee13 := y1.blk.cell 13
     have ee14 := y1.blk.cell 14
     have ee15 := y1.blk.cell 15
     go_wp2_with fail
     refine (kF1 _ y1.below).mono ?_
     rintro e w2 ⟨rfl, bw⟩
     have y2 := y1.under bw
     clear kF1 bw y1 ee0 ee1 ee2 ee3 ee4 ee5 ee6 ee7 ee8 ee9 ee10 ee11 ee12 ee13 ee14 ee15
     have ee0 := y2.blk.cell 0
     have ee1 := y2.blk.cell 1
     have ee2 := y2.blk.cell 2
     have ee3 := y2.blk.cell 3
     have ee4 := y2.blk.cell 4
     have ee5 := y2.blk.cell 5
     have ee6 := y2.blk.cell 6
     have ee7 := y2.blk.cell 7
     have ee8 := y2.blk.cell 8
     have ee9 := y2.blk.cell 9
     have ee10 := y2.blk.cell 10
     have ee11 := y2.blk.cell 11
     have ee12 := y2.blk.cell 12
     have ee13 := y2.blk.cell 13
     have ee14 := y2.blk.cell 14
     have ee15 := y2.blk.cell 15
     go_wp2
     go_ret
     exact ⟨rfl, y2.below⟩
   | true =>
     cases q2 with
     | false =>
       clear hno kP kL h1 h2
       go_enter Tryz.func7, Tryz.ntmps7
       go_wp2_with fail
       refine (awake_ck _).mono ?_
       rintro e w1 ⟨rfl, bw⟩
       have y1 := Y0.out.under bw
       clear bw
       have ee0 := y1.blk.cell 0
       have ee1 := y1.blk.cell 1
       have ee2 := y1.blk.cell 2
       have ee3 := y1.blk.cell 3
       have ee4 := y1.blk.cell 4
       have ee5 := y1.blk.cell 5
       have ee6 := y1.blk.cell 6
       have ee7 := y1.blk.cell 7
       have ee8 := y1.blk.cell 8
       have ee9 := y1.blk.cell 9
       have ee10 := y1.blk.cell 10
       have ee11 := y1.blk.cell 11
       have ee12 := y1.blk.cell 12
       have ee13 := y1.blk.cell 13
       have ee14 := y1.blk.cell 14
       have ee15 := y1.blk.cell 15
       go_wp2_with fail
       refine (kF1 _ y1.below).mono ?_
       rintro e w2 ⟨rfl, bw⟩
       have y2 := y1.under bw
       clear kF1 bw y1 ee0 ee1 ee2 ee3 ee4 ee5 ee6 ee7 ee8 ee9 ee10 ee11 ee12 ee13 ee14 ee15
       have ee0 := y2.blk.cell 0
       have ee1 := y2.blk.cell 1
       have ee2 := y2.blk.cell 2
       have ee3 := y2.blk.cell 3
       have ee4 := y2.blk.cell 4
       have ee5 := y2.blk.cell 5
       have ee6 := y2.blk.cell 6
       have ee7 := y2.blk.cell 7
       have ee8 := y2.blk.cell 8
       have ee9 := y2.blk.cell 9
       have ee10 := y2.blk.cell 10
       have ee11 := y2.blk.cell 11
       have ee12 := y2.blk.cell 12
       have ee13 := y2.blk.cell 13
       have ee14 := y2.blk.cell 14
       have ee15 := y2.blk.cell 15
       go_wp2_with fail
       refine (kF2 _ y2.below).mono ?_
       rintro e w3 ⟨rfl, bw⟩
       have y3 := y2.under bw
       clear kF2 bw y2 ee0 ee1 ee2 ee3 ee4 ee5 ee6 ee7 ee8 ee9 ee10 ee11 ee12 ee13 ee14 ee15
       have ee0 := y3.blk.cell 0
       have ee1 := y3.blk.cell 1
       have ee2 := y3.blk.cell 2
       have ee3 := y3.blk.cell 3
       have ee4 := y3.blk.cell 4
       have ee5 := y3.blk.cell 5
       have ee6 := y3.blk.cell 6
       have ee7 := y3.blk.cell 7
       have ee8 := y3.blk.cell 8
       have ee9 := y3.blk.cell 9
       have ee10 := y3.blk.cell 10
       have ee11 := y3.blk.cell 11
       have ee12 := y3.blk.cell 12
       have ee13 := y3.blk.cell 13
       have ee14 := y3.blk.cell 14
       have ee15 := y3.blk.cell 15
       go_wp2
       go_ret
       exact ⟨rfl, y3.below⟩
     | true =>
       by_cases h5 : P.length ≤ 20
       ·have h5' : ¬ ((20 : Int) < (P.length : Int)) := by omega
        cases q3 with
        | false =>
          clear hno kL h1 h2 h5
          go_enter Tryz.func7, Tryz.ntmps7
          go_wp2_with fail
          refine (awake_ck _).mono ?_
          rintro e w1 ⟨rfl, bw⟩
          have y1 := Y0.out.under bw
          clear bw
          have ee0 := y1.blk.cell 0
          have ee1 := y1.blk.cell 1
          have ee2 := y1.blk.cell 2
          have ee3 := y1.blk.cell 3
          have ee4 := y1.blk.cell 4
          have ee5 := y1.blk.cell 5
          have ee6 := y1.blk.cell 6
          have ee7 := y1.blk.cell 7
          have ee8 := y1.blk.cell 8
          have ee9 := y1.blk.cell 9
          have ee10 := y1.blk.cell 10
          have ee11 := y1.blk.cell 11
          have ee12 := y1.blk.cell 12
          have ee13 := y1.blk.cell 13
          have ee14 := y1.blk.cell 14
          have ee15 := y1.blk.cell 15
          go_wp2_with fail
          refine (kF1 _ y1.below).mono ?_
          rintro e w2 ⟨rfl, bw⟩
          have y2 := y1.under bw
          clear kF1 bw y1 ee0 ee1 ee2 ee3 ee4 ee5 ee6 ee7 ee8 ee9 ee10 ee11 ee12 ee13 ee14 ee15
          have ee0 := y2.blk.cell 0
          have ee1 := y2.blk.cell 1
          have ee2 := y2.blk.cell 2
          have ee3 := y2.blk.cell 3
          have ee4 := y2.blk.cell 4
          have ee5 := y2.blk.cell 5
          have ee6 := y2.blk.cell 6
          have ee7 := y2.blk.cell 7
          have ee8 := y2.blk.cell 8
          have ee9 := y2.blk.cell 9
          have ee10 := y2.blk.cell 10
          have ee11 := y2.blk.cell 11
          have ee12 := y2.blk.cell 12
          have ee13 := y2.blk.cell 13
          have ee14 := y2.blk.cell 14
          have ee15 := y2.blk.cell 15
          go_wp2_with fail
          refine (kF2 _ y2.below).mono ?_
          rintro e w3 ⟨rfl, bw⟩
          have y3 := y2.under bw
          clear kF2 bw y2 ee0 ee1 ee2 ee3 ee4 ee5 ee6 ee7 ee8 ee9 ee10 ee11 ee12 ee13 ee14 ee15
          have ee0 := y3.blk.cell 0
          have ee1 := y3.blk.cell 1
          have ee2 := y3.blk.cell 2
          have ee3 := y3.blk.cell 3
          have ee4 := y3.blk.cell 4
          have ee5 := y3.blk.cell 5
          have ee6 := y3.blk.cell 6
          have ee7 := y3.blk.cell 7
          have ee8 := y3.blk.cell 8
          have ee9 := y3.blk.cell 9
          have ee10 := y3.blk.cell 10
          have ee11 := y3.blk.cell 11
          have ee12 := y3.blk.cell 12
          have ee13 := y3.blk.cell 13
          have ee14 := y3.blk.cell 14
          have ee15 := y3.blk.cell 15
          go_wp2_with fail
          refine (kP _ y3.below).mono ?_
          rintro e w4 ⟨rfl, rfl⟩
          clear kP
          go_wp2
          go_ret
          exact ⟨rfl, y3.below⟩
        | true =>
          by_cases h7 : L.length ≤ 30
          ·have h7' : ¬ ((30 : Int) < (L.length : Int)) := by omega
           cases q4 with
           | false =>
             go_enter Tryz.func7, Tryz.ntmps7
             go_wp2_with fail
             refine (awake_ck _).mono ?_
             rintro e w1 ⟨rfl, bw⟩
             have y1 := Y0.out.under bw
             clear bw
             have ee0 := y1.blk.cell 0
             have ee1 := y1.blk.cell 1
             have ee2 := y1.blk.cell 2
             have ee3 := y1.blk.cell 3
             have ee4 := y1.blk.cell 4
             have ee5 := y1.blk.cell 5
             have ee6 := y1.blk.cell 6
             have ee7 := y1.blk.cell 7
             have ee8 := y1.blk.cell 8
             have ee9 := y1.blk.cell 9
             have ee10 := y1.blk.cell 10
             have ee11 := y1.blk.cell 11
             have ee12 := y1.blk.cell 12
             have ee13 := y1.blk.cell 13
             have ee14 := y1.blk.cell 14
             have ee15 := y1.blk.cell 15
             go_wp2_with fail
             refine (kF1 _ y1.below).mono ?_
             rintro e w2 ⟨rfl, bw⟩
             have y2 := y1.under bw
             clear kF1 bw y1 ee0 ee1 ee2 ee3 ee4 ee5 ee6 ee7 ee8 ee9 ee10 ee11 ee12 ee13 ee14 ee15
             have ee0 := y2.blk.cell 0
             have ee1 := y2.blk.cell 1
             have ee2 := y2.blk.cell 2
             have ee3 := y2.blk.cell 3
             have ee4 := y2.blk.cell 4
             have ee5 := y2.blk.cell 5
             have ee6 := y2.blk.cell 6
             have ee7 := y2.blk.cell 7
             have ee8 := y2.blk.cell 8
             have ee9 := y2.blk.cell 9
             have ee10 := y2.blk.cell 10
             have ee11 := y2.blk.cell 11
             have ee12 := y2.blk.cell 12
             have ee13 := y2.blk.cell 13
             have ee14 := y2.blk.cell 14
             have ee15 := y2.blk.cell 15
             go_wp2_with fail
             refine (kF2 _ y2.below).mono ?_
             rintro e w3 ⟨rfl, bw⟩
             have y3 := y2.under bw
             clear kF2 bw y2 ee0 ee1 ee2 ee3 ee4 ee5 ee6 ee7 ee8 ee9 ee10 ee11 ee12 ee13 ee14 ee15
             have ee0 := y3.blk.cell 0
             have ee1 := y3.blk.cell 1
             have ee2 := y3.blk.cell 2
             have ee3 := y3.blk.cell 3
             have ee4 := y3.blk.cell 4
             have ee5 := y3.blk.cell 5
             have ee6 := y3.blk.cell 6
             have ee7 := y3.blk.cell 7
             have ee8 := y3.blk.cell 8
             have ee9 := y3.blk.cell 9
             have ee10 := y3.blk.cell 10
             have ee11 := y3.blk.cell 11
             have ee12 := y3.blk.cell 12
             have ee13 := y3.blk.cell 13
             have ee14 := y3.blk.cell 14
             have ee15 := y3.blk.cell 15
             go_wp2_with fail
             refine (kP _ y3.below).mono ?_
             rintro e w4 ⟨rfl, rfl⟩
             clear kP
             go_wp2_with fail
             refine (kL _ y3.below).mono ?_
             rintro e w4 ⟨rfl, rfl⟩
             clear kL
             go_wp2
             go_ret
             exact ⟨rfl, y3.below⟩
           | true =>
             exfalso
             rcases hno with h | h | h | h | h | h | h | h
             all_goals first | omega | cases h
          ·have h7' : (30 : Int) < (L.length : Int) := by omega
           clear hno kL h1 h2 h5 h7
           go_enter Tryz.func7, Tryz.ntmps7
           go_wp2_with fail
           refine (awake_ck _).mono ?_
           rintro e w1 ⟨rfl, bw⟩
           have y1 := Y0.out.under bw
           clear bw
           have ee0 := y1.blk.cell 0
           have ee1 := y1.blk.cell 1
           have ee2 := y1.blk.cell 2
           have ee3 := y1.blk.cell 3
           have ee4 := y1.blk.cell 4
           have ee5 := y1.blk.cell 5
           have ee6 := y1.blk.cell 6
           have ee7 := y1.blk.cell 7
           have ee8 := y1.blk.cell 8
           have ee9 := y1.blk.cell 9
           have ee10 := y1.blk.cell 10
           have ee11 := y1.blk.cell 11
           have ee12 := y1.blk.cell 12
           have ee13 := y1.blk.cell 13
           have ee14 := y1.blk.cell 14
           have ee15 := y1.blk.cell 15
           go_wp2_with fail
           refine (kF1 _ y1.below).mono ?_
           rintro e w2 ⟨rfl, bw⟩
           have y2 := y1.under bw
           clear kF1 bw y1 ee0 ee1 ee2 ee3 ee4 ee5 ee6 ee7 ee8 ee9 ee10 ee11 ee12 ee13 ee14 ee15
           have ee0 := y2.blk.cell 0
           have ee1 := y2.blk.cell 1
           have ee2 := y2.blk.cell 2
           have ee3 := y2.blk.cell 3
           have ee4 := y2.blk.cell 4
           have ee5 := y2.blk.cell 5
           have ee6 := y2.blk.cell 6
           have ee7 := y2.blk.cell 7
           have ee8 := y2.blk.cell 8
           have ee9 := y2.blk.cell 9
           have ee10 := y2.blk.cell 10
           have ee11 := y2.blk.cell 11
           have ee12 := y2.blk.cell 12
           have ee13 := y2.blk.cell 13
           have ee14 := y2.blk.cell 14
           have ee15 := y2.blk.cell 15
           go_wp2_with fail
           refine (kF2 _ y2.below).mono ?_
           rintro e w3 ⟨rfl, bw⟩
           have y3 := y2.under bw
           clear kF2 bw y2 ee0 ee1 ee2 ee3 ee4 ee5 ee6 ee7 ee8 ee9 ee10 ee11 ee12 ee13 ee14 ee15
           have ee0 := y3.blk.cell 0
           have ee1 := y3.blk.cell 1
           have ee2 := y3.blk.cell 2
           have ee3 := y3.blk.cell 3
           have ee4 := y3.blk.cell 4
           have ee5 := y3.blk.cell 5
           have ee6 := y3.blk.cell 6
           have ee7 := y3.blk.cell 7
           have ee8 := y3.blk.cell 8
           have ee9 := y3.blk.cell 9
           have ee10 := y3.blk.cell 10
           have ee11 := y3.blk.cell 11
           have ee12 := y3.blk.cell 12
           have ee13 := y3.blk.cell 13
           have ee14 := y3.blk.cell 14
           have ee15 := y3.blk.cell 15
           go_wp2_with fail
           refine (kP _ y3.below).mono ?_
           rintro e w4 ⟨rfl, rfl⟩
           clear kP
           go_wp2
           go_ret
           exact ⟨rfl, y3.below⟩
       ·have h5' : (20 : Int) < (P.length : Int) := by omega
        clear hno kP kL h1 h2 h5
        go_enter Tryz.func7, Tryz.ntmps7
        go_wp2_with fail
        refine (awake_ck _).mono ?_
        rintro e w1 ⟨rfl, bw⟩
        have y1 := Y0.out.under bw
        clear bw
        have ee0 := y1.blk.cell 0
        have ee1 := y1.blk.cell 1
        have ee2 := y1.blk.cell 2
        have ee3 := y1.blk.cell 3
        have ee4 := y1.blk.cell 4
        have ee5 := y1.blk.cell 5
        have ee6 := y1.blk.cell 6
        have ee7 := y1.blk.cell 7
        have ee8 := y1.blk.cell 8
        have ee9 := y1.blk.cell 9
        have ee10 := y1.blk.cell 10
        have ee11 := y1.blk.cell 11
        have ee12 := y1.blk.cell 12
        have ee13 := y1.blk.cell 13
        have ee14 := y1.blk.cell 14
        have ee15 := y1.blk.cell 15
        go_wp2_with fail
        refine (kF1 _ y1.below).mono ?_
        rintro e w2 ⟨rfl, bw⟩
        have y2 := y1.under bw
        clear kF1 bw y1 ee0 ee1 ee2 ee3 ee4 ee5 ee6 ee7 ee8 ee9 ee10 ee11 ee12 ee13 ee14 ee15
        have ee0 := y2.blk.cell 0
        have ee1 := y2.blk.cell 1
        have ee2 := y2.blk.cell 2
        have ee3 := y2.blk.cell 3
        have ee4 := y2.blk.cell 4
        have ee5 := y2.blk.cell 5
        have ee6 := y2.blk.cell 6
        have ee7 := y2.blk.cell 7
        have ee8 := y2.blk.cell 8
        have ee9 := y2.blk.cell 9
        have ee10 := y2.blk.cell 10
        have ee11 := y2.blk.cell 11
        have ee12 := y2.blk.cell 12
        have ee13 := y2.blk.cell 13
        have ee14 := y2.blk.cell 14
        have ee15 := y2.blk.cell 15
        go_wp2_with fail
        refine (kF2 _ y2.below).mono ?_
        rintro e w3 ⟨rfl, bw⟩
        have y3 := y2.under bw
        clear kF2 bw y2 ee0 ee1 ee2 ee3 ee4 ee5 ee6 ee7 ee8 ee9 ee10 ee11 ee12 ee13 ee14 ee15
        have ee0 := y3.blk.cell 0
        have ee1 := y3.blk.cell 1
        have ee2 := y3.blk.cell 2
        have ee3 := y3.blk.cell 3
        have ee4 := y3.blk.cell 4
        have ee5 := y3.blk.cell 5
        have ee6 := y3.blk.cell 6
        have ee7 := y3.blk.cell 7
        have ee8 := y3.blk.cell 8
        have ee9 := y3.blk.cell 9
        have ee10 := y3.blk.cell 10
        have ee11 := y3.blk.cell 11
        have ee12 := y3.blk.cell 12
        have ee13 := y3.blk.cell 13
        have ee14 := y3.blk.cell 14
        have ee15 := y3.blk.cell 15
        go_wp2
        go_ret
        exact ⟨rfl, y3.below⟩
  ·have h2' : (200 : Int) < (rt.length : Int) := by omega
   clear hno kF1 kF2 kP kL h1 h2
   go_enter Tryz.func7, Tryz.ntmps7
   go_wp2_with fail
   refine (awake_ck _).mono ?_
   rintro e w1 ⟨rfl, bw⟩
   have y1 := Y0.out.under bw
   clear bw
   have ee0 := y1.blk.cell 0
   have ee1 := y1.blk.cell 1
   have ee2 := y1.blk.cell 2
   have ee3 := y1.blk.cell 3
   have ee4 := y1.blk.cell 4
   have ee5 := y1.blk.cell 5
   have ee6 := y1.blk.cell 6
   have ee7 := y1.blk.cell 7
   have ee8 := y1.blk.cell 8
   have ee9 := y1.blk.cell 9
   have ee10 := y1.blk.cell 10
   have ee11 := y1.blk.cell 11
   have ee12 := y1.blk.cell 12
   have ee13 := y1.blk.cell 13
   have ee14 := y1.blk.cell 14
   have ee15 := y1.blk.cell 15
   go_wp2
   go_ret
   exact ⟨rfl, y1.below⟩
 ·have h1' : (200 : Int) < (pub.length : Int) := by omega
  clear hno kF1 kF2 kP kL h1
  go_enter Tryz.func7, Tryz.ntmps7
  go_wp2_with fail
  refine (awake_ck _).mono ?_
  rintro e w1 ⟨rfl, bw⟩
  have y1 := Y0.out.under bw
  clear bw
  have ee0 := y1.blk.cell 0
  have ee1 := y1.blk.cell 1
  have ee2 := y1.blk.cell 2
  have ee3 := y1.blk.cell 3
  have ee4 := y1.blk.cell 4
  have ee5 := y1.blk.cell 5
  have ee6 := y1.blk.cell 6
  have ee7 := y1.blk.cell 7
  have ee8 := y1.blk.cell 8
  have ee9 := y1.blk.cell 9
  have ee10 := y1.blk.cell 10
  have ee11 := y1.blk.cell 11
  have ee12 := y1.blk.cell 12
  have ee13 := y1.blk.cell 13
  have ee14 := y1.blk.cell 14
  have ee15 := y1.blk.cell 15
  go_wp2
  go_ret
  exact ⟨rfl, y1.below⟩
end Go.Proofs.YtjjpdnpbhdcpbaaGreat
