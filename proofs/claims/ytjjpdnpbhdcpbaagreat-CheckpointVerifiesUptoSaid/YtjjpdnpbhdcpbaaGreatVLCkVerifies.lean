/-
  CheckpointVerifies: the walk. Conditions: signatures of bulk at most 2^40.
-/
import Derived.Test.YtjjpdnpbhdcpbaaGreatQCkAw
import Derived.Test.YtjjpdnpbhdcpbaaGreatQCkAwA
import Derived.Test.YtjjpdnpbhdcpbaaGreatQPe
import Derived.Test.YtjjpdnpbhdcpbaaGreatVPb
import Derived.Test.YtjjpdnpbhdcpbaaGreatQPd
import Derived.Test.YtjjpdnpbhdcpbaaGreatQCkL
import Derived.Test.YtjjpdnpbhdcpbaaGreatQCkK
import Derived.Test.YtjjpdnpbhdcpbaaGreatQCkJ
import Derived.Test.YtjjpdnpbhdcpbaaGreatQCkI
import Derived.Test.YtjjpdnpbhdcpbaaGreatQCkH
import Derived.Test.YtjjpdnpbhdcpbaaGreatQPa
import Derived.Test.YtjjpdnpbhdcpbaaGreatVPa
import Derived.Test.YtjjpdnpbhdcpbaaGreatQBase
import Derived.Maps.OwnSet
import Derived.Test.YtjjpdnpbhdcpbaaGreatQPb
import Derived.Test.YtjjpdnpbhdcpbaaGreatQSgJ
import Derived.Test.YtjjpdnpbhdcpbaaGreatQSgI
import Derived.Test.YtjjpdnpbhdcpbaaGreatQSgH
import Derived.Test.YtjjpdnpbhdcpbaaGreatQSgG
import Derived.Test.YtjjpdnpbhdcpbaaGreatQSgF
import Derived.Test.YtjjpdnpbhdcpbaaGreatQCdA
import Derived.Test.YtjjpdnpbhdcpbaaGreatQMkB
import Derived.Test.YtjjpdnpbhdcpbaaGreatQShaB
import Derived.Test.YtjjpdnpbhdcpbaaGreatQShaA
import Derived.Test.YtjjpdnpbhdcpbaaGreatProg
import Derived.Laws.BitsAllLaws
import Derived.BigQuiet
import Derived.BigRegion
import Derived.Deep.RegionHeld3
import Derived.Test.YtjjpdnpbhdcpbaaGreatLayC
import Derived.Test.YtjjpdnpbhdcpbaaGreatLay
import Derived.Laws.CopyRow
import Derived.Laws.IdiomStrings
import Derived.Lib.Bytealg
import Derived.Laws.MakeOwn
import Derived.Test.YtjjpdnpbhdcpbaaGreatLayR
import Derived.Lib.OthersKept
import Derived.Test.YtjjpdnpbhdcpbaaGreatQSgD
import Derived.RangeFuncNested
import Derived.RangeFuncBound
import Derived.RangeFuncCalls
import Derived.RangeFuncLeaves
import Derived.Shelf.Abstract
import Derived.Shelf.RegionOpen
import Derived.OwnWalkIn
import Derived.TacticsInMore
import Derived.LoopNIn
import Derived.LoopIn
import Derived.Lib.FrozenHead2
import Derived.OrdersIn
import Derived.RangeFuncFrom
import Derived.Laws.ResultCell
import Derived.Test.YtjjpdnpbhdcpbaaGreatQCdB
import Derived.Laws.DeepNot64
import Derived.Test.YtjjpdnpbhdcpbaaGreatQCkZ
import Derived.Test.YtjjpdnpbhdcpbaaGreatQCkY
import Derived.Test.YtjjpdnpbhdcpbaaGreatQCkX
import Derived.Test.YtjjpdnpbhdcpbaaGreatQPc
import Derived.Test.YtjjpdnpbhdcpbaaGreatVSgP
import Derived.Test.YtjjpdnpbhdcpbaaGreatVRkA
namespace Go.Proofs.YtjjpdnpbhdcpbaaGreat
set_option linter.unusedVariables false
open Go.RowKit Go.Shelf
attribute [local go_sem] Oper.semAt_some
set_option maxRecDepth 20000 in
set_option maxHeartbeats 8000000 in
theorem ckVerifies_walk (pub : Sg.Str) (x : CkV) (Y : Option Addr) (K : List Sg.Str) (d : Nat) (U : Option Addr) (R : List SgRow) (n : Nat) (w : World) (hx : CkV.ok w x) (hf : CkV.few x)
 (hK : Rd w Y (strs K)) (hK1 : K.length ≤ 1099511627776) (hK2 : ∀ s ∈ K, s.length ≤ maxLen) (hR : RowsR w U R) (hRf : ∀ y ∈ R, RowFew y) (hRl : R.length ≤ maxLen) :
 Calls Tryz.prog 4 #[.string ⟨pub.toArray⟩, .agg (ckA x), .slice Y K.length d, .slice U R.length n] w fun e w' => e = .returned (.bool true) ∧ Below w.heap.size w w' := by
 have zp := bytes_size pub
 obtain ⟨o, z, r, i, A, C, a, B, T, b, X, L, c⟩ := x
 unfold ckA
 obtain ⟨g1, g2, g3, g4⟩ := hf
 dsimp only at g1 g2 g3 g4 ⊢
 have y0 := (St.nil w).alloc 32 #[.string ⟨o.toArray⟩, .int .i64 z, .string ⟨r.toArray⟩, .int .i64 i, .slice A C.length a, .slice B T.length b, .slice X L.length c]
 have Y0 := Lib.hid y0
 clear y0
 have kF := fun (W' : World) (hb : Below w.heap.size w W') => ckfew_spec o z r i A B C T a b X L c W' (hx.below hb).2.2.2.2.2.2.1 g1 (hx.below hb).1 (hx.below hb).2.1 g2 g3 hx.2.2.1 hx.2.2.2.1 hx.2.2.2.2.1 hx.2.2.2.2.2.1 g4
 have kR := fun (W' : World) (hb : Below w.heap.size w W') => rotfew_spec U R n W' (hR.below hb) hRf hRl
 have k1 := fun (W' : World) (hb : Below w.heap.size w W') => follow_spec pub U R n W' (hR.below hb)
 have k2 := fun (W' : World) (hb : Below w.heap.size w W') => rfollow_spec pub U R n W' (hR.below hb)
 have kV := fun (W' : World) (hb : Below w.heap.size w W') => ckverify_spec pub o z r i C T A B X a b L.length c W' (hx.below hb).1 (hx.below hb).2.1 hx.2.2.1 hx.2.2.2.1 hx.2.2.2.2.1 hx.2.2.2.2.2.1
 have rV := fun (W' : World) (hb : Below w.heap.size w W') => rckverify_spec pub o z r i C T A B X a b L.length c W' (hx.below hb).1 (hx.below hb).2.1 hx.2.2.1 hx.2.2.2.1 hx.2.2.2.2.1 hx.2.2.2.2.2.1
 have kC := fun (W' : World) (hb : Below w.heap.size w W') => cosigned_spec o z r i A B C T a b X L c Y K d W' (hx.below hb).2.2.2.2.2.2.1 hx.2.2.2.2.2.2.2.1 hx.2.2.2.2.2.2.2.2 (hK.below hb) hK1 hK2
 have rC := fun (W' : World) (hb : Below w.heap.size w W') => rcosigned_spec o z r i A B C T a b X L c Y K d W' (hx.below hb).2.2.2.2.2.2.1 hx.2.2.2.2.2.2.2.1 hx.2.2.2.2.2.2.2.2 (hK.below hb) hK1
 generalize ckFew o r C T L = q1 at kF
 generalize fewL R = q2 at kR
 generalize followR pub R = fo at k1 k2
 obtain ⟨fk, fe⟩ := fo
 dsimp only at k1 k2
 generalize ckB 4 pub o z r i C T = v at kV rV
 generalize cosN o z r L [] K = cn at kC rC
 clear hx g1 g2 g3 g4 hK hK1 hK2 hR hRf hRl
 go_enter Tryz.func4, Tryz.ntmps4
 go_wp2_with fail
 refine (awake_ck _).mono ?_
 rintro e w1 ⟨rfl, b1⟩
 have y1 := Y0.out.under b1
 clear b1
 have ee0 := y1.blk.cell 0
 have ee1 := y1.blk.cell 1
 have ee2 := y1.blk.cell 2
 have ee3 := y1.blk.cell 3
 have ee4 := y1.blk.cell 4
 have ee5 := y1.blk.cell 5
 have ee6 := y1.blk.cell 6
 go_wp2_with fail
 refine (kF _ y1.below).mono ?_
 rintro e w2 ⟨rfl, b2⟩
 have y2 := y1.under b2
 clear kF b2 y1 ee0 ee1 ee2 ee3 ee4 ee5 ee6
 have ee0 := y2.blk.cell 0
 have ee1 := y2.blk.cell 1
 have ee2 := y2.blk.cell 2
 have ee3 := y2.blk.cell 3
 have ee4 := y2.blk.cell 4
 have ee5 := y2.blk.cell 5
 have ee6 := y2.blk.cell 6
 cases q1 with
 | false =>
   clear kR k1 k2 kV rV kC rC
   go_wp2
   go_ret
   exact ⟨rfl, y2.below⟩
 | true =>
   by_cases h1 : pub.length ≤ 200
   ·have h1' : ¬ ((200 : Int) < (pub.length : Int)) := by omega
    by_cases h2 : K.length ≤ 6
    ·have h2' : ¬ ((6 : Int) < (K.length : Int)) := by omega
     by_cases h3 : R.length ≤ 4
     ·have h3' : ¬ ((4 : Int) < (R.length : Int)) := by omega
      clear h1 h2 h3
      go_wp2_with fail
      refine (kR _ y2.below).mono ?_
      rintro e w3 ⟨rfl, b3⟩
      have y3 := y2.under b3
      clear kR b3 y2 ee0 ee1 ee2 ee3 ee4 ee5 ee6
      have ee0 := y3.blk.cell 0
      have ee1 := y3.blk.cell 1
      have ee2 := y3.blk.cell 2
      have ee3 := y3.blk.cell 3
      have ee4 := y3.blk.cell 4
      have ee5 := y3.blk.cell 5
      have ee6 := y3.blk.cell 6
      cases q2 with
      | false =>
        clear k1 k2 kV rV kC rC
        go_wp2
        go_ret
        exact ⟨rfl, y3.below⟩
      | true =>
        go_wp2_with fail
        refine (k1 _ y3.below).mono ?_
        rintro e w4 ⟨rfl, b4⟩
        have y4 := y3.under b4
        clear k1 b4 y3 ee0 ee1 ee2 ee3 ee4 ee5 ee6
        have ee0 := y4.blk.cell 0
        have ee1 := y4.blk.cell 1
        have ee2 := y4.blk.cell 2
        have ee3 := y4.blk.cell 3
        have ee4 := y4.blk.cell 4
        have ee5 := y4.blk.cell 5
        have ee6 := y4.blk.cell 6
        go_wp2_with fail
        refine (k2 _ y4.below).mono ?_
        rintro e w5 ⟨rfl, b5⟩
        have y5 := y4.under b5
        clear k2 b5 y4 ee0 ee1 ee2 ee3 ee4 ee5 ee6
        have ee0 := y5.blk.cell 0
        have ee1 := y5.blk.cell 1
        have ee2 := y5.blk.cell 2
        have ee3 := y5.blk.cell 3
        have ee4 := y5.blk.cell 4
        have ee5 := y5.blk.cell 5
        have ee6 := y5.blk.cell 6
        go_wp2_with fail
        have hS : ∀ W', Blk W' w.heap.size 32 #[.string ⟨o.toArray⟩, .int .i64 z, .string ⟨r.toArray⟩, .int .i64 i, .slice A C.length a, .slice B T.length b, .slice X L.length c] → (fun W' : World => W'.cell? ⟨w.heap.size, 0, none⟩ = some (.string ⟨o.toArray⟩) ∧ W'.cell? ⟨w.heap.size, 1, none⟩ = some (.int .i64 z) ∧ W'.cell? ⟨w.heap.size, 2, none⟩ = some (.string ⟨r.toArray⟩) ∧ W'.cell? ⟨w.heap.size, 3, none⟩ = some (.int .i64 i) ∧ W'.cell? ⟨w.heap.size, 4, none⟩ = some (.slice A C.length a) ∧ W'.cell? ⟨w.heap.size, 5, none⟩ = some (.slice B T.length b) ∧ W'.cell? ⟨w.heap.size, 6, none⟩ = some (.slice X L.length c)) W' := fun W' hb => ⟨hb.cell 0, hb.cell 1, hb.cell 2, hb.cell 3, hb.cell 4, hb.cell 5, hb.cell 6⟩
        have yd := y5.drew
        have s0 := hS _ yd.blk
        clear y5 ee0 ee1 ee2 ee3 ee4 ee5 ee6
        refine wp_region_noPanic ?_
        refine wp_region_held_drew (S := (fun W' => W'.cell? ⟨w.heap.size, 0, none⟩ = some (.string ⟨o.toArray⟩) ∧ W'.cell? ⟨w.heap.size, 1, none⟩ = some (.int .i64 z) ∧ W'.cell? ⟨w.heap.size, 2, none⟩ = some (.string ⟨r.toArray⟩) ∧ W'.cell? ⟨w.heap.size, 3, none⟩ = some (.int .i64 i) ∧ W'.cell? ⟨w.heap.size, 4, none⟩ = some (.slice A C.length a) ∧ W'.cell? ⟨w.heap.size, 5, none⟩ = some (.slice B T.length b) ∧ W'.cell? ⟨w.heap.size, 6, none⟩ = some (.slice X L.length c))) (by kernel_rfl) ?_ (fun hH0 => ?_)
        ·(first
           | with_reducible exact s0
           | with_reducible exact sa
           | with_reducible exact sb
           | with_reducible exact sc
           | with_reducible exact se
           | fail)
        refine tk 0 49 hH0 ?_
        refine tk 1 50 hH0 ?_
        refine tk 3 52 hH0 ?_
        refine tk 4 53 hH0 ?_
        refine rdy [2] ?_
        refine an 51 fun K hK => ?_
        go_simp; (first
         | (with_reducible refine (kV _ yd.below).mono ?_
            rintro e vya ⟨rfl, bya⟩
            have ya := yd.under bya
            have sa := hS _ ya.blk)
         | (with_reducible refine (kV _ ya.below).mono ?_
            rintro e vyb ⟨rfl, byb⟩
            have yb := ya.under byb
            have sb := hS _ yb.blk)
         | (with_reducible refine (rV _ yd.below).mono ?_
            rintro e vya ⟨rfl, bya⟩
            have ya := yd.under bya
            have sa := hS _ ya.blk)
         | (with_reducible refine (rV _ ya.below).mono ?_
            rintro e vyb ⟨rfl, byb⟩
            have yb := ya.under byb
            have sb := hS _ yb.blk)
         | (with_reducible refine (kC _ yb.below).mono ?_
            rintro e vyc ⟨rfl, byc⟩
            have yc := yb.under byc
            have sc := hS _ yc.blk)
         | (with_reducible refine (kC _ yc.below).mono ?_
            rintro e vye ⟨rfl, bye⟩
            have ye := yc.under bye
            have se := hS _ ye.blk)
         | (with_reducible refine (rC _ yb.below).mono ?_
            rintro e vyc ⟨rfl, byc⟩
            have yc := yb.under byc
            have sc := hS _ yc.blk)
         | (with_reducible refine (rC _ yc.below).mono ?_
            rintro e vye ⟨rfl, bye⟩
            have ye := yc.under bye
            have se := hS _ ye.blk)
         | fail); go_wp2_with fail
        refine hK.out _ _ ?_ (fun hH1 => ?_)
        ·(first
           | with_reducible exact s0
           | with_reducible exact sa
           | with_reducible exact sb
           | with_reducible exact sc
           | with_reducible exact se
           | fail)
        clear hK K hH0
        try simp only [pu]
        refine rdy [5] ?_
        refine an 54 fun K hK => ?_
        go_simp; (first
         | (with_reducible refine (kV _ yd.below).mono ?_
            rintro e vya ⟨rfl, bya⟩
            have ya := yd.under bya
            have sa := hS _ ya.blk)
         | (with_reducible refine (kV _ ya.below).mono ?_
            rintro e vyb ⟨rfl, byb⟩
            have yb := ya.under byb
            have sb := hS _ yb.blk)
         | (with_reducible refine (rV _ yd.below).mono ?_
            rintro e vya ⟨rfl, bya⟩
            have ya := yd.under bya
            have sa := hS _ ya.blk)
         | (with_reducible refine (rV _ ya.below).mono ?_
            rintro e vyb ⟨rfl, byb⟩
            have yb := ya.under byb
            have sb := hS _ yb.blk)
         | (with_reducible refine (kC _ yb.below).mono ?_
            rintro e vyc ⟨rfl, byc⟩
            have yc := yb.under byc
            have sc := hS _ yc.blk)
         | (with_reducible refine (kC _ yc.below).mono ?_
            rintro e vye ⟨rfl, bye⟩
            have ye := yc.under bye
            have se := hS _ ye.blk)
         | (with_reducible refine (rC _ yb.below).mono ?_
            rintro e vyc ⟨rfl, byc⟩
            have yc := yb.under byc
            have sc := hS _ yc.blk)
         | (with_reducible refine (rC _ yc.below).mono ?_
            rintro e vye ⟨rfl, bye⟩
            have ye := yc.under bye
            have se := hS _ ye.blk)
         | fail); go_wp2_with fail
        refine hK.out _ _ ?_ (fun hH2 => ?_)
        ·(first
           | with_reducible exact s0
           | with_reducible exact sa
           | with_reducible exact sb
           | with_reducible exact sc
           | with_reducible exact se
           | fail)
        clear hK K hH1
        try simp only [pu]
        refine tk 6 55 hH2 ?_
        refine tk 7 56 hH2 ?_
        refine tk 8 57 hH2 ?_
        refine tk 9 58 hH2 ?_
        refine tk 11 60 hH2 ?_
        refine tk 12 61 hH2 ?_
        refine rdy [10] ?_
        refine an 59 fun K hK => ?_
        go_simp; (first
         | (with_reducible refine (kV _ yd.below).mono ?_
            rintro e vya ⟨rfl, bya⟩
            have ya := yd.under bya
            have sa := hS _ ya.blk)
         | (with_reducible refine (kV _ ya.below).mono ?_
            rintro e vyb ⟨rfl, byb⟩
            have yb := ya.under byb
            have sb := hS _ yb.blk)
         | (with_reducible refine (rV _ yd.below).mono ?_
            rintro e vya ⟨rfl, bya⟩
            have ya := yd.under bya
            have sa := hS _ ya.blk)
         | (with_reducible refine (rV _ ya.below).mono ?_
            rintro e vyb ⟨rfl, byb⟩
            have yb := ya.under byb
            have sb := hS _ yb.blk)
         | (with_reducible refine (kC _ yb.below).mono ?_
            rintro e vyc ⟨rfl, byc⟩
            have yc := yb.under byc
            have sc := hS _ yc.blk)
         | (with_reducible refine (kC _ yc.below).mono ?_
            rintro e vye ⟨rfl, bye⟩
            have ye := yc.under bye
            have se := hS _ ye.blk)
         | (with_reducible refine (rC _ yb.below).mono ?_
            rintro e vyc ⟨rfl, byc⟩
            have yc := yb.under byc
            have sc := hS _ yc.blk)
         | (with_reducible refine (rC _ yc.below).mono ?_
            rintro e vye ⟨rfl, bye⟩
            have ye := yc.under bye
            have se := hS _ ye.blk)
         | fail); go_wp2_with fail
        refine hK.out _ _ ?_ (fun hH3 => ?_)
        ·(first
           | with_reducible exact s0
           | with_reducible exact sa
           | with_reducible exact sb
           | with_reducible exact sc
           | with_reducible exact se
           | fail)
        clear hK K hH2
        try simp only [pu]
        refine rdy [13] ?_
        refine an 62 fun K hK => ?_
        go_simp; (first
         | (with_reducible refine (kV _ yd.below).mono ?_
            rintro e vya ⟨rfl, bya⟩
            have ya := yd.under bya
            have sa := hS _ ya.blk)
         | (with_reducible refine (kV _ ya.below).mono ?_
            rintro e vyb ⟨rfl, byb⟩
            have yb := ya.under byb
            have sb := hS _ yb.blk)
         | (with_reducible refine (rV _ yd.below).mono ?_
            rintro e vya ⟨rfl, bya⟩
            have ya := yd.under bya
            have sa := hS _ ya.blk)
         | (with_reducible refine (rV _ ya.below).mono ?_
            rintro e vyb ⟨rfl, byb⟩
            have yb := ya.under byb
            have sb := hS _ yb.blk)
         | (with_reducible refine (kC _ yb.below).mono ?_
            rintro e vyc ⟨rfl, byc⟩
            have yc := yb.under byc
            have sc := hS _ yc.blk)
         | (with_reducible refine (kC _ yc.below).mono ?_
            rintro e vye ⟨rfl, bye⟩
            have ye := yc.under bye
            have se := hS _ ye.blk)
         | (with_reducible refine (rC _ yb.below).mono ?_
            rintro e vyc ⟨rfl, byc⟩
            have yc := yb.under byc
            have sc := hS _ yc.blk)
         | (with_reducible refine (rC _ yc.below).mono ?_
            rintro e vye ⟨rfl, bye⟩
            have ye := yc.under bye
            have se := hS _ ye.blk)
         | fail); go_wp2_with fail
        refine hK.out _ _ ?_ (fun hH4 => ?_)
        ·(first
           | with_reducible exact s0
           | with_reducible exact sa
           | with_reducible exact sb
           | with_reducible exact sc
           | with_reducible exact se
           | fail)
        clear hK K hH3
        try simp only [pu]
        refine tk 14 63 hH4 ?_
        refine tk 15 64 hH4 ?_
        refine tk 16 65 hH4 ?_
        refine tk 17 66 hH4 ?_
        refine tk 18 67 hH4 ?_
        refine tk 19 68 hH4 ?_
        refine tk 20 69 hH4 ?_
        refine tk 21 70 hH4 ?_
        refine tk 22 71 hH4 ?_
        refine tk 23 72 hH4 ?_
        refine tk 24 73 hH4 ?_
        refine tk 25 74 hH4 ?_
        refine tk 26 8 hH4 ?_
        refine dn ?_ _
        all_goals (refine NoPanic.normal ?_)
        all_goals
         have YC := Lib.hid ye
         clear ye yc yb ya yd hS
         go_wp2
         go_ret
         exact ⟨rfl, YC.out.below⟩
     ·have h3' : (4 : Int) < (R.length : Int) := by omega
      clear h1 h2 h3 kR k1 k2 kV rV kC rC
      go_wp2
      go_ret
      exact ⟨rfl, y2.below⟩
    ·have h2' : (6 : Int) < (K.length : Int) := by omega
     clear h1 h2 kR k1 k2 kV rV kC rC
     go_wp2
     go_ret
     exact ⟨rfl, y2.below⟩
   ·have h1' : (200 : Int) < (pub.length : Int) := by omega
    clear h1 kR k1 k2 kV rV kC rC
    go_wp2
    go_ret
    exact ⟨rfl, y2.below⟩
end Go.Proofs.YtjjpdnpbhdcpbaaGreat
