/-
  CheckpointBytes: the walk. Conditions: signatures of bulk at most 2^40.
-/
import Derived.Test.YtjjpdnpbhdcpbaaGreatQCkAw
import Derived.Test.YtjjpdnpbhdcpbaaGreatQCkAwA
import Derived.Test.YtjjpdnpbhdcpbaaGreatQPe
import Derived.Test.YtjjpdnpbhdcpbaaGreatBCkQ
import Derived.Test.YtjjpdnpbhdcpbaaGreatQPd
import Derived.Test.YtjjpdnpbhdcpbaaGreatQCkL
import Derived.Test.YtjjpdnpbhdcpbaaGreatQCkK
import Derived.Test.YtjjpdnpbhdcpbaaGreatQCkJ
import Derived.Test.YtjjpdnpbhdcpbaaGreatQCkI
import Derived.Test.YtjjpdnpbhdcpbaaGreatQCkH
import Derived.Test.YtjjpdnpbhdcpbaaGreatQCkF
import Derived.Test.YtjjpdnpbhdcpbaaGreatQCkE
import Derived.Test.YtjjpdnpbhdcpbaaGreatQPa
import Derived.Test.YtjjpdnpbhdcpbaaGreatBPa
import Derived.Test.YtjjpdnpbhdcpbaaGreatQBase
import Derived.Test.YtjjpdnpbhdcpbaaGreatQCkC
import Derived.Test.YtjjpdnpbhdcpbaaGreatQPc
import Derived.Test.YtjjpdnpbhdcpbaaGreatBPb
import Derived.Test.YtjjpdnpbhdcpbaaGreatBSgQ
import Derived.Deep.Strs
import Derived.Maps.OwnSet
import Derived.Test.YtjjpdnpbhdcpbaaGreatQPb
import Derived.Test.YtjjpdnpbhdcpbaaGreatQSgJ
import Derived.Test.YtjjpdnpbhdcpbaaGreatQSgI
import Derived.Test.YtjjpdnpbhdcpbaaGreatQSgH
import Derived.Test.YtjjpdnpbhdcpbaaGreatQSgG
import Derived.Test.YtjjpdnpbhdcpbaaGreatQSgF
import Derived.Test.YtjjpdnpbhdcpbaaGreatQMkA
import Derived.Test.YtjjpdnpbhdcpbaaGreatLayJ
import Derived.Test.YtjjpdnpbhdcpbaaGreatQShaA
import Derived.Test.YtjjpdnpbhdcpbaaGreatProg
import Derived.Laws.BitsAllLaws
import Derived.BigQuiet
import Derived.BigRegion
import Derived.Deep.RegionHeld3
import Derived.Test.YtjjpdnpbhdcpbaaGreatLayC
import Derived.Test.YtjjpdnpbhdcpbaaGreatLay
import Derived.Test.YtjjpdnpbhdcpbaaGreatQShaB
import Derived.Laws.CopyRow
import Derived.Laws.IdiomStrings
import Derived.Lib.Bytealg
import Derived.Laws.MakeOwn
import Derived.Test.YtjjpdnpbhdcpbaaGreatLayL
import Derived.Test.YtjjpdnpbhdcpbaaGreatQCdA
import Derived.Test.YtjjpdnpbhdcpbaaGreatQMkB
import Derived.Test.YtjjpdnpbhdcpbaaGreatLayR
import Derived.Lib.OthersKept
import Derived.Test.YtjjpdnpbhdcpbaaGreatQSgD
import Derived.RangeFuncNested
import Derived.RangeFuncBound
import Derived.RangeFuncCalls
import Derived.RangeFuncLeaves
import Derived.Shelf.Abstract
import Derived.Shelf.RegionOpen
import Derived.OwnWalkIn
import Derived.TacticsInMore
import Derived.LoopNIn
import Derived.LoopIn
import Derived.Lib.FrozenHead2
import Derived.OrdersIn
import Derived.RangeFuncFrom
import Derived.Laws.ResultCell
import Derived.Test.YtjjpdnpbhdcpbaaGreatBCdB
import Derived.Test.YtjjpdnpbhdcpbaaGreatQCdB
import Derived.Test.YtjjpdnpbhdcpbaaGreatQCkZ
import Derived.Test.YtjjpdnpbhdcpbaaGreatQCkY
import Derived.Test.YtjjpdnpbhdcpbaaGreatQCkX
import Derived.Test.YtjjpdnpbhdcpbaaGreatBRkP
import Derived.Test.YtjjpdnpbhdcpbaaGreatBRkB
import Derived.Test.YtjjpdnpbhdcpbaaGreatBRkQ
import Derived.Test.YtjjpdnpbhdcpbaaGreatBCkP
namespace Go.Proofs.YtjjpdnpbhdcpbaaGreat
set_option linter.unusedVariables false
open Go.RowKit Go.Shelf
attribute [local go_sem] Oper.semAt_some
set_option maxRecDepth 20000 in
set_option maxHeartbeats 8000000 in
theorem ckBytes_walk (x : CkV) (s : Sg.Str) (w : World) (hx : CkV.ok w x) (hf : CkV.few x) (hi : CkV.i63 x) :
 Calls Tryz.prog 5 #[.agg (ckA x), .string ⟨s.toArray⟩] w fun e w' => e = .returned (.bool true) ∧ Below w.heap.size w w' := by
 have hz := bytes_size s
 obtain ⟨o, z, r, i, A, C, a, B, T, b, X, L, c⟩ := x
 unfold ckA
 obtain ⟨g1, g2, g3, g4⟩ := hf
 obtain ⟨i1, i2⟩ := hi
 dsimp only at g1 g2 g3 g4 i1 i2 ⊢
 have y0 := (St.nil w).alloc 32 #[.string ⟨o.toArray⟩, .int .i64 z, .string ⟨r.toArray⟩, .int .i64 i, .slice A C.length a, .slice B T.length b, .slice X L.length c]
 have Y0 := Lib.hid y0
 clear y0
 have kF := fun (W' : World) (hb : Below w.heap.size w W') => ckfew_spec o z r i A B C T a b X L c W' (hx.below hb).2.2.2.2.2.2.1 g1 (hx.below hb).1 (hx.below hb).2.1 g2 g3 hx.2.2.1 hx.2.2.2.1 hx.2.2.2.2.1 hx.2.2.2.2.2.1 g4
 have kE := fun (W' : World) (hb : Below w.heap.size w W') => ckencode_spec o z r i A B C T a b X L c W' (hx.below hb).2.2.2.2.2.2.1 i2 i1 (hx.below hb).1 (hx.below hb).2.1 hx.2.2.1 hx.2.2.2.1 hx.2.2.2.2.1 hx.2.2.2.2.2.1
 have rE := fun (W' : World) (hb : Below w.heap.size w W') => rckencode_spec o z r i A B C T a b X L c W' (hx.below hb).2.2.2.2.2.2.1 i2 i1 (hx.below hb).1 (hx.below hb).2.1 hx.2.2.1 hx.2.2.2.1 hx.2.2.2.2.1 hx.2.2.2.2.2.1
 generalize ckFew o r C T L = p at kF
 generalize ckEnc o z r i C T L = E at kE rE
 obtain ⟨E1, E2⟩ := E
 dsimp only at kE rE
 clear hx g1 g2 g3 g4 i1 i2
 cases p with
 | false =>
   clear kE rE
   go_enter Tryz.func5, Tryz.ntmps5
   go_wp2_with fail
   refine (awake_ck _).mono ?_
   rintro e w1 ⟨rfl, b1⟩
   have y1 := Y0.out.under b1
   clear b1
   have a0 := y1.blk.cell 0
   have a1 := y1.blk.cell 1
   have a2 := y1.blk.cell 2
   have a3 := y1.blk.cell 3
   have a4 := y1.blk.cell 4
   have a5 := y1.blk.cell 5
   have a6 := y1.blk.cell 6
   go_wp2_with fail
   refine (kF _ y1.below).mono ?_
   rintro e w2 ⟨rfl, b2⟩
   have y2 := y1.under b2
   clear kF b2 y1 a0 a1 a2 a3 a4 a5 a6
   go_wp2
   go_ret
   exact ⟨rfl, y2.below⟩
 | true =>
   by_cases l1 : s.length ≤ 10000
   ·have l1' : ¬ ((10000 : Int) < (s.length : Int)) := by omega
    have kD := fun W' => ckdecode_spec s W' (Nat.le_trans l1 (by decide))
    have rD := fun W' => rckdecode_spec s W' (Nat.le_trans l1 (by decide))
    rw [rckDec_eq] at rD
    clear l1
    rcases ckDec_inv s with hd | ⟨o', z', r', i', C', T', L', hd, he⟩
    ·rw [hd] at kD rD
     unfold DckP at kD rD
     dsimp only at kD rD
     clear hd
     go_enter Tryz.func5, Tryz.ntmps5
     go_wp2_with fail
     refine (awake_ck _).mono ?_
     rintro e w1 ⟨rfl, b1⟩
     have y1 := Y0.out.under b1
     clear b1
     have a0 := y1.blk.cell 0
     have a1 := y1.blk.cell 1
     have a2 := y1.blk.cell 2
     have a3 := y1.blk.cell 3
     have a4 := y1.blk.cell 4
     have a5 := y1.blk.cell 5
     have a6 := y1.blk.cell 6
     go_wp2_with fail
     refine (kF _ y1.below).mono ?_
     rintro e w2 ⟨rfl, b2⟩
     have y2 := y1.under b2
     clear kF b2 y1 a0 a1 a2 a3 a4 a5 a6
     have a0 := y2.blk.cell 0
     have a1 := y2.blk.cell 1
     have a2 := y2.blk.cell 2
     have a3 := y2.blk.cell 3
     have a4 := y2.blk.cell 4
     have a5 := y2.blk.cell 5
     have a6 := y2.blk.cell 6
     go_wp2_with fail
     refine (kE _ y2.below).mono ?_
     rintro e w3 ⟨rfl, b3⟩
     have y3 := y2.under b3
     clear kE b3 y2 a0 a1 a2 a3 a4 a5 a6
     have a0 := y3.blk.cell 0
     have a1 := y3.blk.cell 1
     have a2 := y3.blk.cell 2
     have a3 := y3.blk.cell 3
     have a4 := y3.blk.cell 4
     have a5 := y3.blk.cell 5
     have a6 := y3.blk.cell 6
     go_wp2_with fail
     refine (rE _ y3.below).mono ?_
     rintro e w4 ⟨rfl, b4⟩
     have y4 := y3.under b4
     clear rE b4 y3 a0 a1 a2 a3 a4 a5 a6
     go_wp2_with fail
     refine (kD _).mono ?_
     rintro e w5 ⟨V1, rfl, hV1, ok1, hi1, hI1, bl1⟩
     have y5 := y4.under bl1
     obtain ⟨o1, z1, r1, i1, A1, C1, a1, B1, T1, b1, X1, L1, c1⟩ := V1
     unfold ckA
     dsimp only
     have y5' := y5.alloc 32 #[.string ⟨o1.toArray⟩, .int .i64 z1, .string ⟨r1.toArray⟩, .int .i64 i1, .slice A1 C1.length a1, .slice B1 T1.length b1, .slice X1 L1.length c1]
     obtain ⟨g1, hg1⟩ : ∃ q, w5.heap.size = q := ⟨_, rfl⟩
     rw [hg1] at y5'
     obtain ⟨w5x, hw1, y5x, okx1, ez1⟩ : ∃ q, w5.alloc (.cells #[.string ⟨o1.toArray⟩, .int .i64 z1, .string ⟨r1.toArray⟩, .int .i64 i1, .slice A1 C1.length a1, .slice B1 T1.length b1, .slice X1 L1.length c1] 32) = q ∧ St w.heap.size w q _ ∧ CkV.ok q ⟨o1, z1, r1, i1, A1, C1, a1, B1, T1, b1, X1, L1, c1⟩ ∧ Below w5.heap.size w5 q := ⟨_, rfl, y5', ok1.below ((Below.refl _ _).alloc (Nat.le_refl _) _), (Below.refl _ _).alloc (Nat.le_refl _) _⟩
     clear y5' y5 y4 ok1 kD
     clear bl1
     go_wp2_with fail
     refine (rD _).mono ?_
     rintro e w6 ⟨V2, rfl, hV2, ok2, hi2, hI2, bl2⟩
     have okb1 := okx1.below bl2
     have y6 := y5x.under bl2
     obtain ⟨o2, z2, r2, i2, A2, C2, a2, B2, T2, b2, X2, L2, c2⟩ := V2
     unfold ckA
     dsimp only
     have y6' := y6.alloc 32 #[.string ⟨o2.toArray⟩, .int .i64 z2, .string ⟨r2.toArray⟩, .int .i64 i2, .slice A2 C2.length a2, .slice B2 T2.length b2, .slice X2 L2.length c2]
     obtain ⟨g2, hg2⟩ : ∃ q, w6.heap.size = q := ⟨_, rfl⟩
     rw [hg2] at y6'
     obtain ⟨w6x, hw2, y6x, okx2, ez2⟩ : ∃ q, w6.alloc (.cells #[.string ⟨o2.toArray⟩, .int .i64 z2, .string ⟨r2.toArray⟩, .int .i64 i2, .slice A2 C2.length a2, .slice B2 T2.length b2, .slice X2 L2.length c2] 32) = q ∧ St w.heap.size w q _ ∧ CkV.ok q ⟨o2, z2, r2, i2, A2, C2, a2, B2, T2, b2, X2, L2, c2⟩ ∧ Below w6.heap.size w6 q := ⟨_, rfl, y6', ok2.below ((Below.refl _ _).alloc (Nat.le_refl _) _), (Below.refl _ _).alloc (Nat.le_refl _) _⟩
     clear y6' y6 y5x ok2 rD
     have okc1 := okb1.below ez2
     clear okx1 okb1 hw1 hg1 bl2 ez1 ez2
     have hsm := sameV_strip ⟨o1, z1, r1, i1, A1, C1, a1, B1, T1, b1, X1, L1, c1⟩ ⟨o2, z2, r2, i2, A2, C2, a2, B2, T2, b2, X2, L2, c2⟩ (hV1.trans hV2.symm)
     have ks := sameV_spec ⟨o1, z1, r1, i1, A1, C1, a1, B1, T1, b1, X1, L1, c1⟩ ⟨o2, z2, r2, i2, A2, C2, a2, B2, T2, b2, X2, L2, c2⟩ w6x okc1 okx2
     rw [hsm] at ks
     dsimp only at ks
     have Y6 := Lib.hid (And.intro y6x okc1)
     have e0 := y6x.tail.blk.cell 0
     have e1 := y6x.tail.blk.cell 1
     have e2 := y6x.tail.blk.cell 2
     have e3 := y6x.tail.blk.cell 3
     have e4 := y6x.tail.blk.cell 4
     have e5 := y6x.tail.blk.cell 5
     have e6 := y6x.tail.blk.cell 6
     have f0 := y6x.blk.cell 0
     have f1 := y6x.blk.cell 1
     have f2 := y6x.blk.cell 2
     have f3 := y6x.blk.cell 3
     have f4 := y6x.blk.cell 4
     have f5 := y6x.blk.cell 5
     have f6 := y6x.blk.cell 6
     have HV := Lib.hid (And.intro hV1 (And.intro hi1 hI1))
     clear hsm y6x okc1 okx2 hV1 hV2 hi1 hI1 hi2 hI2
     go_wp2_with fail
     refine ks.mono ?_
     rintro e w7 ⟨rfl, b7⟩
     have Y7 := Lib.hid (Y6.out.1.under b7)
     have ok7 := Y6.out.2.below b7
     clear ks Y6 e0 e1 e2 e3 e4 e5 e6 f0 f1 f2 f3 f4 f5 f6 hw2 hg2 b7
     clear ok7
     go_wp2
     go_ret
     exact ⟨rfl, Y7.out.below⟩
    ·rw [hd] at kD rD
     unfold DckP at kD rD
     dsimp only at kD rD
     clear hd
     go_enter Tryz.func5, Tryz.ntmps5
     go_wp2_with fail
     refine (awake_ck _).mono ?_
     rintro e w1 ⟨rfl, b1⟩
     have y1 := Y0.out.under b1
     clear b1
     have a0 := y1.blk.cell 0
     have a1 := y1.blk.cell 1
     have a2 := y1.blk.cell 2
     have a3 := y1.blk.cell 3
     have a4 := y1.blk.cell 4
     have a5 := y1.blk.cell 5
     have a6 := y1.blk.cell 6
     go_wp2_with fail
     refine (kF _ y1.below).mono ?_
     rintro e w2 ⟨rfl, b2⟩
     have y2 := y1.under b2
     clear kF b2 y1 a0 a1 a2 a3 a4 a5 a6
     have a0 := y2.blk.cell 0
     have a1 := y2.blk.cell 1
     have a2 := y2.blk.cell 2
     have a3 := y2.blk.cell 3
     have a4 := y2.blk.cell 4
     have a5 := y2.blk.cell 5
     have a6 := y2.blk.cell 6
     go_wp2_with fail
     refine (kE _ y2.below).mono ?_
     rintro e w3 ⟨rfl, b3⟩
     have y3 := y2.under b3
     clear kE b3 y2 a0 a1 a2 a3 a4 a5 a6
     have a0 := y3.blk.cell 0
     have a1 := y3.blk.cell 1
     have a2 := y3.blk.cell 2
     have a3 := y3.blk.cell 3
     have a4 := y3.blk.cell 4
     have a5 := y3.blk.cell 5
     have a6 := y3.blk.cell 6
     go_wp2_with fail
     refine (rE _ y3.below).mono ?_
     rintro e w4 ⟨rfl, b4⟩
     have y4 := y3.under b4
     clear rE b4 y3 a0 a1 a2 a3 a4 a5 a6
     go_wp2_with fail
     refine (kD _).mono ?_
     rintro e w5 ⟨V1, rfl, hV1, ok1, hi1, hI1, bl1⟩
     have y5 := y4.under bl1
     obtain ⟨o1, z1, r1, i1, A1, C1, a1, B1, T1, b1, X1, L1, c1⟩ := V1
     unfold ckA
     dsimp only
     have y5' := y5.alloc 32 #[.string ⟨o1.toArray⟩, .int .i64 z1, .string ⟨r1.toArray⟩, .int .i64 i1, .slice A1 C1.length a1, .slice B1 T1.length b1, .slice X1 L1.length c1]
     obtain ⟨g1, hg1⟩ : ∃ q, w5.heap.size = q := ⟨_, rfl⟩
     rw [hg1] at y5'
     obtain ⟨w5x, hw1, y5x, okx1, ez1⟩ : ∃ q, w5.alloc (.cells #[.string ⟨o1.toArray⟩, .int .i64 z1, .string ⟨r1.toArray⟩, .int .i64 i1, .slice A1 C1.length a1, .slice B1 T1.length b1, .slice X1 L1.length c1] 32) = q ∧ St w.heap.size w q _ ∧ CkV.ok q ⟨o1, z1, r1, i1, A1, C1, a1, B1, T1, b1, X1, L1, c1⟩ ∧ Below w5.heap.size w5 q := ⟨_, rfl, y5', ok1.below ((Below.refl _ _).alloc (Nat.le_refl _) _), (Below.refl _ _).alloc (Nat.le_refl _) _⟩
     clear y5' y5 y4 ok1 kD
     clear bl1
     go_wp2_with fail
     refine (rD _).mono ?_
     rintro e w6 ⟨V2, rfl, hV2, ok2, hi2, hI2, bl2⟩
     have okb1 := okx1.below bl2
     have y6 := y5x.under bl2
     obtain ⟨o2, z2, r2, i2, A2, C2, a2, B2, T2, b2, X2, L2, c2⟩ := V2
     unfold ckA
     dsimp only
     have y6' := y6.alloc 32 #[.string ⟨o2.toArray⟩, .int .i64 z2, .string ⟨r2.toArray⟩, .int .i64 i2, .slice A2 C2.length a2, .slice B2 T2.length b2, .slice X2 L2.length c2]
     obtain ⟨g2, hg2⟩ : ∃ q, w6.heap.size = q := ⟨_, rfl⟩
     rw [hg2] at y6'
     obtain ⟨w6x, hw2, y6x, okx2, ez2⟩ : ∃ q, w6.alloc (.cells #[.string ⟨o2.toArray⟩, .int .i64 z2, .string ⟨r2.toArray⟩, .int .i64 i2, .slice A2 C2.length a2, .slice B2 T2.length b2, .slice X2 L2.length c2] 32) = q ∧ St w.heap.size w q _ ∧ CkV.ok q ⟨o2, z2, r2, i2, A2, C2, a2, B2, T2, b2, X2, L2, c2⟩ ∧ Below w6.heap.size w6 q := ⟨_, rfl, y6', ok2.below ((Below.refl _ _).alloc (Nat.le_refl _) _), (Below.refl _ _).alloc (Nat.le_refl _) _⟩
     clear y6' y6 y5x ok2 rD
     have okc1 := okb1.below ez2
     clear okx1 okb1 hw1 hg1 bl2 ez1 ez2
     have hsm := sameV_strip ⟨o1, z1, r1, i1, A1, C1, a1, B1, T1, b1, X1, L1, c1⟩ ⟨o2, z2, r2, i2, A2, C2, a2, B2, T2, b2, X2, L2, c2⟩ (hV1.trans hV2.symm)
     have ks := sameV_spec ⟨o1, z1, r1, i1, A1, C1, a1, B1, T1, b1, X1, L1, c1⟩ ⟨o2, z2, r2, i2, A2, C2, a2, B2, T2, b2, X2, L2, c2⟩ w6x okc1 okx2
     rw [hsm] at ks
     dsimp only at ks
     have Y6 := Lib.hid (And.intro y6x okc1)
     have e0 := y6x.tail.blk.cell 0
     have e1 := y6x.tail.blk.cell 1
     have e2 := y6x.tail.blk.cell 2
     have e3 := y6x.tail.blk.cell 3
     have e4 := y6x.tail.blk.cell 4
     have e5 := y6x.tail.blk.cell 5
     have e6 := y6x.tail.blk.cell 6
     have f0 := y6x.blk.cell 0
     have f1 := y6x.blk.cell 1
     have f2 := y6x.blk.cell 2
     have f3 := y6x.blk.cell 3
     have f4 := y6x.blk.cell 4
     have f5 := y6x.blk.cell 5
     have f6 := y6x.blk.cell 6
     have HV := Lib.hid (And.intro hV1 (And.intro hi1 hI1))
     clear hsm y6x okc1 okx2 hV1 hV2 hi1 hI1 hi2 hI2
     go_wp2_with fail
     refine ks.mono ?_
     rintro e w7 ⟨rfl, b7⟩
     have Y7 := Lib.hid (Y6.out.1.under b7)
     have ok7 := Y6.out.2.below b7
     clear ks Y6 e0 e1 e2 e3 e4 e5 e6 f0 f1 f2 f3 f4 f5 f6 hw2 hg2 b7
     have e0 := Y7.out.tail.blk.cell 0
     have e1 := Y7.out.tail.blk.cell 1
     have e2 := Y7.out.tail.blk.cell 2
     have e3 := Y7.out.tail.blk.cell 3
     have e4 := Y7.out.tail.blk.cell 4
     have e5 := Y7.out.tail.blk.cell 5
     have e6 := Y7.out.tail.blk.cell 6
     obtain ⟨h1, h2, h3⟩ := HV.out
     have ke := ckencode_spec o1 z1 r1 i1 A1 B1 C1 T1 a1 b1 X1 L1 c1 w7 ok7.2.2.2.2.2.2.1 h3 h2 ok7.1 ok7.2.1 ok7.2.2.1 ok7.2.2.2.1 ok7.2.2.2.2.1 ok7.2.2.2.2.2.1
     have he1 : ckEnc o1 z1 r1 i1 C1 T1 L1 = (s, 0) := by
      unfold CkV.strip ckP at h1
      simp only [CkV.mk.injEq] at h1
      obtain ⟨e1, e2, e3, e4, _, e5, _, _, e6, _, _, e7, _⟩ := h1
      rw [← ckEnc_strip, e1, e2, e3, e4, e5, e6, e7]
      exact he
     rw [he1] at ke
     clear he he1 h1 h2 h3 ok7
     go_wp2_with fail
     refine ke.mono ?_
     rintro e w8 ⟨rfl, b8⟩
     have Y8 := Lib.hid (Y7.out.under b8)
     clear ke b8 Y7 e0 e1 e2 e3 e4 e5 e6
     go_wp2
     go_ret
     exact ⟨rfl, Y8.out.below⟩
   ·have l1' : (10000 : Int) < (s.length : Int) := by omega
    clear kE rE l1
    go_enter Tryz.func5, Tryz.ntmps5
    go_wp2_with fail
    refine (awake_ck _).mono ?_
    rintro e w1 ⟨rfl, b1⟩
    have y1 := Y0.out.under b1
    clear b1
    have a0 := y1.blk.cell 0
    have a1 := y1.blk.cell 1
    have a2 := y1.blk.cell 2
    have a3 := y1.blk.cell 3
    have a4 := y1.blk.cell 4
    have a5 := y1.blk.cell 5
    have a6 := y1.blk.cell 6
    go_wp2_with fail
    refine (kF _ y1.below).mono ?_
    rintro e w2 ⟨rfl, b2⟩
    have y2 := y1.under b2
    clear kF b2 y1 a0 a1 a2 a3 a4 a5 a6
    go_wp2
    go_ret
    exact ⟨rfl, y2.below⟩
end Go.Proofs.YtjjpdnpbhdcpbaaGreat
