/-
  CheckpointSigns: the walk. Conditions: none.
-/
import Derived.Test.YtjjpdnpbhdcpbaaGreatQCkAw
import Derived.Test.YtjjpdnpbhdcpbaaGreatQCkAwA
import Derived.Test.YtjjpdnpbhdcpbaaGreatQPe
import Derived.Test.YtjjpdnpbhdcpbaaGreatQCkO
import Derived.Test.YtjjpdnpbhdcpbaaGreatQPd
import Derived.Test.YtjjpdnpbhdcpbaaGreatQCkL
import Derived.Test.YtjjpdnpbhdcpbaaGreatQCkK
import Derived.Test.YtjjpdnpbhdcpbaaGreatQCkJ
import Derived.Test.YtjjpdnpbhdcpbaaGreatQCkI
import Derived.Test.YtjjpdnpbhdcpbaaGreatQCkH
import Derived.Test.YtjjpdnpbhdcpbaaGreatQCkF
import Derived.Test.YtjjpdnpbhdcpbaaGreatSPb
import Derived.Test.YtjjpdnpbhdcpbaaGreatQCkE
import Derived.Test.YtjjpdnpbhdcpbaaGreatQPa
import Derived.Test.YtjjpdnpbhdcpbaaGreatSPa
import Derived.Deep.Strs
import Derived.Test.YtjjpdnpbhdcpbaaGreatQBase
import Derived.WalkKit
import Derived.WalkSpells
import Derived.WalkLawsBesides
import Derived.Lib.Hide
import Derived.RegionTactic
import Derived.Deep.Draws
import Derived.Deep.QuietTactic
import Derived.BigQuiet
import Derived.Deep.LoopGhost
import Derived.Deep.DeepFit
import Derived.Deep.DeepCutAuto
import Derived.Maps.AppendAt
import Derived.Deep.RegionHeld3
import Derived.Deep.MidRow
import Derived.Deep.AppendLies
import Derived.Test.YtjjpdnpbhdcpbaaGreatProg
import Derived.Maps.OwnSet
import Derived.Test.YtjjpdnpbhdcpbaaGreatQPb
import Derived.Test.YtjjpdnpbhdcpbaaGreatQSgJ
import Derived.Test.YtjjpdnpbhdcpbaaGreatQSgI
import Derived.Test.YtjjpdnpbhdcpbaaGreatQSgH
import Derived.Test.YtjjpdnpbhdcpbaaGreatQSgG
import Derived.Test.YtjjpdnpbhdcpbaaGreatQSgF
import Derived.Test.YtjjpdnpbhdcpbaaGreatQCdA
import Derived.Test.YtjjpdnpbhdcpbaaGreatQMkB
import Derived.Test.YtjjpdnpbhdcpbaaGreatQShaB
import Derived.Test.YtjjpdnpbhdcpbaaGreatQShaA
import Derived.Laws.BitsAllLaws
import Derived.BigRegion
import Derived.Test.YtjjpdnpbhdcpbaaGreatLayC
import Derived.Test.YtjjpdnpbhdcpbaaGreatLay
import Derived.Laws.CopyRow
import Derived.Laws.IdiomStrings
import Derived.Lib.Bytealg
import Derived.Laws.MakeOwn
import Derived.Test.YtjjpdnpbhdcpbaaGreatLayR
import Derived.Lib.OthersKept
import Derived.Test.YtjjpdnpbhdcpbaaGreatQSgD
import Derived.RangeFuncNested
import Derived.RangeFuncBound
import Derived.RangeFuncCalls
import Derived.RangeFuncLeaves
import Derived.Shelf.Abstract
import Derived.Shelf.RegionOpen
import Derived.OwnWalkIn
import Derived.TacticsInMore
import Derived.LoopNIn
import Derived.LoopIn
import Derived.Lib.FrozenHead2
import Derived.OrdersIn
import Derived.RangeFuncFrom
import Derived.Laws.ResultCell
import Derived.Test.YtjjpdnpbhdcpbaaGreatQCdB
import Derived.Laws.DeepNot64
import Derived.Test.YtjjpdnpbhdcpbaaGreatQPc
import Derived.Deep.RegionLaw
import Derived.Test.YtjjpdnpbhdcpbaaGreatQCkZ
import Derived.Test.YtjjpdnpbhdcpbaaGreatQCkY
import Derived.Test.YtjjpdnpbhdcpbaaGreatQCkX
import Derived.Test.YtjjpdnpbhdcpbaaGreatSCkD
namespace Go.Proofs.YtjjpdnpbhdcpbaaGreat
set_option linter.unusedVariables false
open Go.RowKit Go.Shelf
attribute [local go_sem] Oper.semAt_some
set_option maxRecDepth 20000 in
set_option maxHeartbeats 8000000 in
theorem ckSigns_walk (seed : Sg.Str) (h n : Int) (o : Sg.Str) (z : Int) (r pub : Sg.Str) (w : World) :
 Calls Tryz.prog 3 #[.agg #[.string ⟨seed.toArray⟩, .int .i64 h, .int .i64 n], .agg #[.string ⟨o.toArray⟩, .int .i64 z, .string ⟨r.toArray⟩], .string ⟨pub.toArray⟩] w fun e w' => e = .returned (.bool true) ∧ Below w.heap.size w w' := by
 have hz1 := bytes_size seed
 have hz2 := bytes_size o
 have hz3 := bytes_size r
 have hz4 := bytes_size pub
 have y0 := ((St.nil w).alloc 23 #[.string ⟨seed.toArray⟩, .int .i64 h, .int .i64 n]).alloc 25 #[.string ⟨o.toArray⟩, .int .i64 z, .string ⟨r.toArray⟩]
 rw [World.size_alloc] at y0
 have Y0 := Lib.hid y0
 clear y0
 have kS := fun W => cksign_spec seed h n o z r W
 have rS := fun W => rcksign_spec seed h n o z r W
 have kN := fun W => newwit_spec o pub seed h n W
 have rN := fun W => rnewwit_spec o pub seed h n W
 have kR := fun W => ckrot_spec seed h n pub W
 have rR := fun W => rckrot_spec seed h n pub W
 generalize ckSgR seed h n o z r = X at kS rS
 generalize nwR o pub seed h n = V at kN rN
 generalize ckRtR seed h n pub = Z at kR rR
 obtain ⟨⟨x1, x2, x3⟩, ⟨i, C, T⟩, ⟨m1, m2, m3⟩, m4⟩ := X
 obtain ⟨⟨v1, v2, v3, v4, v5, v6, v7, v8⟩, v9⟩ := V
 obtain ⟨p1, ⟨j, D, U⟩, ⟨q1, q2, q3⟩, q4⟩ := Z
 unfold CkP keyA at kS rS
 unfold RtP keyA at kR rR
 unfold witA at kN rN
 dsimp only at kS rS kN rN kR rR
 have kQ : ∀ (A B A' B' : Option Addr) (a b a' b' : Nat) (W : World), Rd W A (strs C) → Rd W B (strs T) → Rd W A' (strs C) → Rd W B' (strs T) → C.length ≤ a → a ≤ maxLen → T.length ≤ b → b ≤ maxLen → C.length ≤ a' → a' ≤ maxLen → T.length ≤ b' → b' ≤ maxLen →
  Calls Tryz.prog 18 #[.agg #[.string ⟨x1.toArray⟩, .int .i64 x2, .string ⟨x3.toArray⟩, .int .i64 i, .slice A C.length a, .slice B T.length b, .slice none 0 0], .agg #[.string ⟨x1.toArray⟩, .int .i64 x2, .string ⟨x3.toArray⟩, .int .i64 i, .slice A' C.length a', .slice B' T.length b', .slice none 0 0]] W fun e w' => e = .returned (.bool true) ∧ Below W.heap.size W w' := fun A B A' B' a b a' b' W h1 h2 h3 h4 u1 u2 u3 u4 u5 u6 u7 u8 => by
  have := sameV_spec ⟨x1, x2, x3, i, A, C, a, B, T, b, none, [], 0⟩ ⟨x1, x2, x3, i, A', C, a', B', T, b', none, [], 0⟩ W ⟨h1, h2, u1, u2, u3, u4, ⟨.inl rfl, fun x hx => by cases hx⟩, Nat.le_refl _, Nat.zero_le _⟩ ⟨h3, h4, u5, u6, u7, u8, ⟨.inl rfl, fun x hx => by cases hx⟩, Nat.le_refl _, Nat.zero_le _⟩
  have hs := sameV_strip ⟨x1, x2, x3, i, A, C, a, B, T, b, none, [], 0⟩ ⟨x1, x2, x3, i, A', C, a', B', T, b', none, [], 0⟩ rfl
  rw [hs] at this
  exact this
 have kZ := fun (A B A' B' : Option Addr) (a b a' b' : Nat) (W : World) (h1 : Rd W A (strs D)) (h2 : Rd W B (strs U)) (h3 : Rd W A' (strs D)) (h4 : Rd W B' (strs U)) (u1 : D.length ≤ a) (u2 : a ≤ maxLen) (u3 : U.length ≤ b) (u4 : b ≤ maxLen) (u5 : D.length ≤ a') (u6 : a' ≤ maxLen) (u7 : U.length ≤ b') (u8 : b' ≤ maxLen) => rsame_spec j D U A B a b j D U A' B' a' b' W h1 h2 h3 h4 (Nat.le_trans u1 u2) (Nat.le_trans u3 u4) (Nat.le_trans u5 u6) (Nat.le_trans u7 u8)
 have hsam : samB j D U j D U = true := by unfold samB; simp
 simp only [hsam] at kZ
 clear hsam
 have hc : (2 < h ∧ h ≤ 6) ∨ (¬ 2 < h) ∨ (2 < h ∧ ¬ h ≤ 6) := by omega
 rcases hc with ⟨h1, h2⟩ | h1 | ⟨h1, h2⟩
 ·clear kQ kZ kS rS kN rN kR rR
  go_enter Tryz.func3, Tryz.ntmps3
  go_wp2_with fail
  refine (awake_ck _).mono ?_
  rintro e w1 ⟨rfl, b1⟩
  have y1 := Y0.out.under b1
  clear b1
  have c0 := y1.tail.blk.cell 0
  have c1 := y1.tail.blk.cell 1
  have c2 := y1.tail.blk.cell 2
  have d0 := y1.blk.cell 0
  have d1 := y1.blk.cell 1
  have d2 := y1.blk.cell 2
  go_wp2
  go_ret
  exact ⟨rfl, y1.below⟩
 all_goals
  go_enter Tryz.func3, Tryz.ntmps3
  go_wp2_with fail
  refine (awake_ck _).mono ?_
  rintro e w1 ⟨rfl, b1⟩
  have y1 := Y0.out.under b1
  clear b1
  have c0 := y1.tail.blk.cell 0
  have c1 := y1.tail.blk.cell 1
  have c2 := y1.tail.blk.cell 2
  have d0 := y1.blk.cell 0
  have d1 := y1.blk.cell 1
  have d2 := y1.blk.cell 2
  go_wp2_with fail
  ·go_ret
   exact ⟨rfl, y1.below⟩
  refine (kS _).mono ?_
  rintro e w2 ⟨va, vb, rfl, t2⟩
  obtain ⟨A1, n1, rfl, ua1, ua2⟩ := own_form t2.own
  obtain ⟨A2, n2, rfl, ua3, ua4⟩ := own_form t2.tail.own
  have Ua := Lib.hid (And.intro ua1 (And.intro ua2 (And.intro ua3 ua4)))
  have y2 := ((y1.join t2).alloc 32 #[.string ⟨x1.toArray⟩, .int .i64 x2, .string ⟨x3.toArray⟩, .int .i64 i, .slice A1 C.length n1, .slice A2 T.length n2, .slice none 0 0]).alloc 23 #[.string ⟨m1.toArray⟩, .int .i64 m2, .int .i64 m3]
  rw [World.size_alloc] at y2
  obtain ⟨ga, hga⟩ : ∃ q, w2.heap.size = q := ⟨_, rfl⟩
  rw [hga] at y2
  obtain ⟨w2x, hwa, y2⟩ : ∃ q, (w2.alloc (.cells #[.string ⟨x1.toArray⟩, .int .i64 x2, .string ⟨x3.toArray⟩, .int .i64 i, .slice A1 C.length n1, .slice A2 T.length n2, .slice none 0 0] 32)).alloc (.cells #[.string ⟨m1.toArray⟩, .int .i64 m2, .int .i64 m3] 23) = q ∧ St w.heap.size w q _ := ⟨_, rfl, y2⟩
  clear t2 kS ua1 ua2 ua3 ua4 c0 c1 c2 d0 d1 d2
  clear y1
  have c0 := y2.tail.tail.tail.tail.tail.blk.cell 0
  have c1 := y2.tail.tail.tail.tail.tail.blk.cell 1
  have c2 := y2.tail.tail.tail.tail.tail.blk.cell 2
  have d0 := y2.tail.tail.tail.tail.blk.cell 0
  have d1 := y2.tail.tail.tail.tail.blk.cell 1
  have d2 := y2.tail.tail.tail.tail.blk.cell 2
  go_wp2_with fail
  refine (rS _).mono ?_
  rintro e w3 ⟨va, vb, rfl, t3⟩
  obtain ⟨A3, n3, rfl, ub1, ub2⟩ := own_form t3.own
  obtain ⟨A4, n4, rfl, ub3, ub4⟩ := own_form t3.tail.own
  have Ub := Lib.hid (And.intro ub1 (And.intro ub2 (And.intro ub3 ub4)))
  have y3 := ((y2.join t3).alloc 32 #[.string ⟨x1.toArray⟩, .int .i64 x2, .string ⟨x3.toArray⟩, .int .i64 i, .slice A3 C.length n3, .slice A4 T.length n4, .slice none 0 0]).alloc 23 #[.string ⟨m1.toArray⟩, .int .i64 m2, .int .i64 m3]
  rw [World.size_alloc] at y3
  obtain ⟨gb, hgb⟩ : ∃ q, w3.heap.size = q := ⟨_, rfl⟩
  rw [hgb] at y3
  obtain ⟨w3x, hwb, y3⟩ : ∃ q, (w3.alloc (.cells #[.string ⟨x1.toArray⟩, .int .i64 x2, .string ⟨x3.toArray⟩, .int .i64 i, .slice A3 C.length n3, .slice A4 T.length n4, .slice none 0 0] 32)).alloc (.cells #[.string ⟨m1.toArray⟩, .int .i64 m2, .int .i64 m3] 23) = q ∧ St w.heap.size w q _ := ⟨_, rfl, y3⟩
  clear t3 rS ub1 ub2 ub3 ub4 c0 c1 c2 d0 d1 d2
  clear y2 hwa hga
  have c0 := y3.tail.tail.tail.tail.tail.tail.tail.tail.tail.blk.cell 0
  have c1 := y3.tail.tail.tail.tail.tail.tail.tail.tail.tail.blk.cell 1
  have c2 := y3.tail.tail.tail.tail.tail.tail.tail.tail.tail.blk.cell 2
  have d0 := y3.tail.tail.tail.tail.tail.tail.tail.tail.blk.cell 0
  have d1 := y3.tail.tail.tail.tail.tail.tail.tail.tail.blk.cell 1
  have d2 := y3.tail.tail.tail.tail.tail.tail.tail.tail.blk.cell 2
  go_wp2_with fail
  refine (kN _).mono ?_
  rintro e w4 ⟨rfl, b4⟩
  have y4 := (y3.under b4).alloc 37 #[.string ⟨v1.toArray⟩, .string ⟨v2.toArray⟩, .string ⟨v3.toArray⟩, .int .i64 v4, .int .i64 v5, .string ⟨v6.toArray⟩, .int .i64 v7, .string ⟨v8.toArray⟩]
  obtain ⟨gc, hgc⟩ : ∃ q, w4.heap.size = q := ⟨_, rfl⟩
  rw [hgc] at y4
  obtain ⟨w4x, hwc, y4⟩ : ∃ q, w4.alloc (.cells #[.string ⟨v1.toArray⟩, .string ⟨v2.toArray⟩, .string ⟨v3.toArray⟩, .int .i64 v4, .int .i64 v5, .string ⟨v6.toArray⟩, .int .i64 v7, .string ⟨v8.toArray⟩] 37) = q ∧ St w.heap.size w q _ := ⟨_, rfl, y4⟩
  clear y3 b4 kN hwb hgb c0 c1 c2 d0 d1 d2
  have c0 := y4.tail.tail.tail.tail.tail.tail.tail.tail.tail.tail.blk.cell 0
  have c1 := y4.tail.tail.tail.tail.tail.tail.tail.tail.tail.tail.blk.cell 1
  have c2 := y4.tail.tail.tail.tail.tail.tail.tail.tail.tail.tail.blk.cell 2
  have d0 := y4.tail.tail.tail.tail.tail.tail.tail.tail.tail.blk.cell 0
  have d1 := y4.tail.tail.tail.tail.tail.tail.tail.tail.tail.blk.cell 1
  have d2 := y4.tail.tail.tail.tail.tail.tail.tail.tail.tail.blk.cell 2
  go_wp2_with fail
  refine (rN _).mono ?_
  rintro e w5 ⟨rfl, b5⟩
  have y5 := (y4.under b5).alloc 37 #[.string ⟨v1.toArray⟩, .string ⟨v2.toArray⟩, .string ⟨v3.toArray⟩, .int .i64 v4, .int .i64 v5, .string ⟨v6.toArray⟩, .int .i64 v7, .string ⟨v8.toArray⟩]
  obtain ⟨gd, hgd⟩ : ∃ q, w5.heap.size = q := ⟨_, rfl⟩
  rw [hgd] at y5
  obtain ⟨w5x, hwd, y5⟩ : ∃ q, w5.alloc (.cells #[.string ⟨v1.toArray⟩, .string ⟨v2.toArray⟩, .string ⟨v3.toArray⟩, .int .i64 v4, .int .i64 v5, .string ⟨v6.toArray⟩, .int .i64 v7, .string ⟨v8.toArray⟩] 37) = q ∧ St w.heap.size w q _ := ⟨_, rfl, y5⟩
  clear y4 b5 rN hwc hgc c0 c1 c2 d0 d1 d2
  have c0 := y5.tail.tail.tail.tail.tail.tail.tail.tail.tail.tail.tail.blk.cell 0
  have c1 := y5.tail.tail.tail.tail.tail.tail.tail.tail.tail.tail.tail.blk.cell 1
  have c2 := y5.tail.tail.tail.tail.tail.tail.tail.tail.tail.tail.tail.blk.cell 2
  have d0 := y5.tail.tail.tail.tail.tail.tail.tail.tail.tail.tail.blk.cell 0
  have d1 := y5.tail.tail.tail.tail.tail.tail.tail.tail.tail.tail.blk.cell 1
  have d2 := y5.tail.tail.tail.tail.tail.tail.tail.tail.tail.tail.blk.cell 2
  go_wp2_with fail
  refine (kR _).mono ?_
  rintro e w6 ⟨va, vb, rfl, t6⟩
  obtain ⟨A5, n5, rfl, ue1, ue2⟩ := own_form t6.own
  obtain ⟨A6, n6, rfl, ue3, ue4⟩ := own_form t6.tail.own
  have Ue := Lib.hid (And.intro ue1 (And.intro ue2 (And.intro ue3 ue4)))
  have y6 := ((y5.join t6).alloc 41 #[.string ⟨p1.toArray⟩, .int .i64 j, .slice A5 D.length n5, .slice A6 U.length n6]).alloc 23 #[.string ⟨q1.toArray⟩, .int .i64 q2, .int .i64 q3]
  rw [World.size_alloc] at y6
  obtain ⟨ge, hge⟩ : ∃ q, w6.heap.size = q := ⟨_, rfl⟩
  rw [hge] at y6
  obtain ⟨w6x, hwe, y6⟩ : ∃ q, (w6.alloc (.cells #[.string ⟨p1.toArray⟩, .int .i64 j, .slice A5 D.length n5, .slice A6 U.length n6] 41)).alloc (.cells #[.string ⟨q1.toArray⟩, .int .i64 q2, .int .i64 q3] 23) = q ∧ St w.heap.size w q _ := ⟨_, rfl, y6⟩
  clear t6 kR ue1 ue2 ue3 ue4 c0 c1 c2 d0 d1 d2
  clear y5 hwd hgd
  have c0 := y6.tail.tail.tail.tail.tail.tail.tail.tail.tail.tail.tail.tail.tail.tail.tail.blk.cell 0
  have c1 := y6.tail.tail.tail.tail.tail.tail.tail.tail.tail.tail.tail.tail.tail.tail.tail.blk.cell 1
  have c2 := y6.tail.tail.tail.tail.tail.tail.tail.tail.tail.tail.tail.tail.tail.tail.tail.blk.cell 2
  have d0 := y6.tail.tail.tail.tail.tail.tail.tail.tail.tail.tail.tail.tail.tail.tail.blk.cell 0
  have d1 := y6.tail.tail.tail.tail.tail.tail.tail.tail.tail.tail.tail.tail.tail.tail.blk.cell 1
  have d2 := y6.tail.tail.tail.tail.tail.tail.tail.tail.tail.tail.tail.tail.tail.tail.blk.cell 2
  go_wp2_with fail
  refine (rR _).mono ?_
  rintro e w7 ⟨va, vb, rfl, t7⟩
  obtain ⟨A7, n7, rfl, uf1, uf2⟩ := own_form t7.own
  obtain ⟨A8, n8, rfl, uf3, uf4⟩ := own_form t7.tail.own
  have Uf := Lib.hid (And.intro uf1 (And.intro uf2 (And.intro uf3 uf4)))
  have y7 := ((y6.join t7).alloc 41 #[.string ⟨p1.toArray⟩, .int .i64 j, .slice A7 D.length n7, .slice A8 U.length n8]).alloc 23 #[.string ⟨q1.toArray⟩, .int .i64 q2, .int .i64 q3]
  rw [World.size_alloc] at y7
  obtain ⟨gf, hgf⟩ : ∃ q, w7.heap.size = q := ⟨_, rfl⟩
  rw [hgf] at y7
  obtain ⟨w7x, hwf, y7⟩ : ∃ q, (w7.alloc (.cells #[.string ⟨p1.toArray⟩, .int .i64 j, .slice A7 D.length n7, .slice A8 U.length n8] 41)).alloc (.cells #[.string ⟨q1.toArray⟩, .int .i64 q2, .int .i64 q3] 23) = q ∧ St w.heap.size w q _ := ⟨_, rfl, y7⟩
  clear t7 rR uf1 uf2 uf3 uf4 c0 c1 c2 d0 d1 d2
  clear y6 hwe hge
  have e0 := y7.tail.tail.tail.tail.tail.tail.tail.tail.tail.tail.tail.tail.tail.tail.tail.blk.cell 0
  have e1 := y7.tail.tail.tail.tail.tail.tail.tail.tail.tail.tail.tail.tail.tail.tail.tail.blk.cell 1
  have e2 := y7.tail.tail.tail.tail.tail.tail.tail.tail.tail.tail.tail.tail.tail.tail.tail.blk.cell 2
  have e3 := y7.tail.tail.tail.tail.tail.tail.tail.tail.tail.tail.tail.tail.tail.tail.tail.blk.cell 3
  have e4 := y7.tail.tail.tail.tail.tail.tail.tail.tail.tail.tail.tail.tail.tail.tail.tail.blk.cell 4
  have e5 := y7.tail.tail.tail.tail.tail.tail.tail.tail.tail.tail.tail.tail.tail.tail.tail.blk.cell 5
  have e6 := y7.tail.tail.tail.tail.tail.tail.tail.tail.tail.tail.tail.tail.tail.tail.tail.blk.cell 6
  have f0 := y7.tail.tail.tail.tail.tail.tail.tail.tail.tail.tail.tail.blk.cell 0
  have f1 := y7.tail.tail.tail.tail.tail.tail.tail.tail.tail.tail.tail.blk.cell 1
  have f2 := y7.tail.tail.tail.tail.tail.tail.tail.tail.tail.tail.tail.blk.cell 2
  have f3 := y7.tail.tail.tail.tail.tail.tail.tail.tail.tail.tail.tail.blk.cell 3
  have f4 := y7.tail.tail.tail.tail.tail.tail.tail.tail.tail.tail.tail.blk.cell 4
  have f5 := y7.tail.tail.tail.tail.tail.tail.tail.tail.tail.tail.tail.blk.cell 5
  have f6 := y7.tail.tail.tail.tail.tail.tail.tail.tail.tail.tail.tail.blk.cell 6
  have ka0 := y7.tail.tail.tail.tail.tail.tail.tail.tail.tail.tail.tail.tail.tail.tail.blk.cell 0
  have ka1 := y7.tail.tail.tail.tail.tail.tail.tail.tail.tail.tail.tail.tail.tail.tail.blk.cell 1
  have ka2 := y7.tail.tail.tail.tail.tail.tail.tail.tail.tail.tail.tail.tail.tail.tail.blk.cell 2
  have kb0 := y7.tail.tail.tail.tail.tail.tail.tail.tail.tail.tail.blk.cell 0
  have kb1 := y7.tail.tail.tail.tail.tail.tail.tail.tail.tail.tail.blk.cell 1
  have kb2 := y7.tail.tail.tail.tail.tail.tail.tail.tail.tail.tail.blk.cell 2
  have wa0 := y7.tail.tail.tail.tail.tail.tail.tail.tail.tail.blk.cell 0
  have wa1 := y7.tail.tail.tail.tail.tail.tail.tail.tail.tail.blk.cell 1
  have wa2 := y7.tail.tail.tail.tail.tail.tail.tail.tail.tail.blk.cell 2
  have wa3 := y7.tail.tail.tail.tail.tail.tail.tail.tail.tail.blk.cell 3
  have wa4 := y7.tail.tail.tail.tail.tail.tail.tail.tail.tail.blk.cell 4
  have wa5 := y7.tail.tail.tail.tail.tail.tail.tail.tail.tail.blk.cell 5
  have wa6 := y7.tail.tail.tail.tail.tail.tail.tail.tail.tail.blk.cell 6
  have wa7 := y7.tail.tail.tail.tail.tail.tail.tail.tail.tail.blk.cell 7
  have wb0 := y7.tail.tail.tail.tail.tail.tail.tail.tail.blk.cell 0
  have wb1 := y7.tail.tail.tail.tail.tail.tail.tail.tail.blk.cell 1
  have wb2 := y7.tail.tail.tail.tail.tail.tail.tail.tail.blk.cell 2
  have wb3 := y7.tail.tail.tail.tail.tail.tail.tail.tail.blk.cell 3
  have wb4 := y7.tail.tail.tail.tail.tail.tail.tail.tail.blk.cell 4
  have wb5 := y7.tail.tail.tail.tail.tail.tail.tail.tail.blk.cell 5
  have wb6 := y7.tail.tail.tail.tail.tail.tail.tail.tail.blk.cell 6
  have wb7 := y7.tail.tail.tail.tail.tail.tail.tail.tail.blk.cell 7
  have ra0 := y7.tail.tail.tail.tail.tail.blk.cell 0
  have ra1 := y7.tail.tail.tail.tail.tail.blk.cell 1
  have ra2 := y7.tail.tail.tail.tail.tail.blk.cell 2
  have ra3 := y7.tail.tail.tail.tail.tail.blk.cell 3
  have rb0 := y7.tail.blk.cell 0
  have rb1 := y7.tail.blk.cell 1
  have rb2 := y7.tail.blk.cell 2
  have rb3 := y7.tail.blk.cell 3
  have la0 := y7.tail.tail.tail.tail.blk.cell 0
  have la1 := y7.tail.tail.tail.tail.blk.cell 1
  have la2 := y7.tail.tail.tail.tail.blk.cell 2
  have lb0 := y7.blk.cell 0
  have lb1 := y7.blk.cell 1
  have lb2 := y7.blk.cell 2
  have kq := kQ A1 A2 A3 A4 n1 n2 n3 n4 w7x (Rd.of_own y7.tail.tail.tail.tail.tail.tail.tail.tail.tail.tail.tail.tail.tail.tail.tail.tail.own) (Rd.of_own y7.tail.tail.tail.tail.tail.tail.tail.tail.tail.tail.tail.tail.tail.tail.tail.tail.tail.own) (Rd.of_own y7.tail.tail.tail.tail.tail.tail.tail.tail.tail.tail.tail.tail.own) (Rd.of_own y7.tail.tail.tail.tail.tail.tail.tail.tail.tail.tail.tail.tail.tail.own) Ua.out.1 Ua.out.2.1 Ua.out.2.2.1 Ua.out.2.2.2 Ub.out.1 Ub.out.2.1 Ub.out.2.2.1 Ub.out.2.2.2
  have Y7 := Lib.hid y7
  clear kQ y7
  go_wp2_with fail
  refine kq.mono ?_
  rintro e w8 ⟨rfl, b8⟩
  have y8 := Y7.out.under b8
  clear kq b8 hwf hgf e0 e1 e2 e3 e4 e5 e6 f0 f1 f2 f3 f4 f5 f6 ka0 ka1 ka2 kb0 kb1 kb2 wa0 wa1 wa2 wa3 wa4 wa5 wa6 wa7 wb0 wb1 wb2 wb3 wb4 wb5 wb6 wb7 ra0 ra1 ra2 ra3 rb0 rb1 rb2 rb3 la0 la1 la2 lb0 lb1 lb2
  have e0 := y8.tail.tail.tail.tail.tail.tail.tail.tail.tail.tail.tail.tail.tail.tail.tail.blk.cell 0
  have e1 := y8.tail.tail.tail.tail.tail.tail.tail.tail.tail.tail.tail.tail.tail.tail.tail.blk.cell 1
  have e2 := y8.tail.tail.tail.tail.tail.tail.tail.tail.tail.tail.tail.tail.tail.tail.tail.blk.cell 2
  have e3 := y8.tail.tail.tail.tail.tail.tail.tail.tail.tail.tail.tail.tail.tail.tail.tail.blk.cell 3
  have e4 := y8.tail.tail.tail.tail.tail.tail.tail.tail.tail.tail.tail.tail.tail.tail.tail.blk.cell 4
  have e5 := y8.tail.tail.tail.tail.tail.tail.tail.tail.tail.tail.tail.tail.tail.tail.tail.blk.cell 5
  have e6 := y8.tail.tail.tail.tail.tail.tail.tail.tail.tail.tail.tail.tail.tail.tail.tail.blk.cell 6
  have f0 := y8.tail.tail.tail.tail.tail.tail.tail.tail.tail.tail.tail.blk.cell 0
  have f1 := y8.tail.tail.tail.tail.tail.tail.tail.tail.tail.tail.tail.blk.cell 1
  have f2 := y8.tail.tail.tail.tail.tail.tail.tail.tail.tail.tail.tail.blk.cell 2
  have f3 := y8.tail.tail.tail.tail.tail.tail.tail.tail.tail.tail.tail.blk.cell 3
  have f4 := y8.tail.tail.tail.tail.tail.tail.tail.tail.tail.tail.tail.blk.cell 4
  have f5 := y8.tail.tail.tail.tail.tail.tail.tail.tail.tail.tail.tail.blk.cell 5
  have f6 := y8.tail.tail.tail.tail.tail.tail.tail.tail.tail.tail.tail.blk.cell 6
  have ka0 := y8.tail.tail.tail.tail.tail.tail.tail.tail.tail.tail.tail.tail.tail.tail.blk.cell 0
  have ka1 := y8.tail.tail.tail.tail.tail.tail.tail.tail.tail.tail.tail.tail.tail.tail.blk.cell 1
  have ka2 := y8.tail.tail.tail.tail.tail.tail.tail.tail.tail.tail.tail.tail.tail.tail.blk.cell 2
  have kb0 := y8.tail.tail.tail.tail.tail.tail.tail.tail.tail.tail.blk.cell 0
  have kb1 := y8.tail.tail.tail.tail.tail.tail.tail.tail.tail.tail.blk.cell 1
  have kb2 := y8.tail.tail.tail.tail.tail.tail.tail.tail.tail.tail.blk.cell 2
  have wa0 := y8.tail.tail.tail.tail.tail.tail.tail.tail.tail.blk.cell 0
  have wa1 := y8.tail.tail.tail.tail.tail.tail.tail.tail.tail.blk.cell 1
  have wa2 := y8.tail.tail.tail.tail.tail.tail.tail.tail.tail.blk.cell 2
  have wa3 := y8.tail.tail.tail.tail.tail.tail.tail.tail.tail.blk.cell 3
  have wa4 := y8.tail.tail.tail.tail.tail.tail.tail.tail.tail.blk.cell 4
  have wa5 := y8.tail.tail.tail.tail.tail.tail.tail.tail.tail.blk.cell 5
  have wa6 := y8.tail.tail.tail.tail.tail.tail.tail.tail.tail.blk.cell 6
  have wa7 := y8.tail.tail.tail.tail.tail.tail.tail.tail.tail.blk.cell 7
  have wb0 := y8.tail.tail.tail.tail.tail.tail.tail.tail.blk.cell 0
  have wb1 := y8.tail.tail.tail.tail.tail.tail.tail.tail.blk.cell 1
  have wb2 := y8.tail.tail.tail.tail.tail.tail.tail.tail.blk.cell 2
  have wb3 := y8.tail.tail.tail.tail.tail.tail.tail.tail.blk.cell 3
  have wb4 := y8.tail.tail.tail.tail.tail.tail.tail.tail.blk.cell 4
  have wb5 := y8.tail.tail.tail.tail.tail.tail.tail.tail.blk.cell 5
  have wb6 := y8.tail.tail.tail.tail.tail.tail.tail.tail.blk.cell 6
  have wb7 := y8.tail.tail.tail.tail.tail.tail.tail.tail.blk.cell 7
  have ra0 := y8.tail.tail.tail.tail.tail.blk.cell 0
  have ra1 := y8.tail.tail.tail.tail.tail.blk.cell 1
  have ra2 := y8.tail.tail.tail.tail.tail.blk.cell 2
  have ra3 := y8.tail.tail.tail.tail.tail.blk.cell 3
  have rb0 := y8.tail.blk.cell 0
  have rb1 := y8.tail.blk.cell 1
  have rb2 := y8.tail.blk.cell 2
  have rb3 := y8.tail.blk.cell 3
  have la0 := y8.tail.tail.tail.tail.blk.cell 0
  have la1 := y8.tail.tail.tail.tail.blk.cell 1
  have la2 := y8.tail.tail.tail.tail.blk.cell 2
  have lb0 := y8.blk.cell 0
  have lb1 := y8.blk.cell 1
  have lb2 := y8.blk.cell 2
  have kz := kZ A5 A6 A7 A8 n5 n6 n7 n8 w8 (Rd.of_own y8.tail.tail.tail.tail.tail.tail.own) (Rd.of_own y8.tail.tail.tail.tail.tail.tail.tail.own) (Rd.of_own y8.tail.tail.own) (Rd.of_own y8.tail.tail.tail.own) Ue.out.1 Ue.out.2.1 Ue.out.2.2.1 Ue.out.2.2.2 Uf.out.1 Uf.out.2.1 Uf.out.2.2.1 Uf.out.2.2.2
  have Y8 := Lib.hid y8
  clear kZ y8 Y7
  go_wp2_with fail
  refine kz.mono ?_
  rintro e w9 ⟨rfl, b9⟩
  have y9 := Y8.out.under b9
  clear kz b9 Y8 e0 e1 e2 e3 e4 e5 e6 f0 f1 f2 f3 f4 f5 f6 ka0 ka1 ka2 kb0 kb1 kb2 wa0 wa1 wa2 wa3 wa4 wa5 wa6 wa7 wb0 wb1 wb2 wb3 wb4 wb5 wb6 wb7 ra0 ra1 ra2 ra3 rb0 rb1 rb2 rb3 la0 la1 la2 lb0 lb1 lb2
  have e0 := y9.tail.tail.tail.tail.tail.tail.tail.tail.tail.tail.tail.tail.tail.tail.tail.blk.cell 0
  have e1 := y9.tail.tail.tail.tail.tail.tail.tail.tail.tail.tail.tail.tail.tail.tail.tail.blk.cell 1
  have e2 := y9.tail.tail.tail.tail.tail.tail.tail.tail.tail.tail.tail.tail.tail.tail.tail.blk.cell 2
  have e3 := y9.tail.tail.tail.tail.tail.tail.tail.tail.tail.tail.tail.tail.tail.tail.tail.blk.cell 3
  have e4 := y9.tail.tail.tail.tail.tail.tail.tail.tail.tail.tail.tail.tail.tail.tail.tail.blk.cell 4
  have e5 := y9.tail.tail.tail.tail.tail.tail.tail.tail.tail.tail.tail.tail.tail.tail.tail.blk.cell 5
  have e6 := y9.tail.tail.tail.tail.tail.tail.tail.tail.tail.tail.tail.tail.tail.tail.tail.blk.cell 6
  have f0 := y9.tail.tail.tail.tail.tail.tail.tail.tail.tail.tail.tail.blk.cell 0
  have f1 := y9.tail.tail.tail.tail.tail.tail.tail.tail.tail.tail.tail.blk.cell 1
  have f2 := y9.tail.tail.tail.tail.tail.tail.tail.tail.tail.tail.tail.blk.cell 2
  have f3 := y9.tail.tail.tail.tail.tail.tail.tail.tail.tail.tail.tail.blk.cell 3
  have f4 := y9.tail.tail.tail.tail.tail.tail.tail.tail.tail.tail.tail.blk.cell 4
  have f5 := y9.tail.tail.tail.tail.tail.tail.tail.tail.tail.tail.tail.blk.cell 5
  have f6 := y9.tail.tail.tail.tail.tail.tail.tail.tail.tail.tail.tail.blk.cell 6
  have ka0 := y9.tail.tail.tail.tail.tail.tail.tail.tail.tail.tail.tail.tail.tail.tail.blk.cell 0
  have ka1 := y9.tail.tail.tail.tail.tail.tail.tail.tail.tail.tail.tail.tail.tail.tail.blk.cell 1
  have ka2 := y9.tail.tail.tail.tail.tail.tail.tail.tail.tail.tail.tail.tail.tail.tail.blk.cell 2
  have kb0 := y9.tail.tail.tail.tail.tail.tail.tail.tail.tail.tail.blk.cell 0
  have kb1 := y9.tail.tail.tail.tail.tail.tail.tail.tail.tail.tail.blk.cell 1
  have kb2 := y9.tail.tail.tail.tail.tail.tail.tail.tail.tail.tail.blk.cell 2
  have wa0 := y9.tail.tail.tail.tail.tail.tail.tail.tail.tail.blk.cell 0
  have wa1 := y9.tail.tail.tail.tail.tail.tail.tail.tail.tail.blk.cell 1
  have wa2 := y9.tail.tail.tail.tail.tail.tail.tail.tail.tail.blk.cell 2
  have wa3 := y9.tail.tail.tail.tail.tail.tail.tail.tail.tail.blk.cell 3
  have wa4 := y9.tail.tail.tail.tail.tail.tail.tail.tail.tail.blk.cell 4
  have wa5 := y9.tail.tail.tail.tail.tail.tail.tail.tail.tail.blk.cell 5
  have wa6 := y9.tail.tail.tail.tail.tail.tail.tail.tail.tail.blk.cell 6
  have wa7 := y9.tail.tail.tail.tail.tail.tail.tail.tail.tail.blk.cell 7
  have wb0 := y9.tail.tail.tail.tail.tail.tail.tail.tail.blk.cell 0
  have wb1 := y9.tail.tail.tail.tail.tail.tail.tail.tail.blk.cell 1
  have wb2 := y9.tail.tail.tail.tail.tail.tail.tail.tail.blk.cell 2
  have wb3 := y9.tail.tail.tail.tail.tail.tail.tail.tail.blk.cell 3
  have wb4 := y9.tail.tail.tail.tail.tail.tail.tail.tail.blk.cell 4
  have wb5 := y9.tail.tail.tail.tail.tail.tail.tail.tail.blk.cell 5
  have wb6 := y9.tail.tail.tail.tail.tail.tail.tail.tail.blk.cell 6
  have wb7 := y9.tail.tail.tail.tail.tail.tail.tail.tail.blk.cell 7
  have ra0 := y9.tail.tail.tail.tail.tail.blk.cell 0
  have ra1 := y9.tail.tail.tail.tail.tail.blk.cell 1
  have ra2 := y9.tail.tail.tail.tail.tail.blk.cell 2
  have ra3 := y9.tail.tail.tail.tail.tail.blk.cell 3
  have rb0 := y9.tail.blk.cell 0
  have rb1 := y9.tail.blk.cell 1
  have rb2 := y9.tail.blk.cell 2
  have rb3 := y9.tail.blk.cell 3
  have la0 := y9.tail.tail.tail.tail.blk.cell 0
  have la1 := y9.tail.tail.tail.tail.blk.cell 1
  have la2 := y9.tail.tail.tail.tail.blk.cell 2
  have lb0 := y9.blk.cell 0
  have lb1 := y9.blk.cell 1
  have lb2 := y9.blk.cell 2
  have Y9 := Lib.hid y9
  clear y9
  go_wp2
  go_ret
  exact ⟨rfl, Y9.out.below⟩
end Go.Proofs.YtjjpdnpbhdcpbaaGreat
