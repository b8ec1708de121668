/-
  Checkpoints: evidence of two histories, in the reference. Conditions: lists of at most 2^40 leaves.
-/
import Derived.Test.YtjjpdnpbhdcpbaaGreatQCkX
import Derived.Test.YtjjpdnpbhdcpbaaGreatQPe
import Derived.Test.YtjjpdnpbhdcpbaaGreatECkR
import Derived.Test.YtjjpdnpbhdcpbaaGreatQPd
import Derived.Test.YtjjpdnpbhdcpbaaGreatQCkL
import Derived.Test.YtjjpdnpbhdcpbaaGreatQCkK
import Derived.Test.YtjjpdnpbhdcpbaaGreatQCkJ
import Derived.Test.YtjjpdnpbhdcpbaaGreatQCkI
import Derived.Test.YtjjpdnpbhdcpbaaGreatQCkH
import Derived.Test.YtjjpdnpbhdcpbaaGreatQCkF
import Derived.Test.YtjjpdnpbhdcpbaaGreatQCkE
import Derived.Test.YtjjpdnpbhdcpbaaGreatQPa
import Derived.Test.YtjjpdnpbhdcpbaaGreatEPa
import Derived.Test.YtjjpdnpbhdcpbaaGreatQBase
import Derived.Test.YtjjpdnpbhdcpbaaGreatQCkC
import Derived.Test.YtjjpdnpbhdcpbaaGreatEPb
import Derived.Test.YtjjpdnpbhdcpbaaGreatQPc
import Derived.Test.YtjjpdnpbhdcpbaaGreatESgP
import Derived.Test.YtjjpdnpbhdcpbaaGreatQCdB
import Derived.Test.YtjjpdnpbhdcpbaaGreatProg
import Derived.Test.YtjjpdnpbhdcpbaaGreatQCdA
import Derived.Laws.DeepNot64
import Derived.Test.YtjjpdnpbhdcpbaaGreatEMkB
import Derived.Test.YtjjpdnpbhdcpbaaGreatQMkB
import Derived.Deep.Strs
import Derived.Maps.OwnSet
import Derived.Test.YtjjpdnpbhdcpbaaGreatQPb
import Derived.Test.YtjjpdnpbhdcpbaaGreatQSgJ
import Derived.Test.YtjjpdnpbhdcpbaaGreatQSgI
import Derived.Test.YtjjpdnpbhdcpbaaGreatQSgH
import Derived.Test.YtjjpdnpbhdcpbaaGreatQSgG
import Derived.Test.YtjjpdnpbhdcpbaaGreatQSgF
import Derived.Test.YtjjpdnpbhdcpbaaGreatQShaB
import Derived.Test.YtjjpdnpbhdcpbaaGreatQShaA
import Derived.Laws.BitsAllLaws
import Derived.BigQuiet
import Derived.BigRegion
import Derived.Deep.RegionHeld3
import Derived.Test.YtjjpdnpbhdcpbaaGreatLayC
import Derived.Test.YtjjpdnpbhdcpbaaGreatLay
import Derived.Laws.CopyRow
import Derived.Laws.IdiomStrings
import Derived.Lib.Bytealg
import Derived.Laws.MakeOwn
import Derived.Test.YtjjpdnpbhdcpbaaGreatLayR
import Derived.Lib.OthersKept
import Derived.Test.YtjjpdnpbhdcpbaaGreatQSgD
import Derived.RangeFuncNested
import Derived.RangeFuncBound
import Derived.RangeFuncCalls
import Derived.RangeFuncLeaves
import Derived.Shelf.Abstract
import Derived.Shelf.RegionOpen
import Derived.OwnWalkIn
import Derived.TacticsInMore
import Derived.LoopNIn
import Derived.LoopIn
import Derived.Lib.FrozenHead2
import Derived.OrdersIn
import Derived.RangeFuncFrom
import Derived.Laws.ResultCell
namespace Go.Proofs.YtjjpdnpbhdcpbaaGreat
set_option linter.unusedVariables false
open Go.RowKit Go.Shelf
attribute [local go_sem] Oper.semAt_some
theorem cmpR_no {ra rb : Sg.Str} {n zb : Int} {L : List Sg.Str} (h : mRoot L = [] ∨ ¬ zb = (L.length : Int) ∨ ¬ mRoot L = rb ∨ n < 0 ∨ (L.length : Int) < n) : cmpR ra n rb zb L = (([], []), false) := by
 unfold cmpR
 repeat' split
 all_goals first | rfl | skip
 rcases h with h | h | h | h | h
 ·contradiction
 ·contradiction
 ·contradiction
 ·omega
 ·omega
theorem cmpR_yes {ra rb : Sg.Str} {n : Nat} {L : List Sg.Str} (h0 : ¬ mRoot L = []) (h1 : mRoot L = rb) (h2 : n ≤ L.length) : cmpR ra (n : Int) rb (L.length : Int) L = if mRoot (L.take n) = ra then (([], []), false) else ((mRoot (L.take n), (mCon L (n : Int)).1), true) := by
 unfold cmpR
 rw [if_pos rfl, if_pos (by omega), if_pos (by omega), if_neg h0, if_pos h1, Int.toNat_natCast]
set_option maxRecDepth 20000 in
set_option maxHeartbeats 4000000 in
theorem rcompare_no (x y : CkV) (Y : Option Addr) (L : List Sg.Str) (d : Nat) (w : World) (hP : Rd w Y (strs L)) (hl : L.length ≤ 1099511627776) (hd : L.length ≤ d) (hdm : d ≤ maxLen) (hno : mRoot L = [] ∨ ¬ y.z = (L.length : Int) ∨ ¬ mRoot L = y.r ∨ x.z < 0 ∨ (L.length : Int) < x.z) :
 Calls Tryz.prog 39 #[.agg (ckA x), .agg (ckA y), .slice Y L.length d] w (CmpP x y (cmpR x.r x.z y.r y.z L) w) := by
 obtain ⟨o1, z1, r1, i1, A1, C1, a1, B1, T1, b1, X1, L1, c1⟩ := x
 obtain ⟨o2, z2, r2, i2, A2, C2, a2, B2, T2, b2, X2, L2, c2⟩ := y
 unfold ckA
 dsimp only at hno ⊢
 obtain ⟨W0, hW0⟩ : ∃ W0, w.alloc (.cells #[.string ⟨o1.toArray⟩, .int .i64 z1, .string ⟨r1.toArray⟩, .int .i64 i1, .slice A1 C1.length a1, .slice B1 T1.length b1, .slice X1 L1.length c1] 32) = W0 := ⟨_, rfl⟩
 have hs0 : W0.heap.size = w.heap.size + 1 := by rw [← hW0]; simp
 obtain ⟨W1, hW1⟩ : ∃ W1, W0.alloc (.cells #[.string ⟨o2.toArray⟩, .int .i64 z2, .string ⟨r2.toArray⟩, .int .i64 i2, .slice A2 C2.length a2, .slice B2 T2.length b2, .slice X2 L2.length c2] 32) = W1 := ⟨_, rfl⟩
 have hs1 : W1.heap.size = w.heap.size + 1 + 1 := by rw [← hW1]; simp [hs0]
 obtain ⟨W, hW⟩ : ∃ W, W1.alloc (.cells #[.string ⟨#[]⟩, .int .i64 0, .string ⟨#[]⟩, .int .i64 0, .slice none 0 0, .slice none 0 0, .slice none 0 0, .string ⟨#[]⟩, .int .i64 0, .string ⟨#[]⟩, .int .i64 0, .slice none 0 0, .slice none 0 0, .slice none 0 0, .string ⟨#[]⟩, .slice none 0 0] 70) = W := ⟨_, rfl⟩
 have y0 : St w.heap.size w W [cellsR (w.heap.size + 1 + 1) 70 #[.string ⟨#[]⟩, .int .i64 0, .string ⟨#[]⟩, .int .i64 0, .slice none 0 0, .slice none 0 0, .slice none 0 0, .string ⟨#[]⟩, .int .i64 0, .string ⟨#[]⟩, .int .i64 0, .slice none 0 0, .slice none 0 0, .slice none 0 0, .string ⟨#[]⟩, .slice none 0 0], cellsR (w.heap.size + 1) 32 #[.string ⟨o2.toArray⟩, .int .i64 z2, .string ⟨r2.toArray⟩, .int .i64 i2, .slice A2 C2.length a2, .slice B2 T2.length b2, .slice X2 L2.length c2], cellsR w.heap.size 32 #[.string ⟨o1.toArray⟩, .int .i64 z1, .string ⟨r1.toArray⟩, .int .i64 i1, .slice A1 C1.length a1, .slice B1 T1.length b1, .slice X1 L1.length c1]] := by
  have := (((St.nil w).alloc 32 #[.string ⟨o1.toArray⟩, .int .i64 z1, .string ⟨r1.toArray⟩, .int .i64 i1, .slice A1 C1.length a1, .slice B1 T1.length b1, .slice X1 L1.length c1]).alloc 32 #[.string ⟨o2.toArray⟩, .int .i64 z2, .string ⟨r2.toArray⟩, .int .i64 i2, .slice A2 C2.length a2, .slice B2 T2.length b2, .slice X2 L2.length c2]).alloc 70 #[.string ⟨#[]⟩, .int .i64 0, .string ⟨#[]⟩, .int .i64 0, .slice none 0 0, .slice none 0 0, .slice none 0 0, .string ⟨#[]⟩, .int .i64 0, .string ⟨#[]⟩, .int .i64 0, .slice none 0 0, .slice none 0 0, .slice none 0 0, .string ⟨#[]⟩, .slice none 0 0]
  rw [hW0, hW1, hW, hs0, hs1] at this
  exact this
 obtain ⟨N, hN⟩ : ∃ N, L.length = N := ⟨_, rfl⟩
 have kv := fun W' (hb : Below w.heap.size w W') => rvalid_spec Y L d W' (hP.below hb) (by omega)
 have kR := fun W' (hb : Below w.heap.size w W') => root_rk Y L d W' (hP.below hb) hl hd hdm
 have kC := fun (k : Int) W' (hb : Below w.heap.size w W') => con_rk Y L d k W' (hP.below hb) hl hd hdm
 have kS := fun (k : Nat) W' (hb : Below w.heap.size w W') => root_rk Y (L.take k) d W' (rd_take (hP.below hb) k) (by rw [List.length_take]; omega) (by rw [List.length_take]; omega) hdm
 have hbad := fun h => cmpR_no (ra := r1) (rb := r2) (n := z1) (zb := z2) (L := L) h
 have hrn := mRoot_nil L
 have hyes := fun (n : Nat) => cmpR_yes (ra := r1) (rb := r2) (n := n) (L := L)
 have hmg := mCon_good L
 rw [hN] at kv kR kC hd hbad hrn hyes hmg hno ⊢
 generalize (decide (N ≤ 4096) && vld L) = v at kv hrn
 generalize mRoot L = R at kR hbad hrn hyes hmg hno
 clear hP
 rw [hbad hno]
 clear hbad hyes hmg
 cases v with
 | false =>
   clear hrn kR hno
   have hS : ∀ W' (R0 : Res), St w.heap.size w W' [R0, cellsR (w.heap.size + 1) 32 #[.string ⟨o2.toArray⟩, .int .i64 z2, .string ⟨r2.toArray⟩, .int .i64 i2, .slice A2 C2.length a2, .slice B2 T2.length b2, .slice X2 L2.length c2], cellsR w.heap.size 32 #[.string ⟨o1.toArray⟩, .int .i64 z1, .string ⟨r1.toArray⟩, .int .i64 i1, .slice A1 C1.length a1, .slice B1 T1.length b1, .slice X1 L1.length c1]] → (W'.cell? ⟨w.heap.size + 1, 1, none⟩ = some (.int .i64 z2) ∧ W'.cell? ⟨w.heap.size + 1, 2, none⟩ = some (.string ⟨r2.toArray⟩) ∧ W'.cell? ⟨w.heap.size, 1, none⟩ = some (.int .i64 z1)) := fun W' R0 hh => ⟨hh.tail.blk.cell 1, hh.tail.blk.cell 2, hh.tail.tail.blk.cell 1⟩
   go_enter Tryz.func39, Tryz.ntmps39
   go_wp2_with fail
   have yd := y0.drew
   have s0 := hS _ _ yd
   refine wp_region_noPanic ?_
   refine wp_region_held_drew (S := (fun W' => W'.cell? ⟨w.heap.size + 1, 1, none⟩ = some (.int .i64 z2) ∧ W'.cell? ⟨w.heap.size + 1, 2, none⟩ = some (.string ⟨r2.toArray⟩) ∧ W'.cell? ⟨w.heap.size, 1, none⟩ = some (.int .i64 z1))) (by kernel_rfl) ?_ (fun hH0 => ?_)
   ·(first
      | with_reducible exact s0
      | fail)
   refine tk 0 11 hH0 ?_
   refine rdy [1] ?_
   refine an 12 fun K hK => ?_
   go_simp; (first
    | (with_reducible refine (kv _ yd.below).mono ?_
       rintro e v0 ⟨rfl, rfl⟩)
    | fail); go_wp2_with fail
   refine hK.out _ _ ?_ (fun hH1 => ?_)
   ·(first
      | with_reducible exact s0
      | fail)
   clear hK K hH0
   try simp only [pu]
   refine tk 2 13 hH1 ?_
   refine tk 3 14 hH1 ?_
   refine tu 4 15 hH1 ?_
   refine tu 5 16 hH1 ?_
   refine tu 6 17 hH1 ?_
   refine tu 7 18 hH1 ?_
   refine tu 8 19 hH1 ?_
   refine tu 9 20 hH1 ?_
   refine tk 10 21 hH1 ?_
   refine tk 11 22 hH1 ?_
   refine tu 12 23 hH1 ?_
   refine tu 13 24 hH1 ?_
   refine tu 14 25 hH1 ?_
   refine tu 15 26 hH1 ?_
   refine tu 16 27 hH1 ?_
   refine tu 17 28 hH1 ?_
   refine tk 18 29 hH1 ?_
   refine tk 19 30 hH1 ?_
   refine tu 20 31 hH1 ?_
   refine tu 21 32 hH1 ?_
   refine tu 22 33 hH1 ?_
   refine tu 23 34 hH1 ?_
   refine tk 24 35 hH1 ?_
   refine tk 25 36 hH1 ?_
   refine tu 26 37 hH1 ?_
   refine tu 27 38 hH1 ?_
   refine tu 28 39 hH1 ?_
   refine tu 29 40 hH1 ?_
   refine tu 30 41 hH1 ?_
   refine tu 31 42 hH1 ?_
   refine tk 32 43 hH1 ?_
   refine dn ?_ _
   all_goals (refine NoPanic.normal ?_)
   have yr := yd
   clear hW0 hW1 hW hs0 hs1 y0 yd hS
   clear s0
   obtain ⟨w1, hw1⟩ : ∃ w1, W.drew = w1 := ⟨_, rfl⟩
   rw [hw1] at yr ⊢
   clear hw1
   clear kC kS
   have ec0 := yr.blk.cell 0
   have ec1 := yr.blk.cell 1
   have ec2 := yr.blk.cell 2
   have ec3 := yr.blk.cell 3
   have ec4 := yr.blk.cell 4
   have ec5 := yr.blk.cell 5
   have ec6 := yr.blk.cell 6
   have ec7 := yr.blk.cell 7
   have ec8 := yr.blk.cell 8
   have ec9 := yr.blk.cell 9
   have ec10 := yr.blk.cell 10
   have ec11 := yr.blk.cell 11
   have ec12 := yr.blk.cell 12
   have ec13 := yr.blk.cell 13
   have ec14 := yr.blk.cell 14
   have ec15 := yr.blk.cell 15
   have ef0 := yr.blk.frozen 0
   have ef1 := yr.blk.frozen 1
   have ef2 := yr.blk.frozen 2
   have ef3 := yr.blk.frozen 3
   have ef4 := yr.blk.frozen 4
   have ef5 := yr.blk.frozen 5
   have ef6 := yr.blk.frozen 6
   have ef7 := yr.blk.frozen 7
   have ef8 := yr.blk.frozen 8
   have ef9 := yr.blk.frozen 9
   have ef10 := yr.blk.frozen 10
   have ef11 := yr.blk.frozen 11
   have ef12 := yr.blk.frozen 12
   have ef13 := yr.blk.frozen 13
   have ef14 := yr.blk.frozen 14
   have ef15 := yr.blk.frozen 15
   have Y9 := ((((((((((((((((yr.set_ 0 (.string ⟨#[]⟩)).set_ 1 (.int .i64 0)).set_ 2 (.string ⟨#[]⟩)).set_ 3 (.int .i64 0)).set_ 4 (.slice none 0 0)).set_ 5 (.slice none 0 0)).set_ 6 (.slice none 0 0)).set_ 7 (.string ⟨#[]⟩)).set_ 8 (.int .i64 0)).set_ 9 (.string ⟨#[]⟩)).set_ 10 (.int .i64 0)).set_ 11 (.slice none 0 0)).set_ 12 (.slice none 0 0)).set_ 13 (.slice none 0 0)).set_ 14 (.string ⟨#[]⟩)).set_ 15 (.slice none 0 0))
   simp only [List.setIfInBounds_toArray, List.set_cons_zero, List.set_cons_succ] at Y9
   have YE := Lib.hid Y9
   clear Y9
   clear yr
   go_wp2
   refine bodyPost_ret (results_ct rfl _ _ _ _ _ _ _ rfl YE.out.blk Tryz.underlying70 rfl size_ev) rfl ?_
   exact cmp_bad _ _ YE.out.below
 | true =>
   have hR : ¬ R = [] := fun e => absurd (hrn.1 e) (by decide)
   clear hrn
   by_cases e1 : z2 = (N : Int)
   ·subst e1
    by_cases e5 : R = r2
    ·subst e5
     have e5b : (R != R) = false := by rw [bne, beq_self_eq_true]; rfl
     by_cases e2 : z1 < 0
     ·clear hR hno
      have hS : ∀ W' (R0 : Res), St w.heap.size w W' [R0, cellsR (w.heap.size + 1) 32 #[.string ⟨o2.toArray⟩, .int .i64 (N : Int), .string ⟨R.toArray⟩, .int .i64 i2, .slice A2 C2.length a2, .slice B2 T2.length b2, .slice X2 L2.length c2], cellsR w.heap.size 32 #[.string ⟨o1.toArray⟩, .int .i64 z1, .string ⟨r1.toArray⟩, .int .i64 i1, .slice A1 C1.length a1, .slice B1 T1.length b1, .slice X1 L1.length c1]] → (W'.cell? ⟨w.heap.size + 1, 1, none⟩ = some (.int .i64 (N : Int)) ∧ W'.cell? ⟨w.heap.size + 1, 2, none⟩ = some (.string ⟨R.toArray⟩) ∧ W'.cell? ⟨w.heap.size, 1, none⟩ = some (.int .i64 z1)) := fun W' R0 hh => ⟨hh.tail.blk.cell 1, hh.tail.blk.cell 2, hh.tail.tail.blk.cell 1⟩
      go_enter Tryz.func39, Tryz.ntmps39
      go_wp2_with fail
      have yd := y0.drew
      have s0 := hS _ _ yd
      refine wp_region_noPanic ?_
      refine wp_region_held_drew (S := (fun W' => W'.cell? ⟨w.heap.size + 1, 1, none⟩ = some (.int .i64 (N : Int)) ∧ W'.cell? ⟨w.heap.size + 1, 2, none⟩ = some (.string ⟨R.toArray⟩) ∧ W'.cell? ⟨w.heap.size, 1, none⟩ = some (.int .i64 z1))) (by kernel_rfl) ?_ (fun hH0 => ?_)
      ·(first
         | with_reducible exact s0
         | with_reducible exact s1
         | fail)
      refine tk 0 11 hH0 ?_
      refine rdy [1] ?_
      refine an 12 fun K hK => ?_
      go_simp; (first
       | (with_reducible refine (kv _ yd.below).mono ?_
          rintro e v0 ⟨rfl, rfl⟩)
       | (with_reducible refine (kR _ yd.below).mono ?_
          rintro e w1 ⟨rfl, bb1⟩
          have yr := yd.under bb1
          have s1 := hS _ _ yr)
       | fail); go_wp2_with fail
      refine hK.out _ _ ?_ (fun hH1 => ?_)
      ·(first
         | with_reducible exact s0
         | with_reducible exact s1
         | fail)
      clear hK K hH0
      try simp only [pu]
      refine tk 2 13 hH1 ?_
      refine tk 3 14 hH1 ?_
      refine tk 4 15 hH1 ?_
      refine tk 5 16 hH1 ?_
      refine tk 6 17 hH1 ?_
      refine tk 7 18 hH1 ?_
      refine tk 8 19 hH1 ?_
      refine tk 9 20 hH1 ?_
      refine tk 10 21 hH1 ?_
      refine tk 11 22 hH1 ?_
      refine tk 12 23 hH1 ?_
      refine tk 13 24 hH1 ?_
      refine tk 14 25 hH1 ?_
      refine tk 15 26 hH1 ?_
      refine rdy [16] ?_
      refine an 27 fun K hK => ?_
      go_simp; (first
       | (with_reducible refine (kv _ yd.below).mono ?_
          rintro e v0 ⟨rfl, rfl⟩)
       | (with_reducible refine (kR _ yd.below).mono ?_
          rintro e w1 ⟨rfl, bb1⟩
          have yr := yd.under bb1
          have s1 := hS _ _ yr)
       | fail); go_wp2_with fail
      refine hK.out _ _ ?_ (fun hH2 => ?_)
      ·(first
         | with_reducible exact s0
         | with_reducible exact s1
         | fail)
      clear hK K hH1
      try simp only [pu]
      refine tk 17 28 hH2 ?_
      refine tk 18 29 hH2 ?_
      refine tk 19 30 hH2 ?_
      refine tk 20 31 hH2 ?_
      refine tk 21 32 hH2 ?_
      refine tk 22 33 hH2 ?_
      refine tk 23 34 hH2 ?_
      refine tk 24 35 hH2 ?_
      refine tk 25 36 hH2 ?_
      refine tu 26 37 hH2 ?_
      refine tu 27 38 hH2 ?_
      refine tu 28 39 hH2 ?_
      refine tu 29 40 hH2 ?_
      refine tu 30 41 hH2 ?_
      refine tu 31 42 hH2 ?_
      refine tk 32 43 hH2 ?_
      refine dn ?_ _
      all_goals (refine NoPanic.normal ?_)
      clear hW0 hW1 hW hs0 hs1 y0 yd hS
      clear s0 s1 kR kC kS
      have ec0 := yr.blk.cell 0
      have ec1 := yr.blk.cell 1
      have ec2 := yr.blk.cell 2
      have ec3 := yr.blk.cell 3
      have ec4 := yr.blk.cell 4
      have ec5 := yr.blk.cell 5
      have ec6 := yr.blk.cell 6
      have ec7 := yr.blk.cell 7
      have ec8 := yr.blk.cell 8
      have ec9 := yr.blk.cell 9
      have ec10 := yr.blk.cell 10
      have ec11 := yr.blk.cell 11
      have ec12 := yr.blk.cell 12
      have ec13 := yr.blk.cell 13
      have ec14 := yr.blk.cell 14
      have ec15 := yr.blk.cell 15
      have ef0 := yr.blk.frozen 0
      have ef1 := yr.blk.frozen 1
      have ef2 := yr.blk.frozen 2
      have ef3 := yr.blk.frozen 3
      have ef4 := yr.blk.frozen 4
      have ef5 := yr.blk.frozen 5
      have ef6 := yr.blk.frozen 6
      have ef7 := yr.blk.frozen 7
      have ef8 := yr.blk.frozen 8
      have ef9 := yr.blk.frozen 9
      have ef10 := yr.blk.frozen 10
      have ef11 := yr.blk.frozen 11
      have ef12 := yr.blk.frozen 12
      have ef13 := yr.blk.frozen 13
      have ef14 := yr.blk.frozen 14
      have ef15 := yr.blk.frozen 15
      have Y9 := ((((((((((((((((yr.set_ 0 (.string ⟨#[]⟩)).set_ 1 (.int .i64 0)).set_ 2 (.string ⟨#[]⟩)).set_ 3 (.int .i64 0)).set_ 4 (.slice none 0 0)).set_ 5 (.slice none 0 0)).set_ 6 (.slice none 0 0)).set_ 7 (.string ⟨#[]⟩)).set_ 8 (.int .i64 0)).set_ 9 (.string ⟨#[]⟩)).set_ 10 (.int .i64 0)).set_ 11 (.slice none 0 0)).set_ 12 (.slice none 0 0)).set_ 13 (.slice none 0 0)).set_ 14 (.string ⟨#[]⟩)).set_ 15 (.slice none 0 0))
      simp only [List.setIfInBounds_toArray, List.set_cons_zero, List.set_cons_succ] at Y9
      have YE := Lib.hid Y9
      clear Y9
      clear yr
      go_wp2
      refine bodyPost_ret (results_ct rfl _ _ _ _ _ _ _ rfl YE.out.blk Tryz.underlying70 rfl size_ev) rfl ?_
      exact cmp_bad _ _ YE.out.below
     ·obtain ⟨n, rfl⟩ : ∃ n : Nat, z1 = (n : Int) := ⟨z1.toNat, by omega⟩
      have e2' : ¬ ((n : Int) < 0) := by omega
      by_cases e3 : (N : Int) < (n : Int)
      ·clear hR hno
       have hS : ∀ W' (R0 : Res), St w.heap.size w W' [R0, cellsR (w.heap.size + 1) 32 #[.string ⟨o2.toArray⟩, .int .i64 (N : Int), .string ⟨R.toArray⟩, .int .i64 i2, .slice A2 C2.length a2, .slice B2 T2.length b2, .slice X2 L2.length c2], cellsR w.heap.size 32 #[.string ⟨o1.toArray⟩, .int .i64 (n : Int), .string ⟨r1.toArray⟩, .int .i64 i1, .slice A1 C1.length a1, .slice B1 T1.length b1, .slice X1 L1.length c1]] → (W'.cell? ⟨w.heap.size + 1, 1, none⟩ = some (.int .i64 (N : Int)) ∧ W'.cell? ⟨w.heap.size + 1, 2, none⟩ = some (.string ⟨R.toArray⟩) ∧ W'.cell? ⟨w.heap.size, 1, none⟩ = some (.int .i64 (n : Int))) := fun W' R0 hh => ⟨hh.tail.blk.cell 1, hh.tail.blk.cell 2, hh.tail.tail.blk.cell 1⟩
       go_enter Tryz.func39, Tryz.ntmps39
       go_wp2_with fail
       have yd := y0.drew
       have s0 := hS _ _ yd
       refine wp_region_noPanic ?_
       refine wp_region_held_drew (S := (fun W' => W'.cell? ⟨w.heap.size + 1, 1, none⟩ = some (.int .i64 (N : Int)) ∧ W'.cell? ⟨w.heap.size + 1, 2, none⟩ = some (.string ⟨R.toArray⟩) ∧ W'.cell? ⟨w.heap.size, 1, none⟩ = some (.int .i64 (n : Int)))) (by kernel_rfl) ?_ (fun hH0 => ?_)
       ·(first
          | with_reducible exact s0
          | with_reducible exact s1
          | fail)
       refine tk 0 11 hH0 ?_
       refine rdy [1] ?_
       refine an 12 fun K hK => ?_
       go_simp; (first
        | (with_reducible refine (kv _ yd.below).mono ?_
           rintro e v0 ⟨rfl, rfl⟩)
        | (with_reducible refine (kR _ yd.below).mono ?_
           rintro e w1 ⟨rfl, bb1⟩
           have yr := yd.under bb1
           have s1 := hS _ _ yr)
        | fail); go_wp2_with fail
       refine hK.out _ _ ?_ (fun hH1 => ?_)
       ·(first
          | with_reducible exact s0
          | with_reducible exact s1
          | fail)
       clear hK K hH0
       try simp only [pu]
       refine tk 2 13 hH1 ?_
       refine tk 3 14 hH1 ?_
       refine tk 4 15 hH1 ?_
       refine tk 5 16 hH1 ?_
       refine tk 6 17 hH1 ?_
       refine tk 7 18 hH1 ?_
       refine tk 8 19 hH1 ?_
       refine tk 9 20 hH1 ?_
       refine tk 10 21 hH1 ?_
       refine tk 11 22 hH1 ?_
       refine tk 12 23 hH1 ?_
       refine tk 13 24 hH1 ?_
       refine tk 14 25 hH1 ?_
       refine tk 15 26 hH1 ?_
       refine rdy [16] ?_
       refine an 27 fun K hK => ?_
       go_simp; (first
        | (with_reducible refine (kv _ yd.below).mono ?_
           rintro e v0 ⟨rfl, rfl⟩)
        | (with_reducible refine (kR _ yd.below).mono ?_
           rintro e w1 ⟨rfl, bb1⟩
           have yr := yd.under bb1
           have s1 := hS _ _ yr)
        | fail); go_wp2_with fail
       refine hK.out _ _ ?_ (fun hH2 => ?_)
       ·(first
          | with_reducible exact s0
          | with_reducible exact s1
          | fail)
       clear hK K hH1
       try simp only [pu]
       refine tk 17 28 hH2 ?_
       refine tk 18 29 hH2 ?_
       refine tk 19 30 hH2 ?_
       refine tk 20 31 hH2 ?_
       refine tk 21 32 hH2 ?_
       refine tk 22 33 hH2 ?_
       refine tk 23 34 hH2 ?_
       refine tk 24 35 hH2 ?_
       refine tk 25 36 hH2 ?_
       refine tk 26 37 hH2 ?_
       refine tk 27 38 hH2 ?_
       refine tk 28 39 hH2 ?_
       refine tk 29 40 hH2 ?_
       refine tk 30 41 hH2 ?_
       refine tk 31 42 hH2 ?_
       refine tk 32 43 hH2 ?_
       refine dn ?_ _
       all_goals (refine NoPanic.normal ?_)
       clear hW0 hW1 hW hs0 hs1 y0 yd hS
       clear s0 s1 kR kC kS
       have ec0 := yr.blk.cell 0
       have ec1 := yr.blk.cell 1
       have ec2 := yr.blk.cell 2
       have ec3 := yr.blk.cell 3
       have ec4 := yr.blk.cell 4
       have ec5 := yr.blk.cell 5
       have ec6 := yr.blk.cell 6
       have ec7 := yr.blk.cell 7
       have ec8 := yr.blk.cell 8
       have ec9 := yr.blk.cell 9
       have ec10 := yr.blk.cell 10
       have ec11 := yr.blk.cell 11
       have ec12 := yr.blk.cell 12
       have ec13 := yr.blk.cell 13
       have ec14 := yr.blk.cell 14
       have ec15 := yr.blk.cell 15
       have ef0 := yr.blk.frozen 0
       have ef1 := yr.blk.frozen 1
       have ef2 := yr.blk.frozen 2
       have ef3 := yr.blk.frozen 3
       have ef4 := yr.blk.frozen 4
       have ef5 := yr.blk.frozen 5
       have ef6 := yr.blk.frozen 6
       have ef7 := yr.blk.frozen 7
       have ef8 := yr.blk.frozen 8
       have ef9 := yr.blk.frozen 9
       have ef10 := yr.blk.frozen 10
       have ef11 := yr.blk.frozen 11
       have ef12 := yr.blk.frozen 12
       have ef13 := yr.blk.frozen 13
       have ef14 := yr.blk.frozen 14
       have ef15 := yr.blk.frozen 15
       have Y9 := ((((((((((((((((yr.set_ 0 (.string ⟨#[]⟩)).set_ 1 (.int .i64 0)).set_ 2 (.string ⟨#[]⟩)).set_ 3 (.int .i64 0)).set_ 4 (.slice none 0 0)).set_ 5 (.slice none 0 0)).set_ 6 (.slice none 0 0)).set_ 7 (.string ⟨#[]⟩)).set_ 8 (.int .i64 0)).set_ 9 (.string ⟨#[]⟩)).set_ 10 (.int .i64 0)).set_ 11 (.slice none 0 0)).set_ 12 (.slice none 0 0)).set_ 13 (.slice none 0 0)).set_ 14 (.string ⟨#[]⟩)).set_ 15 (.slice none 0 0))
       simp only [List.setIfInBounds_toArray, List.set_cons_zero, List.set_cons_succ] at Y9
       have YE := Lib.hid Y9
       clear Y9
       clear yr
       go_wp2
       refine bodyPost_ret (results_ct rfl _ _ _ _ _ _ _ rfl YE.out.blk Tryz.underlying70 rfl size_ev) rfl ?_
       exact cmp_bad _ _ YE.out.below
      ·exfalso
       rcases hno with h | h | h | h | h
       ·exact hR h
       ·exact h rfl
       ·exact h rfl
       ·exact e2 h
       ·exact e3 h
    ·have e5a : (r2 == R) = false := beq_eq_false_iff_ne.2 (fun e => e5 e.symm)
     have e5b : (r2 != R) = true := by rw [bne, e5a]; rfl
     clear hR hno
     have hS : ∀ W' (R0 : Res), St w.heap.size w W' [R0, cellsR (w.heap.size + 1) 32 #[.string ⟨o2.toArray⟩, .int .i64 (N : Int), .string ⟨r2.toArray⟩, .int .i64 i2, .slice A2 C2.length a2, .slice B2 T2.length b2, .slice X2 L2.length c2], cellsR w.heap.size 32 #[.string ⟨o1.toArray⟩, .int .i64 z1, .string ⟨r1.toArray⟩, .int .i64 i1, .slice A1 C1.length a1, .slice B1 T1.length b1, .slice X1 L1.length c1]] → (W'.cell? ⟨w.heap.size + 1, 1, none⟩ = some (.int .i64 (N : Int)) ∧ W'.cell? ⟨w.heap.size + 1, 2, none⟩ = some (.string ⟨r2.toArray⟩) ∧ W'.cell? ⟨w.heap.size, 1, none⟩ = some (.int .i64 z1)) := fun W' R0 hh => ⟨hh.tail.blk.cell 1, hh.tail.blk.cell 2, hh.tail.tail.blk.cell 1⟩
     go_enter Tryz.func39, Tryz.ntmps39
     go_wp2_with fail
     have yd := y0.drew
     have s0 := hS _ _ yd
     refine wp_region_noPanic ?_
     refine wp_region_held_drew (S := (fun W' => W'.cell? ⟨w.heap.size + 1, 1, none⟩ = some (.int .i64 (N : Int)) ∧ W'.cell? ⟨w.heap.size + 1, 2, none⟩ = some (.string ⟨r2.toArray⟩) ∧ W'.cell? ⟨w.heap.size, 1, none⟩ = some (.int .i64 z1))) (by kernel_rfl) ?_ (fun hH0 => ?_)
     ·(first
        | with_reducible exact s0
        | with_reducible exact s1
        | fail)
     refine tk 0 11 hH0 ?_
     refine rdy [1] ?_
     refine an 12 fun K hK => ?_
     go_simp; (first
      | (with_reducible refine (kv _ yd.below).mono ?_
         rintro e v0 ⟨rfl, rfl⟩)
      | (with_reducible refine (kR _ yd.below).mono ?_
         rintro e w1 ⟨rfl, bb1⟩
         have yr := yd.under bb1
         have s1 := hS _ _ yr)
      | fail); go_wp2_with fail
     refine hK.out _ _ ?_ (fun hH1 => ?_)
     ·(first
        | with_reducible exact s0
        | with_reducible exact s1
        | fail)
     clear hK K hH0
     try simp only [pu]
     refine tk 2 13 hH1 ?_
     refine tk 3 14 hH1 ?_
     refine tk 4 15 hH1 ?_
     refine tk 5 16 hH1 ?_
     refine tk 6 17 hH1 ?_
     refine tk 7 18 hH1 ?_
     refine tk 8 19 hH1 ?_
     refine tk 9 20 hH1 ?_
     refine tk 10 21 hH1 ?_
     refine tk 11 22 hH1 ?_
     refine tk 12 23 hH1 ?_
     refine tk 13 24 hH1 ?_
     refine tk 14 25 hH1 ?_
     refine tk 15 26 hH1 ?_
     refine rdy [16] ?_
     refine an 27 fun K hK => ?_
     go_simp; (first
      | (with_reducible refine (kv _ yd.below).mono ?_
         rintro e v0 ⟨rfl, rfl⟩)
      | (with_reducible refine (kR _ yd.below).mono ?_
         rintro e w1 ⟨rfl, bb1⟩
         have yr := yd.under bb1
         have s1 := hS _ _ yr)
      | fail); go_wp2_with fail
     refine hK.out _ _ ?_ (fun hH2 => ?_)
     ·(first
        | with_reducible exact s0
        | with_reducible exact s1
        | fail)
     clear hK K hH1
     try simp only [pu]
     refine tk 17 28 hH2 ?_
     refine tk 18 29 hH2 ?_
     refine tk 19 30 hH2 ?_
     refine tu 20 31 hH2 ?_
     refine tu 21 32 hH2 ?_
     refine tu 22 33 hH2 ?_
     refine tu 23 34 hH2 ?_
     refine tk 24 35 hH2 ?_
     refine tk 25 36 hH2 ?_
     refine tu 26 37 hH2 ?_
     refine tu 27 38 hH2 ?_
     refine tu 28 39 hH2 ?_
     refine tu 29 40 hH2 ?_
     refine tu 30 41 hH2 ?_
     refine tu 31 42 hH2 ?_
     refine tk 32 43 hH2 ?_
     refine dn ?_ _
     all_goals (refine NoPanic.normal ?_)
     clear hW0 hW1 hW hs0 hs1 y0 yd hS
     clear s0 s1 kR kC kS
     have ec0 := yr.blk.cell 0
     have ec1 := yr.blk.cell 1
     have ec2 := yr.blk.cell 2
     have ec3 := yr.blk.cell 3
     have ec4 := yr.blk.cell 4
     have ec5 := yr.blk.cell 5
     have ec6 := yr.blk.cell 6
     have ec7 := yr.blk.cell 7
     have ec8 := yr.blk.cell 8
     have ec9 := yr.blk.cell 9
     have ec10 := yr.blk.cell 10
     have ec11 := yr.blk.cell 11
     have ec12 := yr.blk.cell 12
     have ec13 := yr.blk.cell 13
     have ec14 := yr.blk.cell 14
     have ec15 := yr.blk.cell 15
     have ef0 := yr.blk.frozen 0
     have ef1 := yr.blk.frozen 1
     have ef2 := yr.blk.frozen 2
     have ef3 := yr.blk.frozen 3
     have ef4 := yr.blk.frozen 4
     have ef5 := yr.blk.frozen 5
     have ef6 := yr.blk.frozen 6
     have ef7 := yr.blk.frozen 7
     have ef8 := yr.blk.frozen 8
     have ef9 := yr.blk.frozen 9
     have ef10 := yr.blk.frozen 10
     have ef11 := yr.blk.frozen 11
     have ef12 := yr.blk.frozen 12
     have ef13 := yr.blk.frozen 13
     have ef14 := yr.blk.frozen 14
     have ef15 := yr.blk.frozen 15
     have Y9 := ((((((((((((((((yr.set_ 0 (.string ⟨#[]⟩)).set_ 1 (.int .i64 0)).set_ 2 (.string ⟨#[]⟩)).set_ 3 (.int .i64 0)).set_ 4 (.slice none 0 0)).set_ 5 (.slice none 0 0)).set_ 6 (.slice none 0 0)).set_ 7 (.string ⟨#[]⟩)).set_ 8 (.int .i64 0)).set_ 9 (.string ⟨#[]⟩)).set_ 10 (.int .i64 0)).set_ 11 (.slice none 0 0)).set_ 12 (.slice none 0 0)).set_ 13 (.slice none 0 0)).set_ 14 (.string ⟨#[]⟩)).set_ 15 (.slice none 0 0))
     simp only [List.setIfInBounds_toArray, List.set_cons_zero, List.set_cons_succ] at Y9
     have YE := Lib.hid Y9
     clear Y9
     clear yr
     go_wp2
     refine bodyPost_ret (results_ct rfl _ _ _ _ _ _ _ rfl YE.out.blk Tryz.underlying70 rfl size_ev) rfl ?_
     exact cmp_bad _ _ YE.out.below
   ·have e1a : (z2 == (N : Int)) = false := beq_eq_false_iff_ne.2 e1
    have e1b : (z2 != (N : Int)) = true := by rw [bne, e1a]; rfl
    clear hR hno kR
    have hS : ∀ W' (R0 : Res), St w.heap.size w W' [R0, cellsR (w.heap.size + 1) 32 #[.string ⟨o2.toArray⟩, .int .i64 z2, .string ⟨r2.toArray⟩, .int .i64 i2, .slice A2 C2.length a2, .slice B2 T2.length b2, .slice X2 L2.length c2], cellsR w.heap.size 32 #[.string ⟨o1.toArray⟩, .int .i64 z1, .string ⟨r1.toArray⟩, .int .i64 i1, .slice A1 C1.length a1, .slice B1 T1.length b1, .slice X1 L1.length c1]] → (W'.cell? ⟨w.heap.size + 1, 1, none⟩ = some (.int .i64 z2) ∧ W'.cell? ⟨w.heap.size + 1, 2, none⟩ = some (.string ⟨r2.toArray⟩) ∧ W'.cell? ⟨w.heap.size, 1, none⟩ = some (.int .i64 z1)) := fun W' R0 hh => ⟨hh.tail.blk.cell 1, hh.tail.blk.cell 2, hh.tail.tail.blk.cell 1⟩
    go_enter Tryz.func39, Tryz.ntmps39
    go_wp2_with fail
    have yd := y0.drew
    have s0 := hS _ _ yd
    refine wp_region_noPanic ?_
    refine wp_region_held_drew (S := (fun W' => W'.cell? ⟨w.heap.size + 1, 1, none⟩ = some (.int .i64 z2) ∧ W'.cell? ⟨w.heap.size + 1, 2, none⟩ = some (.string ⟨r2.toArray⟩) ∧ W'.cell? ⟨w.heap.size, 1, none⟩ = some (.int .i64 z1))) (by kernel_rfl) ?_ (fun hH0 => ?_)
    ·(first
       | with_reducible exact s0
       | fail)
    refine tk 0 11 hH0 ?_
    refine rdy [1] ?_
    refine an 12 fun K hK => ?_
    go_simp; (first
     | (with_reducible refine (kv _ yd.below).mono ?_
        rintro e v0 ⟨rfl, rfl⟩)
     | fail); go_wp2_with fail
    refine hK.out _ _ ?_ (fun hH1 => ?_)
    ·(first
       | with_reducible exact s0
       | fail)
    clear hK K hH0
    try simp only [pu]
    refine tk 2 13 hH1 ?_
    refine tk 3 14 hH1 ?_
    refine tk 4 15 hH1 ?_
    refine tk 5 16 hH1 ?_
    refine tk 6 17 hH1 ?_
    refine tk 7 18 hH1 ?_
    refine tk 8 19 hH1 ?_
    refine tk 9 20 hH1 ?_
    refine tk 10 21 hH1 ?_
    refine tk 11 22 hH1 ?_
    refine tu 12 23 hH1 ?_
    refine tu 13 24 hH1 ?_
    refine tu 14 25 hH1 ?_
    refine tu 15 26 hH1 ?_
    refine tu 16 27 hH1 ?_
    refine tu 17 28 hH1 ?_
    refine tk 18 29 hH1 ?_
    refine tk 19 30 hH1 ?_
    refine tu 20 31 hH1 ?_
    refine tu 21 32 hH1 ?_
    refine tu 22 33 hH1 ?_
    refine tu 23 34 hH1 ?_
    refine tk 24 35 hH1 ?_
    refine tk 25 36 hH1 ?_
    refine tu 26 37 hH1 ?_
    refine tu 27 38 hH1 ?_
    refine tu 28 39 hH1 ?_
    refine tu 29 40 hH1 ?_
    refine tu 30 41 hH1 ?_
    refine tu 31 42 hH1 ?_
    refine tk 32 43 hH1 ?_
    refine dn ?_ _
    all_goals (refine NoPanic.normal ?_)
    have yr := yd
    clear hW0 hW1 hW hs0 hs1 y0 yd hS
    clear s0
    obtain ⟨w1, hw1⟩ : ∃ w1, W.drew = w1 := ⟨_, rfl⟩
    rw [hw1] at yr ⊢
    clear hw1
    clear kC kS
    have ec0 := yr.blk.cell 0
    have ec1 := yr.blk.cell 1
    have ec2 := yr.blk.cell 2
    have ec3 := yr.blk.cell 3
    have ec4 := yr.blk.cell 4
    have ec5 := yr.blk.cell 5
    have ec6 := yr.blk.cell 6
    have ec7 := yr.blk.cell 7
    have ec8 := yr.blk.cell 8
    have ec9 := yr.blk.cell 9
    have ec10 := yr.blk.cell 10
    have ec11 := yr.blk.cell 11
    have ec12 := yr.blk.cell 12
    have ec13 := yr.blk.cell 13
    have ec14 := yr.blk.cell 14
    have ec15 := yr.blk.cell 15
    have ef0 := yr.blk.frozen 0
    have ef1 := yr.blk.frozen 1
    have ef2 := yr.blk.frozen 2
    have ef3 := yr.blk.frozen 3
    have ef4 := yr.blk.frozen 4
    have ef5 := yr.blk.frozen 5
    have ef6 := yr.blk.frozen 6
    have ef7 := yr.blk.frozen 7
    have ef8 := yr.blk.frozen 8
    have ef9 := yr.blk.frozen 9
    have ef10 := yr.blk.frozen 10
    have ef11 := yr.blk.frozen 11
    have ef12 := yr.blk.frozen 12
    have ef13 := yr.blk.frozen 13
    have ef14 := yr.blk.frozen 14
    have ef15 := yr.blk.frozen 15
    have Y9 := ((((((((((((((((yr.set_ 0 (.string ⟨#[]⟩)).set_ 1 (.int .i64 0)).set_ 2 (.string ⟨#[]⟩)).set_ 3 (.int .i64 0)).set_ 4 (.slice none 0 0)).set_ 5 (.slice none 0 0)).set_ 6 (.slice none 0 0)).set_ 7 (.string ⟨#[]⟩)).set_ 8 (.int .i64 0)).set_ 9 (.string ⟨#[]⟩)).set_ 10 (.int .i64 0)).set_ 11 (.slice none 0 0)).set_ 12 (.slice none 0 0)).set_ 13 (.slice none 0 0)).set_ 14 (.string ⟨#[]⟩)).set_ 15 (.slice none 0 0))
    simp only [List.setIfInBounds_toArray, List.set_cons_zero, List.set_cons_succ] at Y9
    have YE := Lib.hid Y9
    clear Y9
    clear yr
    go_wp2
    refine bodyPost_ret (results_ct rfl _ _ _ _ _ _ _ rfl YE.out.blk Tryz.underlying70 rfl size_ev) rfl ?_
    exact cmp_bad _ _ YE.out.below
set_option maxRecDepth 20000 in
set_option maxHeartbeats 4000000 in
theorem rcompare_spec (x y : CkV) (Y : Option Addr) (L : List Sg.Str) (d : Nat) (w : World) (hP : Rd w Y (strs L)) (hl : L.length ≤ 1099511627776) (hd : L.length ≤ d) (hdm : d ≤ maxLen) :
 Calls Tryz.prog 39 #[.agg (ckA x), .agg (ckA y), .slice Y L.length d] w (CmpP x y (cmpR x.r x.z y.r y.z L) w) := by
 by_cases hno : mRoot L = [] ∨ ¬ y.z = (L.length : Int) ∨ ¬ mRoot L = y.r ∨ x.z < 0 ∨ (L.length : Int) < x.z
 ·exact rcompare_no x y Y L d w hP hl hd hdm hno
 obtain ⟨o1, z1, r1, i1, A1, C1, a1, B1, T1, b1, X1, L1, c1⟩ := x
 obtain ⟨o2, z2, r2, i2, A2, C2, a2, B2, T2, b2, X2, L2, c2⟩ := y
 unfold ckA
 dsimp only at hno ⊢
 obtain ⟨W0, hW0⟩ : ∃ W0, w.alloc (.cells #[.string ⟨o1.toArray⟩, .int .i64 z1, .string ⟨r1.toArray⟩, .int .i64 i1, .slice A1 C1.length a1, .slice B1 T1.length b1, .slice X1 L1.length c1] 32) = W0 := ⟨_, rfl⟩
 have hs0 : W0.heap.size = w.heap.size + 1 := by rw [← hW0]; simp
 obtain ⟨W1, hW1⟩ : ∃ W1, W0.alloc (.cells #[.string ⟨o2.toArray⟩, .int .i64 z2, .string ⟨r2.toArray⟩, .int .i64 i2, .slice A2 C2.length a2, .slice B2 T2.length b2, .slice X2 L2.length c2] 32) = W1 := ⟨_, rfl⟩
 have hs1 : W1.heap.size = w.heap.size + 1 + 1 := by rw [← hW1]; simp [hs0]
 obtain ⟨W, hW⟩ : ∃ W, W1.alloc (.cells #[.string ⟨#[]⟩, .int .i64 0, .string ⟨#[]⟩, .int .i64 0, .slice none 0 0, .slice none 0 0, .slice none 0 0, .string ⟨#[]⟩, .int .i64 0, .string ⟨#[]⟩, .int .i64 0, .slice none 0 0, .slice none 0 0, .slice none 0 0, .string ⟨#[]⟩, .slice none 0 0] 70) = W := ⟨_, rfl⟩
 have y0 : St w.heap.size w W [cellsR (w.heap.size + 1 + 1) 70 #[.string ⟨#[]⟩, .int .i64 0, .string ⟨#[]⟩, .int .i64 0, .slice none 0 0, .slice none 0 0, .slice none 0 0, .string ⟨#[]⟩, .int .i64 0, .string ⟨#[]⟩, .int .i64 0, .slice none 0 0, .slice none 0 0, .slice none 0 0, .string ⟨#[]⟩, .slice none 0 0], cellsR (w.heap.size + 1) 32 #[.string ⟨o2.toArray⟩, .int .i64 z2, .string ⟨r2.toArray⟩, .int .i64 i2, .slice A2 C2.length a2, .slice B2 T2.length b2, .slice X2 L2.length c2], cellsR w.heap.size 32 #[.string ⟨o1.toArray⟩, .int .i64 z1, .string ⟨r1.toArray⟩, .int .i64 i1, .slice A1 C1.length a1, .slice B1 T1.length b1, .slice X1 L1.length c1]] := by
  have := (((St.nil w).alloc 32 #[.string ⟨o1.toArray⟩, .int .i64 z1, .string ⟨r1.toArray⟩, .int .i64 i1, .slice A1 C1.length a1, .slice B1 T1.length b1, .slice X1 L1.length c1]).alloc 32 #[.string ⟨o2.toArray⟩, .int .i64 z2, .string ⟨r2.toArray⟩, .int .i64 i2, .slice A2 C2.length a2, .slice B2 T2.length b2, .slice X2 L2.length c2]).alloc 70 #[.string ⟨#[]⟩, .int .i64 0, .string ⟨#[]⟩, .int .i64 0, .slice none 0 0, .slice none 0 0, .slice none 0 0, .string ⟨#[]⟩, .int .i64 0, .string ⟨#[]⟩, .int .i64 0, .slice none 0 0, .slice none 0 0, .slice none 0 0, .string ⟨#[]⟩, .slice none 0 0]
  rw [hW0, hW1, hW, hs0, hs1] at this
  exact this
 obtain ⟨N, hN⟩ : ∃ N, L.length = N := ⟨_, rfl⟩
 have kv := fun W' (hb : Below w.heap.size w W') => rvalid_spec Y L d W' (hP.below hb) (by omega)
 have kR := fun W' (hb : Below w.heap.size w W') => root_rk Y L d W' (hP.below hb) hl hd hdm
 have kC := fun (k : Int) W' (hb : Below w.heap.size w W') => con_rk Y L d k W' (hP.below hb) hl hd hdm
 have kS := fun (k : Nat) W' (hb : Below w.heap.size w W') => root_rk Y (L.take k) d W' (rd_take (hP.below hb) k) (by rw [List.length_take]; omega) (by rw [List.length_take]; omega) hdm
 have hbad := fun h => cmpR_no (ra := r1) (rb := r2) (n := z1) (zb := z2) (L := L) h
 have hrn := mRoot_nil L
 have hyes := fun (n : Nat) => cmpR_yes (ra := r1) (rb := r2) (n := n) (L := L)
 have hmg := mCon_good L
 rw [hN] at kv kR kC hd hbad hrn hyes hmg hno ⊢
 generalize (decide (N ≤ 4096) && vld L) = v at kv hrn
 generalize mRoot L = R at kR hbad hrn hyes hmg hno
 clear hP
 have hR : ¬ R = [] := fun e => hno (.inl e)
 obtain rfl : z2 = (N : Int) := Classical.byContradiction fun e => hno (.inr (.inl e))
 obtain rfl : R = r2 := Classical.byContradiction fun e => hno (.inr (.inr (.inl e)))
 have e2 : ¬ z1 < 0 := fun e => hno (.inr (.inr (.inr (.inl e))))
 have e3 : ¬ (N : Int) < z1 := fun e => hno (.inr (.inr (.inr (.inr e))))
 obtain rfl : v = true := by
  cases v with
  | true => rfl
  | false => exact absurd (hrn.2 rfl) hR
 have e5b : (R != R) = false := by rw [bne, beq_self_eq_true]; rfl
 obtain ⟨n, rfl⟩ : ∃ n : Nat, z1 = (n : Int) := ⟨z1.toNat, by omega⟩
 have e2' : ¬ ((n : Int) < 0) := by omega
 have hnN : n ≤ N := by omega
 have hc := hyes n hR rfl hnN
 have hm2 := hmg (n : Int) hR (by omega) (by omega)
 rw [hc]
 have hlt : (L.take n).length = n := by rw [List.length_take, hN]; omega
 have kS := kS n
 have kC := kC (n : Int)
 rw [hlt] at kS
 have hnd : (n : Int) ≤ (d : Int) := by omega
 have hnN1 : (n : Int) ≤ (N : Int) := by omega
 generalize mRoot (L.take n) = R1 at kS ⊢
 generalize mCon L (n : Int) = G at kC hm2 ⊢
 obtain ⟨G, ge⟩ := G
 dsimp only at hm2 ⊢
 subst hm2
 have HD := Lib.hid (And.intro hd hdm)
 clear hbad hrn hyes hmg hR hlt hc e2 hd hl hdm hN hnN hno
 by_cases e6 : R1 = r1
 ·rw [if_pos e6]
  have e6a : (R1 == r1) = true := beq_iff_eq.2 e6
  clear e6
  have hS : ∀ W' (R0 : Res), St w.heap.size w W' [R0, cellsR (w.heap.size + 1) 32 #[.string ⟨o2.toArray⟩, .int .i64 (N : Int), .string ⟨R.toArray⟩, .int .i64 i2, .slice A2 C2.length a2, .slice B2 T2.length b2, .slice X2 L2.length c2], cellsR w.heap.size 32 #[.string ⟨o1.toArray⟩, .int .i64 (n : Int), .string ⟨r1.toArray⟩, .int .i64 i1, .slice A1 C1.length a1, .slice B1 T1.length b1, .slice X1 L1.length c1]] → (W'.cell? ⟨w.heap.size + 1, 1, none⟩ = some (.int .i64 (N : Int)) ∧ W'.cell? ⟨w.heap.size + 1, 2, none⟩ = some (.string ⟨R.toArray⟩) ∧ W'.cell? ⟨w.heap.size, 1, none⟩ = some (.int .i64 (n : Int))) := fun W' R0 hh => ⟨hh.tail.blk.cell 1, hh.tail.blk.cell 2, hh.tail.tail.blk.cell 1⟩
  go_enter Tryz.func39, Tryz.ntmps39
  go_wp2_with fail
  have yd := y0.drew
  have s0 := hS _ _ yd
  refine wp_region_noPanic ?_
  refine wp_region_held_drew (S := (fun W' => W'.cell? ⟨w.heap.size + 1, 1, none⟩ = some (.int .i64 (N : Int)) ∧ W'.cell? ⟨w.heap.size + 1, 2, none⟩ = some (.string ⟨R.toArray⟩) ∧ W'.cell? ⟨w.heap.size, 1, none⟩ = some (.int .i64 (n : Int)))) (by kernel_rfl) ?_ (fun hH0 => ?_)
  ·(first
     | with_reducible exact s0
     | with_reducible exact s1
     | fail)
  refine tk 0 11 hH0 ?_
  refine rdy [1] ?_
  refine an 12 fun K hK => ?_
  go_simp; (first
   | (with_reducible refine (kv _ yd.below).mono ?_
      rintro e v0 ⟨rfl, rfl⟩)
   | (with_reducible refine (kR _ yd.below).mono ?_
      rintro e w1 ⟨rfl, bb1⟩
      have yr := yd.under bb1
      have s1 := hS _ _ yr)
   | fail); go_wp2_with fail
  refine hK.out _ _ ?_ (fun hH1 => ?_)
  ·(first
     | with_reducible exact s0
     | with_reducible exact s1
     | fail)
  clear hK K hH0
  try simp only [pu]
  refine tk 2 13 hH1 ?_
  refine tk 3 14 hH1 ?_
  refine tk 4 15 hH1 ?_
  refine tk 5 16 hH1 ?_
  refine tk 6 17 hH1 ?_
  refine tk 7 18 hH1 ?_
  refine tk 8 19 hH1 ?_
  refine tk 9 20 hH1 ?_
  refine tk 10 21 hH1 ?_
  refine tk 11 22 hH1 ?_
  refine tk 12 23 hH1 ?_
  refine tk 13 24 hH1 ?_
  refine tk 14 25 hH1 ?_
  refine tk 15 26 hH1 ?_
  refine rdy [16] ?_
  refine an 27 fun K hK => ?_
  go_simp; (first
   | (with_reducible refine (kv _ yd.below).mono ?_
      rintro e v0 ⟨rfl, rfl⟩)
   | (with_reducible refine (kR _ yd.below).mono ?_
      rintro e w1 ⟨rfl, bb1⟩
      have yr := yd.under bb1
      have s1 := hS _ _ yr)
   | fail); go_wp2_with fail
  refine hK.out _ _ ?_ (fun hH2 => ?_)
  ·(first
     | with_reducible exact s0
     | with_reducible exact s1
     | fail)
  clear hK K hH1
  try simp only [pu]
  refine tk 17 28 hH2 ?_
  refine tk 18 29 hH2 ?_
  refine tk 19 30 hH2 ?_
  refine tk 20 31 hH2 ?_
  refine tk 21 32 hH2 ?_
  refine tk 22 33 hH2 ?_
  refine tk 23 34 hH2 ?_
  refine tk 24 35 hH2 ?_
  refine tk 25 36 hH2 ?_
  refine tk 26 37 hH2 ?_
  refine tk 27 38 hH2 ?_
  refine tk 28 39 hH2 ?_
  refine tk 29 40 hH2 ?_
  refine tk 30 41 hH2 ?_
  refine tk 31 42 hH2 ?_
  refine tk 32 43 hH2 ?_
  refine dn ?_ _
  all_goals (refine NoPanic.normal ?_)
  clear hW0 hW1 hW hs0 hs1 y0 yd hS
  have Yr := Lib.hid yr
  have pa1 := yr.tail.tail.blk.cell 1
  clear yr s0 s1 kR kv
  go_wp2_with fail
  refine (kS _ Yr.out.below).mono ?_
  rintro e w2 ⟨rfl, bb2⟩
  have y2 := Yr.out.under bb2
  clear kS bb2 pa1
  have pa1 := y2.tail.tail.blk.cell 1
  have pa2 := y2.tail.tail.blk.cell 2
  have Y2 := Lib.hid y2
  have ec0 := y2.blk.cell 0
  have ec1 := y2.blk.cell 1
  have ec2 := y2.blk.cell 2
  have ec3 := y2.blk.cell 3
  have ec4 := y2.blk.cell 4
  have ec5 := y2.blk.cell 5
  have ec6 := y2.blk.cell 6
  have ec7 := y2.blk.cell 7
  have ec8 := y2.blk.cell 8
  have ec9 := y2.blk.cell 9
  have ec10 := y2.blk.cell 10
  have ec11 := y2.blk.cell 11
  have ec12 := y2.blk.cell 12
  have ec13 := y2.blk.cell 13
  have ec14 := y2.blk.cell 14
  have ec15 := y2.blk.cell 15
  have ef0 := y2.blk.frozen 0
  have ef1 := y2.blk.frozen 1
  have ef2 := y2.blk.frozen 2
  have ef3 := y2.blk.frozen 3
  have ef4 := y2.blk.frozen 4
  have ef5 := y2.blk.frozen 5
  have ef6 := y2.blk.frozen 6
  have ef7 := y2.blk.frozen 7
  have ef8 := y2.blk.frozen 8
  have ef9 := y2.blk.frozen 9
  have ef10 := y2.blk.frozen 10
  have ef11 := y2.blk.frozen 11
  have ef12 := y2.blk.frozen 12
  have ef13 := y2.blk.frozen 13
  have ef14 := y2.blk.frozen 14
  have ef15 := y2.blk.frozen 15
  have Y9 := ((((((((((((((((y2.set_ 0 (.string ⟨#[]⟩)).set_ 1 (.int .i64 0)).set_ 2 (.string ⟨#[]⟩)).set_ 3 (.int .i64 0)).set_ 4 (.slice none 0 0)).set_ 5 (.slice none 0 0)).set_ 6 (.slice none 0 0)).set_ 7 (.string ⟨#[]⟩)).set_ 8 (.int .i64 0)).set_ 9 (.string ⟨#[]⟩)).set_ 10 (.int .i64 0)).set_ 11 (.slice none 0 0)).set_ 12 (.slice none 0 0)).set_ 13 (.slice none 0 0)).set_ 14 (.string ⟨#[]⟩)).set_ 15 (.slice none 0 0))
  simp only [List.setIfInBounds_toArray, List.set_cons_zero, List.set_cons_succ] at Y9
  have YE := Lib.hid Y9
  clear Y9
  clear y2 kC
  go_wp2
  refine bodyPost_ret (results_ct rfl _ _ _ _ _ _ _ rfl YE.out.blk Tryz.underlying70 rfl size_ev) rfl ?_
  exact cmp_bad _ _ YE.out.below
 ·rw [if_neg e6]
  have e6a : (R1 == r1) = false := beq_eq_false_iff_ne.2 e6
  have hS : ∀ W' (R0 : Res), St w.heap.size w W' [R0, cellsR (w.heap.size + 1) 32 #[.string ⟨o2.toArray⟩, .int .i64 (N : Int), .string ⟨R.toArray⟩, .int .i64 i2, .slice A2 C2.length a2, .slice B2 T2.length b2, .slice X2 L2.length c2], cellsR w.heap.size 32 #[.string ⟨o1.toArray⟩, .int .i64 (n : Int), .string ⟨r1.toArray⟩, .int .i64 i1, .slice A1 C1.length a1, .slice B1 T1.length b1, .slice X1 L1.length c1]] → (W'.cell? ⟨w.heap.size + 1, 1, none⟩ = some (.int .i64 (N : Int)) ∧ W'.cell? ⟨w.heap.size + 1, 2, none⟩ = some (.string ⟨R.toArray⟩) ∧ W'.cell? ⟨w.heap.size, 1, none⟩ = some (.int .i64 (n : Int))) := fun W' R0 hh => ⟨hh.tail.blk.cell 1, hh.tail.blk.cell 2, hh.tail.tail.blk.cell 1⟩
  go_enter Tryz.func39, Tryz.ntmps39
  go_wp2_with fail
  have yd := y0.drew
  have s0 := hS _ _ yd
  refine wp_region_noPanic ?_
  refine wp_region_held_drew (S := (fun W' => W'.cell? ⟨w.heap.size + 1, 1, none⟩ = some (.int .i64 (N : Int)) ∧ W'.cell? ⟨w.heap.size + 1, 2, none⟩ = some (.string ⟨R.toArray⟩) ∧ W'.cell? ⟨w.heap.size, 1, none⟩ = some (.int .i64 (n : Int)))) (by kernel_rfl) ?_ (fun hH0 => ?_)
  ·(first
     | with_reducible exact s0
     | with_reducible exact s1
     | fail)
  refine tk 0 11 hH0 ?_
  refine rdy [1] ?_
  refine an 12 fun K hK => ?_
  go_simp; (first
   | (with_reducible refine (kv _ yd.below).mono ?_
      rintro e v0 ⟨rfl, rfl⟩)
   | (with_reducible refine (kR _ yd.below).mono ?_
      rintro e w1 ⟨rfl, bb1⟩
      have yr := yd.under bb1
      have s1 := hS _ _ yr)
   | fail); go_wp2_with fail
  refine hK.out _ _ ?_ (fun hH1 => ?_)
  ·(first
     | with_reducible exact s0
     | with_reducible exact s1
     | fail)
  clear hK K hH0
  try simp only [pu]
  refine tk 2 13 hH1 ?_
  refine tk 3 14 hH1 ?_
  refine tk 4 15 hH1 ?_
  refine tk 5 16 hH1 ?_
  refine tk 6 17 hH1 ?_
  refine tk 7 18 hH1 ?_
  refine tk 8 19 hH1 ?_
  refine tk 9 20 hH1 ?_
  refine tk 10 21 hH1 ?_
  refine tk 11 22 hH1 ?_
  refine tk 12 23 hH1 ?_
  refine tk 13 24 hH1 ?_
  refine tk 14 25 hH1 ?_
  refine tk 15 26 hH1 ?_
  refine rdy [16] ?_
  refine an 27 fun K hK => ?_
  go_simp; (first
   | (with_reducible refine (kv _ yd.below).mono ?_
      rintro e v0 ⟨rfl, rfl⟩)
   | (with_reducible refine (kR _ yd.below).mono ?_
      rintro e w1 ⟨rfl, bb1⟩
      have yr := yd.under bb1
      have s1 := hS _ _ yr)
   | fail); go_wp2_with fail
  refine hK.out _ _ ?_ (fun hH2 => ?_)
  ·(first
     | with_reducible exact s0
     | with_reducible exact s1
     | fail)
  clear hK K hH1
  try simp only [pu]
  refine tk 17 28 hH2 ?_
  refine tk 18 29 hH2 ?_
  refine tk 19 30 hH2 ?_
  refine tk 20 31 hH2 ?_
  refine tk 21 32 hH2 ?_
  refine tk 22 33 hH2 ?_
  refine tk 23 34 hH2 ?_
  refine tk 24 35 hH2 ?_
  refine tk 25 36 hH2 ?_
  refine tk 26 37 hH2 ?_
  refine tk 27 38 hH2 ?_
  refine tk 28 39 hH2 ?_
  refine tk 29 40 hH2 ?_
  refine tk 30 41 hH2 ?_
  refine tk 31 42 hH2 ?_
  refine tk 32 43 hH2 ?_
  refine dn ?_ _
  all_goals (refine NoPanic.normal ?_)
  clear hW0 hW1 hW hs0 hs1 y0 yd hS
  have Yr := Lib.hid yr
  have pa1 := yr.tail.tail.blk.cell 1
  clear yr s0 s1 kR kv
  go_wp2_with fail
  refine (kS _ Yr.out.below).mono ?_
  rintro e w2 ⟨rfl, bb2⟩
  have y2 := Yr.out.under bb2
  clear kS bb2 pa1
  have pa1 := y2.tail.tail.blk.cell 1
  have pa2 := y2.tail.tail.blk.cell 2
  have Y2 := Lib.hid y2
  clear y2
  go_wp2_with fail
  refine (kC _ Y2.out.below).mono ?_
  rintro e w3 ⟨pv, rfl, t3⟩
  have y3 := Y2.out.join t3
  clear kC t3 pa1 pa2
  obtain ⟨Ap, np, rfl, _, _⟩ := own_form y3.own
  have Y3 := y3.pk [1, 0, 2, 3]
  clear y3
  have pa0 := Y3.tail.tail.tail.blk.cell 0
  have pa1 := Y3.tail.tail.tail.blk.cell 1
  have pa2 := Y3.tail.tail.tail.blk.cell 2
  have pa3 := Y3.tail.tail.tail.blk.cell 3
  have pa4 := Y3.tail.tail.tail.blk.cell 4
  have pa5 := Y3.tail.tail.tail.blk.cell 5
  have pa6 := Y3.tail.tail.tail.blk.cell 6
  have pb0 := Y3.tail.tail.blk.cell 0
  have pb1 := Y3.tail.tail.blk.cell 1
  have pb2 := Y3.tail.tail.blk.cell 2
  have pb3 := Y3.tail.tail.blk.cell 3
  have pb4 := Y3.tail.tail.blk.cell 4
  have pb5 := Y3.tail.tail.blk.cell 5
  have pb6 := Y3.tail.tail.blk.cell 6
  have ec0 := Y3.blk.cell 0
  have ec1 := Y3.blk.cell 1
  have ec2 := Y3.blk.cell 2
  have ec3 := Y3.blk.cell 3
  have ec4 := Y3.blk.cell 4
  have ec5 := Y3.blk.cell 5
  have ec6 := Y3.blk.cell 6
  have ec7 := Y3.blk.cell 7
  have ec8 := Y3.blk.cell 8
  have ec9 := Y3.blk.cell 9
  have ec10 := Y3.blk.cell 10
  have ec11 := Y3.blk.cell 11
  have ec12 := Y3.blk.cell 12
  have ec13 := Y3.blk.cell 13
  have ec14 := Y3.blk.cell 14
  have ec15 := Y3.blk.cell 15
  have ef0 := Y3.blk.frozen 0
  have ef1 := Y3.blk.frozen 1
  have ef2 := Y3.blk.frozen 2
  have ef3 := Y3.blk.frozen 3
  have ef4 := Y3.blk.frozen 4
  have ef5 := Y3.blk.frozen 5
  have ef6 := Y3.blk.frozen 6
  have ef7 := Y3.blk.frozen 7
  have ef8 := Y3.blk.frozen 8
  have ef9 := Y3.blk.frozen 9
  have ef10 := Y3.blk.frozen 10
  have ef11 := Y3.blk.frozen 11
  have ef12 := Y3.blk.frozen 12
  have ef13 := Y3.blk.frozen 13
  have ef14 := Y3.blk.frozen 14
  have ef15 := Y3.blk.frozen 15
  have Y9 := ((((((((((((((((Y3.set_ 0 (.string ⟨o1.toArray⟩)).set_ 1 (.int .i64 (n : Int))).set_ 2 (.string ⟨r1.toArray⟩)).set_ 3 (.int .i64 i1)).set_ 4 (.slice A1 C1.length a1)).set_ 5 (.slice B1 T1.length b1)).set_ 6 (.slice X1 L1.length c1)).set_ 7 (.string ⟨o2.toArray⟩)).set_ 8 (.int .i64 (N : Int))).set_ 9 (.string ⟨R.toArray⟩)).set_ 10 (.int .i64 i2)).set_ 11 (.slice A2 C2.length a2)).set_ 12 (.slice B2 T2.length b2)).set_ 13 (.slice X2 L2.length c2)).set_ 14 (.string ⟨R1.toArray⟩)).set_ 15 (.slice Ap G.length np))
  simp only [List.setIfInBounds_toArray, List.set_cons_zero, List.set_cons_succ] at Y9
  have YE := Lib.hid Y9
  clear Y3 Y9
  go_wp2
  refine bodyPost_ret (results_ct rfl _ _ _ _ _ _ _ rfl YE.out.blk Tryz.underlying70 rfl size_ev) rfl ?_
  exact ⟨_, rfl, YE.out.pk [1]⟩
end Go.Proofs.YtjjpdnpbhdcpbaaGreat
