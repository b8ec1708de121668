/-
  Checkpoints: decoding, in the reference. Conditions: strings of at most 2^40 bytes.
-/
import Derived.Test.YtjjpdnpbhdcpbaaGreatQCkY
import Derived.Test.YtjjpdnpbhdcpbaaGreatQCkX
import Derived.Test.YtjjpdnpbhdcpbaaGreatQPe
import Derived.Test.YtjjpdnpbhdcpbaaGreatBCkQ
import Derived.Test.YtjjpdnpbhdcpbaaGreatQPd
import Derived.Test.YtjjpdnpbhdcpbaaGreatQCkL
import Derived.Test.YtjjpdnpbhdcpbaaGreatQCkK
import Derived.Test.YtjjpdnpbhdcpbaaGreatQCkJ
import Derived.Test.YtjjpdnpbhdcpbaaGreatQCkI
import Derived.Test.YtjjpdnpbhdcpbaaGreatQCkH
import Derived.Test.YtjjpdnpbhdcpbaaGreatQCkF
import Derived.Test.YtjjpdnpbhdcpbaaGreatQCkE
import Derived.Test.YtjjpdnpbhdcpbaaGreatQPa
import Derived.Test.YtjjpdnpbhdcpbaaGreatBPa
import Derived.Test.YtjjpdnpbhdcpbaaGreatQBase
import Derived.Test.YtjjpdnpbhdcpbaaGreatQCkC
import Derived.Test.YtjjpdnpbhdcpbaaGreatQPc
import Derived.Test.YtjjpdnpbhdcpbaaGreatBPb
import Derived.Test.YtjjpdnpbhdcpbaaGreatBSgQ
import Derived.Deep.Strs
import Derived.Maps.OwnSet
import Derived.Test.YtjjpdnpbhdcpbaaGreatQPb
import Derived.Test.YtjjpdnpbhdcpbaaGreatQSgJ
import Derived.Test.YtjjpdnpbhdcpbaaGreatQSgI
import Derived.Test.YtjjpdnpbhdcpbaaGreatQSgH
import Derived.Test.YtjjpdnpbhdcpbaaGreatQSgG
import Derived.Test.YtjjpdnpbhdcpbaaGreatQSgF
import Derived.Test.YtjjpdnpbhdcpbaaGreatQMkA
import Derived.Test.YtjjpdnpbhdcpbaaGreatLayJ
import Derived.Test.YtjjpdnpbhdcpbaaGreatQShaA
import Derived.Test.YtjjpdnpbhdcpbaaGreatProg
import Derived.Laws.BitsAllLaws
import Derived.BigQuiet
import Derived.BigRegion
import Derived.Deep.RegionHeld3
import Derived.Test.YtjjpdnpbhdcpbaaGreatLayC
import Derived.Test.YtjjpdnpbhdcpbaaGreatLay
import Derived.Test.YtjjpdnpbhdcpbaaGreatQShaB
import Derived.Laws.CopyRow
import Derived.Laws.IdiomStrings
import Derived.Lib.Bytealg
import Derived.Laws.MakeOwn
import Derived.Test.YtjjpdnpbhdcpbaaGreatLayL
import Derived.Test.YtjjpdnpbhdcpbaaGreatQCdA
import Derived.Test.YtjjpdnpbhdcpbaaGreatQMkB
import Derived.Test.YtjjpdnpbhdcpbaaGreatLayR
import Derived.Lib.OthersKept
import Derived.Test.YtjjpdnpbhdcpbaaGreatQSgD
import Derived.RangeFuncNested
import Derived.RangeFuncBound
import Derived.RangeFuncCalls
import Derived.RangeFuncLeaves
import Derived.Shelf.Abstract
import Derived.Shelf.RegionOpen
import Derived.OwnWalkIn
import Derived.TacticsInMore
import Derived.LoopNIn
import Derived.LoopIn
import Derived.Lib.FrozenHead2
import Derived.OrdersIn
import Derived.RangeFuncFrom
import Derived.Laws.ResultCell
import Derived.Test.YtjjpdnpbhdcpbaaGreatBCdB
import Derived.Test.YtjjpdnpbhdcpbaaGreatQCdB
import Derived.Test.YtjjpdnpbhdcpbaaGreatBRkP
namespace Go.Proofs.YtjjpdnpbhdcpbaaGreat
set_option linter.unusedVariables false
open Go.RowKit Go.Shelf
attribute [local go_sem] Oper.semAt_some
theorem rkTail_none {s o : Sg.Str} {z : Nat} {r : Sg.Str} {i : Nat} {C T : List Sg.Str} {n a : Nat} (h : rkRows s n [] a = none) : rkTail s o z r i C T n a = (noCk, 9) := by
 unfold rkTail
 rw [h]
theorem rkTail_some {s o : Sg.Str} {z : Nat} {r : Sg.Str} {i : Nat} {C T : List Sg.Str} {n a a6 : Nat} {L : List SgRow} (h : rkRows s n [] a = some (L, a6)) : rkTail s o z r i C T n a = if a6 = s.length then (if headB o (z : Int) r = true then (ckP o (z : Int) r (i : Int) C T L, 0) else (noCk, 9)) else (noCk, 9) := by
 unfold rkTail
 rw [h]
set_option maxRecDepth 20000 in
set_option maxHeartbeats 8000000 in
theorem rckdecode_spec (s : Sg.Str) (w : World) (hs : s.length ≤ 1099511627776) :
 Calls Tryz.prog 33 #[.string ⟨s.toArray⟩] w (DckP (rckDec s) w) := by
 have yi : St w.heap.size w ((w.alloc (.cells #[.string ⟨#[]⟩, .int .i64 0, .string ⟨#[]⟩, .int .i64 0, .slice none 0 0, .slice none 0 0, .slice none 0 0] 32)).alloc (.cells #[.string ⟨#[]⟩, .int .i64 0, .string ⟨#[]⟩, .int .i64 0, .slice none 0 0, .slice none 0 0, .slice none 0 0] 32)) [cellsR (w.heap.size + 1) 32 #[.string ⟨#[]⟩, .int .i64 0, .string ⟨#[]⟩, .int .i64 0, .slice none 0 0, .slice none 0 0, .slice none 0 0], cellsR w.heap.size 32 #[.string ⟨#[]⟩, .int .i64 0, .string ⟨#[]⟩, .int .i64 0, .slice none 0 0, .slice none 0 0, .slice none 0 0]] := by
  have := ((St.nil w).alloc 32 #[.string ⟨#[]⟩, .int .i64 0, .string ⟨#[]⟩, .int .i64 0, .slice none 0 0, .slice none 0 0, .slice none 0 0]).alloc 32 #[.string ⟨#[]⟩, .int .i64 0, .string ⟨#[]⟩, .int .i64 0, .slice none 0 0, .slice none 0 0, .slice none 0 0]
  rw [World.size_alloc] at this
  exact this
 have hp := bytes_size s
 unfold rckDec
 have k1 := (readText_ref s 0 ((w.alloc (.cells #[.string ⟨#[]⟩, .int .i64 0, .string ⟨#[]⟩, .int .i64 0, .slice none 0 0, .slice none 0 0, .slice none 0 0] 32)).alloc (.cells #[.string ⟨#[]⟩, .int .i64 0, .string ⟨#[]⟩, .int .i64 0, .slice none 0 0, .slice none 0 0, .slice none 0 0] 32)) hs (Nat.zero_le _)).mono (R' := fun e w' => TextZ (Cd.readText s 0) e ∧ St w.heap.size w w' [cellsR (w.heap.size + 1) 32 #[.string ⟨#[]⟩, .int .i64 0, .string ⟨#[]⟩, .int .i64 0, .slice none 0 0, .slice none 0 0, .slice none 0 0], cellsR w.heap.size 32 #[.string ⟨#[]⟩, .int .i64 0, .string ⟨#[]⟩, .int .i64 0, .slice none 0 0, .slice none 0 0, .slice none 0 0]]) (fun e w' h => ⟨h.1, by rw [← h.2]; exact yi⟩)
 cases h1 : Cd.readText s 0 with
 | none =>
   rw [h1] at k1
   clear h1
   go_enter Tryz.func33, Tryz.ntmps33
   go_wp2_with fail
   refine k1.mono ?_
   rintro e W ⟨rfl, y0⟩
   clear k1 yi
   have nc0 := y0.blk.cell 0
   have nc1 := y0.blk.cell 1
   have nc2 := y0.blk.cell 2
   have nc3 := y0.blk.cell 3
   have nc4 := y0.blk.cell 4
   have nc5 := y0.blk.cell 5
   have nc6 := y0.blk.cell 6
   have rc0 := y0.tail.blk.cell 0
   have rc1 := y0.tail.blk.cell 1
   have rc2 := y0.tail.blk.cell 2
   have rc3 := y0.tail.blk.cell 3
   have rc4 := y0.tail.blk.cell 4
   have rc5 := y0.tail.blk.cell 5
   have rc6 := y0.tail.blk.cell 6
   have rf0 := y0.tail.blk.frozen 0
   have rf1 := y0.tail.blk.frozen 1
   have rf2 := y0.tail.blk.frozen 2
   have rf3 := y0.tail.blk.frozen 3
   have rf4 := y0.tail.blk.frozen 4
   have rf5 := y0.tail.blk.frozen 5
   have rf6 := y0.tail.blk.frozen 6
   have YE := Lib.hid (((((((((y0.front 1 (by simp)).set_ 0 (.string ⟨#[]⟩)).set_ 1 (.int .i64 0)).set_ 2 (.string ⟨#[]⟩)).set_ 3 (.int .i64 0)).set_ 4 (.slice none 0 0)).set_ 5 (.slice none 0 0)).set_ 6 (.slice none 0 0)))
   go_wp2
   refine bodyPost_ret (results_ct rfl _ _ _ _ _ _ _ rfl YE.out.blk Tryz.underlying32 rfl size_ck) rfl ?_
   exact dck_bad _ YE.out.below
 | some q =>
   obtain ⟨o, a1⟩ := q
   rw [h1] at k1
   have l1 : a1 ≤ s.length := (Cd.readText_le h1 (Nat.zero_le _)).2.1
   clear h1
   dsimp only
   have k2 := fun W => readUint_ref s a1 W hs l1
   cases h2 : Cd.readUint s a1 with
   | none =>
     rw [h2] at k2
     clear h2 l1
     go_enter Tryz.func33, Tryz.ntmps33
     go_wp2_with fail
     refine k1.mono ?_
     rintro e W ⟨rfl, y0⟩
     clear k1 yi
     go_wp2_with fail
     refine (k2 _).mono ?_
     rintro e w1 ⟨rfl, rfl⟩
     clear k2
     have nc0 := y0.blk.cell 0
     have nc1 := y0.blk.cell 1
     have nc2 := y0.blk.cell 2
     have nc3 := y0.blk.cell 3
     have nc4 := y0.blk.cell 4
     have nc5 := y0.blk.cell 5
     have nc6 := y0.blk.cell 6
     have rc0 := y0.tail.blk.cell 0
     have rc1 := y0.tail.blk.cell 1
     have rc2 := y0.tail.blk.cell 2
     have rc3 := y0.tail.blk.cell 3
     have rc4 := y0.tail.blk.cell 4
     have rc5 := y0.tail.blk.cell 5
     have rc6 := y0.tail.blk.cell 6
     have rf0 := y0.tail.blk.frozen 0
     have rf1 := y0.tail.blk.frozen 1
     have rf2 := y0.tail.blk.frozen 2
     have rf3 := y0.tail.blk.frozen 3
     have rf4 := y0.tail.blk.frozen 4
     have rf5 := y0.tail.blk.frozen 5
     have rf6 := y0.tail.blk.frozen 6
     have YE := Lib.hid (((((((((y0.front 1 (by simp)).set_ 0 (.string ⟨#[]⟩)).set_ 1 (.int .i64 0)).set_ 2 (.string ⟨#[]⟩)).set_ 3 (.int .i64 0)).set_ 4 (.slice none 0 0)).set_ 5 (.slice none 0 0)).set_ 6 (.slice none 0 0)))
     go_wp2
     refine bodyPost_ret (results_ct rfl _ _ _ _ _ _ _ rfl YE.out.blk Tryz.underlying32 rfl size_ck) rfl ?_
     exact dck_bad _ YE.out.below
   | some q =>
     obtain ⟨z, a2⟩ := q
     rw [h2] at k2
     have l2 : a2 ≤ s.length := (Cd.readUint_le h2 l1).2.1
     clear h2 l1
     dsimp only
     have k3 := fun W => readText_ref s a2 W hs l2
     cases h3 : Cd.readText s a2 with
     | none =>
       rw [h3] at k3
       clear h3 l2
       go_enter Tryz.func33, Tryz.ntmps33
       go_wp2_with fail
       refine k1.mono ?_
       rintro e W ⟨rfl, y0⟩
       clear k1 yi
       go_wp2_with fail
       refine (k2 _).mono ?_
       rintro e w1 ⟨rfl, rfl⟩
       clear k2
       go_wp2_with fail
       refine (k3 _).mono ?_
       rintro e w1 ⟨rfl, rfl⟩
       clear k3
       have nc0 := y0.blk.cell 0
       have nc1 := y0.blk.cell 1
       have nc2 := y0.blk.cell 2
       have nc3 := y0.blk.cell 3
       have nc4 := y0.blk.cell 4
       have nc5 := y0.blk.cell 5
       have nc6 := y0.blk.cell 6
       have rc0 := y0.tail.blk.cell 0
       have rc1 := y0.tail.blk.cell 1
       have rc2 := y0.tail.blk.cell 2
       have rc3 := y0.tail.blk.cell 3
       have rc4 := y0.tail.blk.cell 4
       have rc5 := y0.tail.blk.cell 5
       have rc6 := y0.tail.blk.cell 6
       have rf0 := y0.tail.blk.frozen 0
       have rf1 := y0.tail.blk.frozen 1
       have rf2 := y0.tail.blk.frozen 2
       have rf3 := y0.tail.blk.frozen 3
       have rf4 := y0.tail.blk.frozen 4
       have rf5 := y0.tail.blk.frozen 5
       have rf6 := y0.tail.blk.frozen 6
       have YE := Lib.hid (((((((((y0.front 1 (by simp)).set_ 0 (.string ⟨#[]⟩)).set_ 1 (.int .i64 0)).set_ 2 (.string ⟨#[]⟩)).set_ 3 (.int .i64 0)).set_ 4 (.slice none 0 0)).set_ 5 (.slice none 0 0)).set_ 6 (.slice none 0 0)))
       go_wp2
       refine bodyPost_ret (results_ct rfl _ _ _ _ _ _ _ rfl YE.out.blk Tryz.underlying32 rfl size_ck) rfl ?_
       exact dck_bad _ YE.out.below
     | some q =>
       obtain ⟨r, a3⟩ := q
       rw [h3] at k3
       have l3 : a3 ≤ s.length := (Cd.readText_le h3 l2).2.1
       clear h3 l2
       dsimp only
       have k4 := fun W => sgread_spec s a3 W hs l3
       cases h4 : sgRd s a3 with
       | none =>
         rw [h4] at k4
         clear h4 l3
         go_enter Tryz.func33, Tryz.ntmps33
         go_wp2_with fail
         refine k1.mono ?_
         rintro e W ⟨rfl, y0⟩
         clear k1 yi
         go_wp2_with fail
         refine (k2 _).mono ?_
         rintro e w1 ⟨rfl, rfl⟩
         clear k2
         go_wp2_with fail
         refine (k3 _).mono ?_
         rintro e w1 ⟨rfl, rfl⟩
         clear k3
         go_wp2_with fail
         refine (k4 _).mono ?_
         rintro e w1 ⟨rfl, b1⟩
         have y1 := (y0.under b1).alloc0 (.cells #[.int .i64 0, .slice none 0 0, .slice none 0 0] 29)
         clear k4 b1 y0
         have nc0 := y1.blk.cell 0
         have nc1 := y1.blk.cell 1
         have nc2 := y1.blk.cell 2
         have nc3 := y1.blk.cell 3
         have nc4 := y1.blk.cell 4
         have nc5 := y1.blk.cell 5
         have nc6 := y1.blk.cell 6
         have rc0 := y1.tail.blk.cell 0
         have rc1 := y1.tail.blk.cell 1
         have rc2 := y1.tail.blk.cell 2
         have rc3 := y1.tail.blk.cell 3
         have rc4 := y1.tail.blk.cell 4
         have rc5 := y1.tail.blk.cell 5
         have rc6 := y1.tail.blk.cell 6
         have rf0 := y1.tail.blk.frozen 0
         have rf1 := y1.tail.blk.frozen 1
         have rf2 := y1.tail.blk.frozen 2
         have rf3 := y1.tail.blk.frozen 3
         have rf4 := y1.tail.blk.frozen 4
         have rf5 := y1.tail.blk.frozen 5
         have rf6 := y1.tail.blk.frozen 6
         have YE := Lib.hid (((((((((y1.front 1 (by simp)).set_ 0 (.string ⟨#[]⟩)).set_ 1 (.int .i64 0)).set_ 2 (.string ⟨#[]⟩)).set_ 3 (.int .i64 0)).set_ 4 (.slice none 0 0)).set_ 5 (.slice none 0 0)).set_ 6 (.slice none 0 0)))
         go_wp2
         refine bodyPost_ret (results_ct rfl _ _ _ _ _ _ _ rfl YE.out.blk Tryz.underlying32 rfl size_ck) rfl ?_
         exact dck_bad _ YE.out.below
       | some q =>
         obtain ⟨i, C, T, a4⟩ := q
         rw [h4] at k4
         have l4 : a4 ≤ s.length := sgRd_le h4 l3
         have i63 := (sgRd_lt h4 l3)
         clear h4 l3
         dsimp only
         have k5 := fun W' => readUint_ref s a4 W' hs l4
         cases h5 : Cd.readUint s a4 with
         | none =>
           rw [h5] at k5
           clear h5 l4
           go_enter Tryz.func33, Tryz.ntmps33
           go_wp2_with fail
           refine k1.mono ?_
           rintro e W ⟨rfl, y0⟩
           clear k1 yi
           go_wp2_with fail
           refine (k2 _).mono ?_
           rintro e w1 ⟨rfl, rfl⟩
           clear k2
           go_wp2_with fail
           refine (k3 _).mono ?_
           rintro e w1 ⟨rfl, rfl⟩
           clear k3
           go_wp2_with fail
           refine (k4 _).mono ?_
           rintro e w1 ⟨va, vb, rfl, t1⟩
           obtain ⟨A1, n1, rfl, q1, q2⟩ := own_form t1.own
           obtain ⟨A2, n2, rfl, q3, q4⟩ := own_form t1.tail.own
           have y1 := (y0.join t1).alloc 29 #[.int .i64 (i : Int), .slice A1 C.length n1, .slice A2 T.length n2]
           obtain ⟨p, hp1⟩ : ∃ p, w1.heap.size = p := ⟨_, rfl⟩
           rw [hp1] at y1
           clear t1 k4 y0
           go_wp2_with fail
           refine (k5 _).mono ?_
           rintro e w2 ⟨rfl, rfl⟩
           clear k5
           have nc0 := y1.tail.tail.tail.blk.cell 0
           have nc1 := y1.tail.tail.tail.blk.cell 1
           have nc2 := y1.tail.tail.tail.blk.cell 2
           have nc3 := y1.tail.tail.tail.blk.cell 3
           have nc4 := y1.tail.tail.tail.blk.cell 4
           have nc5 := y1.tail.tail.tail.blk.cell 5
           have nc6 := y1.tail.tail.tail.blk.cell 6
           have rc0 := y1.tail.tail.tail.tail.blk.cell 0
           have rc1 := y1.tail.tail.tail.tail.blk.cell 1
           have rc2 := y1.tail.tail.tail.tail.blk.cell 2
           have rc3 := y1.tail.tail.tail.tail.blk.cell 3
           have rc4 := y1.tail.tail.tail.tail.blk.cell 4
           have rc5 := y1.tail.tail.tail.tail.blk.cell 5
           have rc6 := y1.tail.tail.tail.tail.blk.cell 6
           have rf0 := y1.tail.tail.tail.tail.blk.frozen 0
           have rf1 := y1.tail.tail.tail.tail.blk.frozen 1
           have rf2 := y1.tail.tail.tail.tail.blk.frozen 2
           have rf3 := y1.tail.tail.tail.tail.blk.frozen 3
           have rf4 := y1.tail.tail.tail.tail.blk.frozen 4
           have rf5 := y1.tail.tail.tail.tail.blk.frozen 5
           have rf6 := y1.tail.tail.tail.tail.blk.frozen 6
           have YE := Lib.hid (((((((((y1.front 4 (by simp)).set_ 0 (.string ⟨#[]⟩)).set_ 1 (.int .i64 0)).set_ 2 (.string ⟨#[]⟩)).set_ 3 (.int .i64 0)).set_ 4 (.slice none 0 0)).set_ 5 (.slice none 0 0)).set_ 6 (.slice none 0 0)))
           go_wp2
           refine bodyPost_ret (results_ct rfl _ _ _ _ _ _ _ rfl YE.out.blk Tryz.underlying32 rfl size_ck) rfl ?_
           exact dck_bad _ YE.out.below
         | some q =>
           obtain ⟨N, a5⟩ := q
           rw [h5] at k5
           have l5 : a5 ≤ s.length := (Cd.readUint_le h5 l4).2.1
           clear h5 l4
           dsimp only
           by_cases hn : N ≤ 1024
           ·rw [if_pos hn]
            have hn1 : ¬ ((1024 : Int) < (N : Int)) := by omega
            obtain ⟨RES, hRES⟩ : ∃ RES, rkRows s N [] a5 = RES := ⟨_, rfl⟩
            obtain ⟨res, hres⟩ : ∃ res, rkTail s o z r i C T N a5 = res := ⟨_, rfl⟩
            rw [hres]
            have HR := Lib.hid (And.intro hres (And.intro hRES (And.intro hn (And.intro i63 (And.intro hs l5)))))
            clear hres hRES hn i63 hs l5
            go_enter Tryz.func33, Tryz.ntmps33
            go_wp2_with fail
            refine k1.mono ?_
            rintro e W ⟨rfl, y0⟩
            clear k1 yi
            go_wp2_with fail
            refine (k2 _).mono ?_
            rintro e w1 ⟨rfl, rfl⟩
            clear k2
            go_wp2_with fail
            refine (k3 _).mono ?_
            rintro e w1 ⟨rfl, rfl⟩
            clear k3
            go_wp2_with fail
            refine (k4 _).mono ?_
            rintro e w1 ⟨va, vb, rfl, t1⟩
            obtain ⟨A1, n1, rfl, q1, q2⟩ := own_form t1.own
            obtain ⟨A2, n2, rfl, q3, q4⟩ := own_form t1.tail.own
            have y1 := (y0.join t1).alloc 29 #[.int .i64 (i : Int), .slice A1 C.length n1, .slice A2 T.length n2]
            obtain ⟨p, hp1⟩ : ∃ p, w1.heap.size = p := ⟨_, rfl⟩
            rw [hp1] at y1
            clear t1 k4 y0
            go_wp2_with fail
            refine (k5 _).mono ?_
            rintro e w2 ⟨rfl, rfl⟩
            clear k5
            have ha := ((((y1.alloc 32 #[.string ⟨o.toArray⟩, .int .i64 (z : Int), .string ⟨r.toArray⟩, .int .i64 (i : Int), .slice A1 C.length n1, .slice A2 T.length n2, .slice none 0 0]).new_own (e := 64) (size := 4) (v := .slice none 0 0) (n := 0) (xs := []) (Below.refl _ _) (World.ownsRow_nil _ _ _ _)).rows0).pk [2, 1, 4, 5, 7, 6, 3, 0])
            rw [World.size_alloc, hp1] at ha
            have HA := Lib.hid ha
            have QQ := Lib.hid (And.intro q1 (And.intro q2 (And.intro q3 q4)))
            have sc0 := y1.blk.cell 0
            have sc1 := y1.blk.cell 1
            have sc2 := y1.blk.cell 2
            clear ha y1 q1 q2 q3 q4
            go_wp2_with fail
            clear sc0 sc1 sc2 hp1
            go_loopw [13, 6] (fun jv av wr => ∃ (j : Nat) (L : List SgRow) (X : Option Addr) (cp at_ : Nat), j ≤ N ∧ jv = .int .i64 j ∧ av = .int .i64 (at_ : Int) ∧ L.length = j ∧ L.length ≤ cp ∧ cp ≤ maxLen ∧ at_ ≤ s.length ∧ rkRows s (N - j) (L.map stripR) at_ = RES ∧ (∀ x ∈ L, RowCap x) ∧ (∀ x ∈ L, x.i < 9223372036854775808) ∧ St w.heap.size w wr [cellsR (p + 1) 32 #[.string ⟨o.toArray⟩, .int .i64 (z : Int), .string ⟨r.toArray⟩, .int .i64 (i : Int), .slice A1 C.length n1, .slice A2 T.length n2, .slice X L.length cp], ownR 64 4 (.slice X L.length cp) L.length (L.flatMap rowC), ownR 9 1 (.slice A1 C.length n1) C.length (strs C), ownR 9 1 (.slice A2 T.length n2) T.length (strs T), cellsR w.heap.size 32 #[.string ⟨#[]⟩, .int .i64 0, .string ⟨#[]⟩, .int .i64 0, .slice none 0 0, .slice none 0 0, .slice none 0 0], cellsR (w.heap.size + 1) 32 #[.string ⟨#[]⟩, .int .i64 0, .string ⟨#[]⟩, .int .i64 0, .slice none 0 0, .slice none 0 0, .slice none 0 0], cellsR p 29 #[.int .i64 (i : Int), .slice A1 C.length n1, .slice A2 T.length n2], rowsG L]) (fun jv _ _ => N - (intOf jv).toNat)
            case atStart => exact ⟨0, [], none, 0, a5, Nat.zero_le _, rfl, rfl, rfl, Nat.le_refl _, Nat.zero_le _, HR.out.2.2.2.2.2, HR.out.2.1, (fun x hx => by cases hx), (fun x hx => by cases hx), HA.out⟩
            case round =>
             obtain ⟨j, L, X, cp, at_, hj, rfl, rfl, hLj, hcp1, hcp2, hat, hf, hcap, hi63, h⟩ := hrel
             clear HA
             have j0 : (0 : Int) ≤ (j : Int) := Int.natCast_nonneg _
             by_cases hlt : j < N
             ·have j1 : (j : Int) < (N : Int) := Int.ofNat_lt.2 hlt
              rw [show N - j = (N - (j + 1)) + 1 by omega] at hf
              unfold rkRows at hf
              have kt := readText_ref s at_ wr HR.out.2.2.2.2.1 hat
              cases h1 : Cd.readText s at_ with
              | none =>
                rw [h1] at kt hf
                dsimp only at hf
                subst hf
                obtain rfl : res = (noCk, 9) := by rw [← HR.out.1]; exact rkTail_none HR.out.2.1
                clear h1 hlt hLj hcp1 hcp2 hat hcap hi63 hj
                go_wp2_with fail
                refine kt.mono ?_
                rintro e w3 ⟨rfl, rfl⟩
                have nc0 := h.tail.tail.tail.tail.tail.blk.cell 0
                have nc1 := h.tail.tail.tail.tail.tail.blk.cell 1
                have nc2 := h.tail.tail.tail.tail.tail.blk.cell 2
                have nc3 := h.tail.tail.tail.tail.tail.blk.cell 3
                have nc4 := h.tail.tail.tail.tail.tail.blk.cell 4
                have nc5 := h.tail.tail.tail.tail.tail.blk.cell 5
                have nc6 := h.tail.tail.tail.tail.tail.blk.cell 6
                have rc0 := h.tail.tail.tail.tail.blk.cell 0
                have rc1 := h.tail.tail.tail.tail.blk.cell 1
                have rc2 := h.tail.tail.tail.tail.blk.cell 2
                have rc3 := h.tail.tail.tail.tail.blk.cell 3
                have rc4 := h.tail.tail.tail.tail.blk.cell 4
                have rc5 := h.tail.tail.tail.tail.blk.cell 5
                have rc6 := h.tail.tail.tail.tail.blk.cell 6
                have rf0 := h.tail.tail.tail.tail.blk.frozen 0
                have rf1 := h.tail.tail.tail.tail.blk.frozen 1
                have rf2 := h.tail.tail.tail.tail.blk.frozen 2
                have rf3 := h.tail.tail.tail.tail.blk.frozen 3
                have rf4 := h.tail.tail.tail.tail.blk.frozen 4
                have rf5 := h.tail.tail.tail.tail.blk.frozen 5
                have rf6 := h.tail.tail.tail.tail.blk.frozen 6
                have YE := Lib.hid (((((((((h.front 4 (by simp)).set_ 0 (.string ⟨#[]⟩)).set_ 1 (.int .i64 0)).set_ 2 (.string ⟨#[]⟩)).set_ 3 (.int .i64 0)).set_ 4 (.slice none 0 0)).set_ 5 (.slice none 0 0)).set_ 6 (.slice none 0 0)))
                go_wp2
                refine bodyPost_ret (results_ct rfl _ _ _ _ _ _ _ rfl YE.out.blk Tryz.underlying32 rfl size_ck) rfl ?_
                exact dck_bad _ YE.out.below
              | some q =>
                obtain ⟨ky, a1'⟩ := q
                rw [h1] at kt hf
                dsimp only at hf
                have hle1 := (Cd.readText_le h1 hat).2.1
                have hky := bytes_size ky
                clear h1
                by_cases hk : ky.length ≤ 65536
                ·rw [if_pos hk] at hf
                 have hk1 : ¬ ((65536 : Int) < (ky.length : Int)) := by omega
                 have kg := sgread_spec s a1' wr HR.out.2.2.2.2.1 hle1
                 cases h2 : sgRd s a1' with
                 | none =>
                   rw [h2] at kg hf
                   dsimp only at hf
                   subst hf
                   obtain rfl : res = (noCk, 9) := by rw [← HR.out.1]; exact rkTail_none HR.out.2.1
                   have H := Lib.hid h
                   clear h2 hlt hLj hcp1 hcp2 hat hcap hi63 hj hk hle1 h
                   go_wp2_with fail
                   refine kt.mono ?_
                   rintro e w3 ⟨rfl, rfl⟩
                   go_wp2_with fail
                   refine kg.mono ?_
                   rintro e w4 ⟨rfl, b4⟩
                   have h4 := H.out.under b4
                   have h5 := h4.alloc0 (.cells #[.int .i64 0, .slice none 0 0, .slice none 0 0] 29)
                   clear b4 kg kt h4 H
                   have nc0 := h5.tail.tail.tail.tail.tail.blk.cell 0
                   have nc1 := h5.tail.tail.tail.tail.tail.blk.cell 1
                   have nc2 := h5.tail.tail.tail.tail.tail.blk.cell 2
                   have nc3 := h5.tail.tail.tail.tail.tail.blk.cell 3
                   have nc4 := h5.tail.tail.tail.tail.tail.blk.cell 4
                   have nc5 := h5.tail.tail.tail.tail.tail.blk.cell 5
                   have nc6 := h5.tail.tail.tail.tail.tail.blk.cell 6
                   have rc0 := h5.tail.tail.tail.tail.blk.cell 0
                   have rc1 := h5.tail.tail.tail.tail.blk.cell 1
                   have rc2 := h5.tail.tail.tail.tail.blk.cell 2
                   have rc3 := h5.tail.tail.tail.tail.blk.cell 3
                   have rc4 := h5.tail.tail.tail.tail.blk.cell 4
                   have rc5 := h5.tail.tail.tail.tail.blk.cell 5
                   have rc6 := h5.tail.tail.tail.tail.blk.cell 6
                   have rf0 := h5.tail.tail.tail.tail.blk.frozen 0
                   have rf1 := h5.tail.tail.tail.tail.blk.frozen 1
                   have rf2 := h5.tail.tail.tail.tail.blk.frozen 2
                   have rf3 := h5.tail.tail.tail.tail.blk.frozen 3
                   have rf4 := h5.tail.tail.tail.tail.blk.frozen 4
                   have rf5 := h5.tail.tail.tail.tail.blk.frozen 5
                   have rf6 := h5.tail.tail.tail.tail.blk.frozen 6
                   have YE := Lib.hid (((((((((h5.front 4 (by simp)).set_ 0 (.string ⟨#[]⟩)).set_ 1 (.int .i64 0)).set_ 2 (.string ⟨#[]⟩)).set_ 3 (.int .i64 0)).set_ 4 (.slice none 0 0)).set_ 5 (.slice none 0 0)).set_ 6 (.slice none 0 0)))
                   go_wp2
                   refine bodyPost_ret (results_ct rfl _ _ _ _ _ _ _ rfl YE.out.blk Tryz.underlying32 rfl size_ck) rfl ?_
                   exact dck_bad _ YE.out.below
                 | some q =>
                   obtain ⟨xi, xC, xT, a2'⟩ := q
                   rw [h2] at kg hf
                   dsimp only at hf
                   have hle2 := sgRd_le h2 hle1
                   have hx63 := sgRd_lt h2 hle1
                   have hb1 : L.length + 1 ≤ maxLen := by have := HR.out.2.2.1; unfold maxLen; omega
                   have hb2 : (L.length + 1) * 72 ≤ 140737488355328 := by have := HR.out.2.2.1; omega
                   have KL := Lib.hid (And.intro hlt (And.intro hLj (And.intro hle2 (And.intro hf (And.intro hcap (And.intro hi63 (And.intro hx63 (And.intro hb1 hb2))))))))
                   have H := Lib.hid h
                   clear h2 hlt hLj hcp1 hcp2 hat hcap hi63 hj hk hle1 h hf hle2 hx63 hb1 hb2
                   go_wp2_with fail
                   refine kt.mono ?_
                   rintro e w3 ⟨rfl, rfl⟩
                   clear kt
                   go_wp2_with fail
                   refine kg.mono ?_
                   rintro e w4 ⟨vc, vd, rfl, t4⟩
                   obtain ⟨B1, m1, rfl, y1, y2⟩ := own_form t4.own
                   obtain ⟨B2, m2, rfl, y3, y4⟩ := own_form t4.tail.own
                   have h5 := (H.out.join t4).alloc 29 #[.int .i64 (xi : Int), .slice B1 xC.length m1, .slice B2 xT.length m2]
                   obtain ⟨g, hg⟩ : ∃ g, w4.heap.size = g := ⟨_, rfl⟩
                   rw [hg] at h5
                   obtain ⟨W5, hW5⟩ : ∃ W5, w4.alloc (.cells #[.int .i64 (xi : Int), .slice B1 xC.length m1, .slice B2 xT.length m2] 29) = W5 := ⟨_, rfl⟩
                   rw [hW5] at h5
                   clear t4 kg H
                   have xs0 := h5.blk.cell 0
                   have xs1 := h5.blk.cell 1
                   have xs2 := h5.blk.cell 2
                   have l6 := h5.tail.tail.tail.blk.cell 6
                   have h6 := h5.pk [4, 3, 1, 2, 5, 6, 7, 8, 9, 10, 0]
                   have Y4 := Lib.hid (And.intro y1 (And.intro y2 (And.intro y3 y4)))
                   have H6 := Lib.hid h6
                   clear h5 h6 y1 y2 y3 y4
                   go_wp2_with (at_builtin; go_must (refine appendRow 30 (te := 64) #[.string ⟨ky.toArray⟩, .int .i64 (xi : Int), .slice B1 xC.length m1, .slice B2 xT.length m2] H6.out Tryz.underlying30 info_cos rfl (by decide) rfl _ _ rfl rfl rfl rfl (by intro u hu; simp at hu; rcases hu with rfl | rfl | rfl | rfl <;> rfl) KL.out.2.2.2.2.2.2.2.1 KL.out.2.2.2.2.2.2.2.2 ?_); intro v8 w8 h8; obtain ⟨gv, gc, rfl, cb1, cb2⟩ := own_form h8.own; have l7 := h8.tail.blk.cell 6; have f7 := h8.tail.blk.frozen 6; have H8 := Lib.hid (And.intro h8 (And.intro cb1 cb2)); clear h8 cb1 cb2)
                   go_roundw
                   case rel =>
                    obtain ⟨klt, kLj, ksl, kf, kcap, k63, kxi, _, _⟩ := KL.out
                    obtain ⟨z1, z2, z3, z4⟩ := Y4.out
                    obtain ⟨h8, z5, z6⟩ := H8.out
                    have hl : (L ++ [(⟨ky, (xi : Int), B1, xC, m1, B2, xT, m2⟩ : SgRow)]).length = L.length + 1 := by simp
                    have h11 := (((h8.pk [1, 0, 2, 3, 4, 5, 6, 7, 8, 9]).set_ 6 (.slice gv (L.length + 1) gc)).pk [9, 2, 3, 0, 1, 4, 5, 6, 7, 8])
                    have h12 := (St.rows1 ⟨ky, (xi : Int), B1, xC, m1, B2, xT, m2⟩ h11).pk [1, 2, 3, 4, 5, 6, 7, 0]
                    refine ⟨j + 1, L ++ [⟨ky, (xi : Int), B1, xC, m1, B2, xT, m2⟩], gv, gc, a2', klt, by go_num, rfl, by rw [hl, kLj], by rw [hl]; exact z5, z6, ksl, ?_, ?_, ?_, ?_⟩
                    ·rw [List.map_append]
                     exact kf
                    ·intro y hy
                     rcases List.mem_append.1 hy with hy | hy
                     ·exact kcap y hy
                     ·rw [List.mem_singleton.1 hy]
                      exact ⟨z1, z2, z3, z4⟩
                    ·intro y hy
                     rcases List.mem_append.1 hy with hy | hy
                     ·exact k63 y hy
                     ·rw [List.mem_singleton.1 hy]
                      exact kxi
                    ·rw [hl, flatC_snoc]
                     exact h12
                   case measure => have := KL.out.1; simp [intOf]; omega
                ·rw [if_neg hk] at hf
                 have hk1 : (65536 : Int) < (ky.length : Int) := by omega
                 subst hf
                 obtain rfl : res = (noCk, 9) := by rw [← HR.out.1]; exact rkTail_none HR.out.2.1
                 clear hlt hLj hcp1 hcp2 hat hcap hi63 hj hk hle1
                 go_wp2_with fail
                 refine kt.mono ?_
                 rintro e w3 ⟨rfl, rfl⟩
                 have nc0 := h.tail.tail.tail.tail.tail.blk.cell 0
                 have nc1 := h.tail.tail.tail.tail.tail.blk.cell 1
                 have nc2 := h.tail.tail.tail.tail.tail.blk.cell 2
                 have nc3 := h.tail.tail.tail.tail.tail.blk.cell 3
                 have nc4 := h.tail.tail.tail.tail.tail.blk.cell 4
                 have nc5 := h.tail.tail.tail.tail.tail.blk.cell 5
                 have nc6 := h.tail.tail.tail.tail.tail.blk.cell 6
                 have rc0 := h.tail.tail.tail.tail.blk.cell 0
                 have rc1 := h.tail.tail.tail.tail.blk.cell 1
                 have rc2 := h.tail.tail.tail.tail.blk.cell 2
                 have rc3 := h.tail.tail.tail.tail.blk.cell 3
                 have rc4 := h.tail.tail.tail.tail.blk.cell 4
                 have rc5 := h.tail.tail.tail.tail.blk.cell 5
                 have rc6 := h.tail.tail.tail.tail.blk.cell 6
                 have rf0 := h.tail.tail.tail.tail.blk.frozen 0
                 have rf1 := h.tail.tail.tail.tail.blk.frozen 1
                 have rf2 := h.tail.tail.tail.tail.blk.frozen 2
                 have rf3 := h.tail.tail.tail.tail.blk.frozen 3
                 have rf4 := h.tail.tail.tail.tail.blk.frozen 4
                 have rf5 := h.tail.tail.tail.tail.blk.frozen 5
                 have rf6 := h.tail.tail.tail.tail.blk.frozen 6
                 have YE := Lib.hid (((((((((h.front 4 (by simp)).set_ 0 (.string ⟨#[]⟩)).set_ 1 (.int .i64 0)).set_ 2 (.string ⟨#[]⟩)).set_ 3 (.int .i64 0)).set_ 4 (.slice none 0 0)).set_ 5 (.slice none 0 0)).set_ 6 (.slice none 0 0)))
                 go_wp2
                 refine bodyPost_ret (results_ct rfl _ _ _ _ _ _ _ rfl YE.out.blk Tryz.underlying32 rfl size_ck) rfl ?_
                 exact dck_bad _ YE.out.below
             ·obtain rfl : N = j := Nat.le_antisymm (Nat.le_of_not_lt hlt) hj
              rw [Nat.sub_self] at hf
              unfold rkRows at hf
              have hRES := HR.out.2.1
              rw [← hf] at hRES
              have hres := HR.out.1
              rw [rkTail_some hRES] at hres
              have i63 := HR.out.2.2.2.1
              clear hf hRES hlt hj hLj
              have KC := Lib.hid (And.intro hcap (And.intro hi63 (And.intro hcp1 (And.intro hcp2 i63))))
              have kh := fun W' => rheaded_spec o (z : Int) r W'
              have cc0 := h.blk.cell 0
              have cc1 := h.blk.cell 1
              have cc2 := h.blk.cell 2
              clear hcap hi63 hcp1 hcp2 hat i63
              by_cases ha : at_ = s.length
              ·rw [if_pos ha] at hres
               obtain rfl : at_ = s.length := ha
               have H := Lib.hid h
               clear h
               cases hh : headB o (z : Int) r with
               | false =>
                 rw [hh, if_neg (by decide)] at hres
                 subst hres
                 rw [hh] at kh
                 clear hh
                 go_wp2_with fail
                 refine (kh _).mono ?_
                 rintro e w9 ⟨rfl, b9⟩
                 have h9 := H.out.under b9
                 clear kh b9 cc0 cc1 cc2
                 have nc0 := h9.tail.tail.tail.tail.tail.blk.cell 0
                 have nc1 := h9.tail.tail.tail.tail.tail.blk.cell 1
                 have nc2 := h9.tail.tail.tail.tail.tail.blk.cell 2
                 have nc3 := h9.tail.tail.tail.tail.tail.blk.cell 3
                 have nc4 := h9.tail.tail.tail.tail.tail.blk.cell 4
                 have nc5 := h9.tail.tail.tail.tail.tail.blk.cell 5
                 have nc6 := h9.tail.tail.tail.tail.tail.blk.cell 6
                 have rc0 := h9.tail.tail.tail.tail.blk.cell 0
                 have rc1 := h9.tail.tail.tail.tail.blk.cell 1
                 have rc2 := h9.tail.tail.tail.tail.blk.cell 2
                 have rc3 := h9.tail.tail.tail.tail.blk.cell 3
                 have rc4 := h9.tail.tail.tail.tail.blk.cell 4
                 have rc5 := h9.tail.tail.tail.tail.blk.cell 5
                 have rc6 := h9.tail.tail.tail.tail.blk.cell 6
                 have rf0 := h9.tail.tail.tail.tail.blk.frozen 0
                 have rf1 := h9.tail.tail.tail.tail.blk.frozen 1
                 have rf2 := h9.tail.tail.tail.tail.blk.frozen 2
                 have rf3 := h9.tail.tail.tail.tail.blk.frozen 3
                 have rf4 := h9.tail.tail.tail.tail.blk.frozen 4
                 have rf5 := h9.tail.tail.tail.tail.blk.frozen 5
                 have rf6 := h9.tail.tail.tail.tail.blk.frozen 6
                 have YE := Lib.hid (((((((((h9.front 4 (by simp)).set_ 0 (.string ⟨#[]⟩)).set_ 1 (.int .i64 0)).set_ 2 (.string ⟨#[]⟩)).set_ 3 (.int .i64 0)).set_ 4 (.slice none 0 0)).set_ 5 (.slice none 0 0)).set_ 6 (.slice none 0 0)))
                 go_wp2
                 refine bodyPost_ret (results_ct rfl _ _ _ _ _ _ _ rfl YE.out.blk Tryz.underlying32 rfl size_ck) rfl ?_
                 exact dck_bad _ YE.out.below
               | true =>
                 rw [hh, if_pos rfl] at hres
                 subst hres
                 rw [hh] at kh
                 clear hh
                 go_wp2_with fail
                 refine (kh _).mono ?_
                 rintro e w9 ⟨rfl, b9⟩
                 have h9 := H.out.under b9
                 clear kh b9 cc0 cc1 cc2
                 have pc0 := h9.blk.cell 0
                 have pc1 := h9.blk.cell 1
                 have pc2 := h9.blk.cell 2
                 have pc3 := h9.blk.cell 3
                 have pc4 := h9.blk.cell 4
                 have pc5 := h9.blk.cell 5
                 have pc6 := h9.blk.cell 6
                 have rc0 := h9.tail.tail.tail.tail.blk.cell 0
                 have rc1 := h9.tail.tail.tail.tail.blk.cell 1
                 have rc2 := h9.tail.tail.tail.tail.blk.cell 2
                 have rc3 := h9.tail.tail.tail.tail.blk.cell 3
                 have rc4 := h9.tail.tail.tail.tail.blk.cell 4
                 have rc5 := h9.tail.tail.tail.tail.blk.cell 5
                 have rc6 := h9.tail.tail.tail.tail.blk.cell 6
                 have rf0 := h9.tail.tail.tail.tail.blk.frozen 0
                 have rf1 := h9.tail.tail.tail.tail.blk.frozen 1
                 have rf2 := h9.tail.tail.tail.tail.blk.frozen 2
                 have rf3 := h9.tail.tail.tail.tail.blk.frozen 3
                 have rf4 := h9.tail.tail.tail.tail.blk.frozen 4
                 have rf5 := h9.tail.tail.tail.tail.blk.frozen 5
                 have rf6 := h9.tail.tail.tail.tail.blk.frozen 6
                 have YE := Lib.hid (((((((((h9.front 4 (by simp)).set_ 0 (.string ⟨o.toArray⟩)).set_ 1 (.int .i64 (z : Int))).set_ 2 (.string ⟨r.toArray⟩)).set_ 3 (.int .i64 (i : Int))).set_ 4 (.slice A1 C.length n1)).set_ 5 (.slice A2 T.length n2)).set_ 6 (.slice X L.length cp)))
                 clear h9
                 go_wp2
                 refine bodyPost_ret (results_ct rfl _ _ _ _ _ _ _ rfl YE.out.blk Tryz.underlying32 rfl size_ck) rfl ?_
                 exact ⟨⟨o, z, r, i, A1, C, n1, A2, T, n2, X, L, cp⟩, rfl, rfl, ⟨Rd.of_own YE.out.tail.tail.tail.own, Rd.of_own YE.out.tail.tail.tail.tail.own, QQ.out.1, QQ.out.2.1, QQ.out.2.2.1, QQ.out.2.2.2, (YE.out.pk [2, 7]).rowsR KC.out.1, KC.out.2.2.1, KC.out.2.2.2.1⟩, KC.out.2.2.2.2, KC.out.2.1, YE.out.below⟩
              ·rw [if_neg ha] at hres
               subst hres
               have hb1 : ((at_ : Int) == (s.length : Int)) = false := beq_eq_false_iff_ne.2 (by omega)
               have hb2 : ¬ ((at_ : Int) = (s.length : Int)) := by omega
               clear kh ha
               have nc0 := h.tail.tail.tail.tail.tail.blk.cell 0
               have nc1 := h.tail.tail.tail.tail.tail.blk.cell 1
               have nc2 := h.tail.tail.tail.tail.tail.blk.cell 2
               have nc3 := h.tail.tail.tail.tail.tail.blk.cell 3
               have nc4 := h.tail.tail.tail.tail.tail.blk.cell 4
               have nc5 := h.tail.tail.tail.tail.tail.blk.cell 5
               have nc6 := h.tail.tail.tail.tail.tail.blk.cell 6
               have rc0 := h.tail.tail.tail.tail.blk.cell 0
               have rc1 := h.tail.tail.tail.tail.blk.cell 1
               have rc2 := h.tail.tail.tail.tail.blk.cell 2
               have rc3 := h.tail.tail.tail.tail.blk.cell 3
               have rc4 := h.tail.tail.tail.tail.blk.cell 4
               have rc5 := h.tail.tail.tail.tail.blk.cell 5
               have rc6 := h.tail.tail.tail.tail.blk.cell 6
               have rf0 := h.tail.tail.tail.tail.blk.frozen 0
               have rf1 := h.tail.tail.tail.tail.blk.frozen 1
               have rf2 := h.tail.tail.tail.tail.blk.frozen 2
               have rf3 := h.tail.tail.tail.tail.blk.frozen 3
               have rf4 := h.tail.tail.tail.tail.blk.frozen 4
               have rf5 := h.tail.tail.tail.tail.blk.frozen 5
               have rf6 := h.tail.tail.tail.tail.blk.frozen 6
               have YE := Lib.hid (((((((((h.front 4 (by simp)).set_ 0 (.string ⟨#[]⟩)).set_ 1 (.int .i64 0)).set_ 2 (.string ⟨#[]⟩)).set_ 3 (.int .i64 0)).set_ 4 (.slice none 0 0)).set_ 5 (.slice none 0 0)).set_ 6 (.slice none 0 0)))
               go_wp2
               refine bodyPost_ret (results_ct rfl _ _ _ _ _ _ _ rfl YE.out.blk Tryz.underlying32 rfl size_ck) rfl ?_
               exact dck_bad _ YE.out.below
           ·rw [if_neg hn]
            have hn1 : (1024 : Int) < (N : Int) := by omega
            clear hn l5
            go_enter Tryz.func33, Tryz.ntmps33
            go_wp2_with fail
            refine k1.mono ?_
            rintro e W ⟨rfl, y0⟩
            clear k1 yi
            go_wp2_with fail
            refine (k2 _).mono ?_
            rintro e w1 ⟨rfl, rfl⟩
            clear k2
            go_wp2_with fail
            refine (k3 _).mono ?_
            rintro e w1 ⟨rfl, rfl⟩
            clear k3
            go_wp2_with fail
            refine (k4 _).mono ?_
            rintro e w1 ⟨va, vb, rfl, t1⟩
            obtain ⟨A1, n1, rfl, q1, q2⟩ := own_form t1.own
            obtain ⟨A2, n2, rfl, q3, q4⟩ := own_form t1.tail.own
            have y1 := (y0.join t1).alloc 29 #[.int .i64 (i : Int), .slice A1 C.length n1, .slice A2 T.length n2]
            obtain ⟨p, hp1⟩ : ∃ p, w1.heap.size = p := ⟨_, rfl⟩
            rw [hp1] at y1
            clear t1 k4 y0
            go_wp2_with fail
            refine (k5 _).mono ?_
            rintro e w2 ⟨rfl, rfl⟩
            clear k5
            have nc0 := y1.tail.tail.tail.blk.cell 0
            have nc1 := y1.tail.tail.tail.blk.cell 1
            have nc2 := y1.tail.tail.tail.blk.cell 2
            have nc3 := y1.tail.tail.tail.blk.cell 3
            have nc4 := y1.tail.tail.tail.blk.cell 4
            have nc5 := y1.tail.tail.tail.blk.cell 5
            have nc6 := y1.tail.tail.tail.blk.cell 6
            have rc0 := y1.tail.tail.tail.tail.blk.cell 0
            have rc1 := y1.tail.tail.tail.tail.blk.cell 1
            have rc2 := y1.tail.tail.tail.tail.blk.cell 2
            have rc3 := y1.tail.tail.tail.tail.blk.cell 3
            have rc4 := y1.tail.tail.tail.tail.blk.cell 4
            have rc5 := y1.tail.tail.tail.tail.blk.cell 5
            have rc6 := y1.tail.tail.tail.tail.blk.cell 6
            have rf0 := y1.tail.tail.tail.tail.blk.frozen 0
            have rf1 := y1.tail.tail.tail.tail.blk.frozen 1
            have rf2 := y1.tail.tail.tail.tail.blk.frozen 2
            have rf3 := y1.tail.tail.tail.tail.blk.frozen 3
            have rf4 := y1.tail.tail.tail.tail.blk.frozen 4
            have rf5 := y1.tail.tail.tail.tail.blk.frozen 5
            have rf6 := y1.tail.tail.tail.tail.blk.frozen 6
            have YE := Lib.hid (((((((((y1.front 4 (by simp)).set_ 0 (.string ⟨#[]⟩)).set_ 1 (.int .i64 0)).set_ 2 (.string ⟨#[]⟩)).set_ 3 (.int .i64 0)).set_ 4 (.slice none 0 0)).set_ 5 (.slice none 0 0)).set_ 6 (.slice none 0 0)))
            go_wp2
            refine bodyPost_ret (results_ct rfl _ _ _ _ _ _ _ rfl YE.out.blk Tryz.underlying32 rfl size_ck) rfl ?_
            exact dck_bad _ YE.out.below
end Go.Proofs.YtjjpdnpbhdcpbaaGreat
