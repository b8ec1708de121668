/-
  Checkpoints: whether evidence is accepted, in the reference. Conditions: none.
-/
import Derived.Test.YtjjpdnpbhdcpbaaGreatQCkK
import Derived.Test.YtjjpdnpbhdcpbaaGreatQCkJ
import Derived.Test.YtjjpdnpbhdcpbaaGreatQCkI
import Derived.Test.YtjjpdnpbhdcpbaaGreatQCkH
import Derived.Test.YtjjpdnpbhdcpbaaGreatQCkF
import Derived.Test.YtjjpdnpbhdcpbaaGreatQCkE
import Derived.Test.YtjjpdnpbhdcpbaaGreatQPa
import Derived.Test.YtjjpdnpbhdcpbaaGreatEPa
import Derived.Test.YtjjpdnpbhdcpbaaGreatQBase
import Derived.Test.YtjjpdnpbhdcpbaaGreatQCkC
import Derived.Test.YtjjpdnpbhdcpbaaGreatEPb
import Derived.Test.YtjjpdnpbhdcpbaaGreatQPc
import Derived.Test.YtjjpdnpbhdcpbaaGreatESgP
import Derived.Test.YtjjpdnpbhdcpbaaGreatQCdB
import Derived.Test.YtjjpdnpbhdcpbaaGreatProg
import Derived.Test.YtjjpdnpbhdcpbaaGreatQCdA
import Derived.Laws.DeepNot64
import Derived.Test.YtjjpdnpbhdcpbaaGreatEMkB
import Derived.Test.YtjjpdnpbhdcpbaaGreatQMkB
import Derived.Deep.Strs
import Derived.Maps.OwnSet
import Derived.Test.YtjjpdnpbhdcpbaaGreatQPb
import Derived.Test.YtjjpdnpbhdcpbaaGreatQSgJ
import Derived.Test.YtjjpdnpbhdcpbaaGreatQSgI
import Derived.Test.YtjjpdnpbhdcpbaaGreatQSgH
import Derived.Test.YtjjpdnpbhdcpbaaGreatQSgG
import Derived.Test.YtjjpdnpbhdcpbaaGreatQSgF
import Derived.Test.YtjjpdnpbhdcpbaaGreatQShaB
import Derived.Test.YtjjpdnpbhdcpbaaGreatQShaA
import Derived.Laws.BitsAllLaws
import Derived.BigQuiet
import Derived.BigRegion
import Derived.Deep.RegionHeld3
import Derived.Test.YtjjpdnpbhdcpbaaGreatLayC
import Derived.Test.YtjjpdnpbhdcpbaaGreatLay
import Derived.Laws.CopyRow
import Derived.Laws.IdiomStrings
import Derived.Lib.Bytealg
import Derived.Laws.MakeOwn
import Derived.Test.YtjjpdnpbhdcpbaaGreatLayR
import Derived.Lib.OthersKept
import Derived.Test.YtjjpdnpbhdcpbaaGreatQSgD
import Derived.RangeFuncNested
import Derived.RangeFuncBound
import Derived.RangeFuncCalls
import Derived.RangeFuncLeaves
import Derived.Shelf.Abstract
import Derived.Shelf.RegionOpen
import Derived.OwnWalkIn
import Derived.TacticsInMore
import Derived.LoopNIn
import Derived.LoopIn
import Derived.Lib.FrozenHead2
import Derived.OrdersIn
import Derived.RangeFuncFrom
import Derived.Laws.ResultCell
import Derived.Test.YtjjpdnpbhdcpbaaGreatECkR
import Derived.Test.YtjjpdnpbhdcpbaaGreatQPe
import Derived.Test.YtjjpdnpbhdcpbaaGreatERkX
namespace Go.Proofs.YtjjpdnpbhdcpbaaGreat
set_option linter.unusedVariables false
open Go.RowKit Go.Shelf
attribute [local go_sem] Oper.semAt_some
theorem region_via2 {P : Program} {c : Code} {Q : Exit → Act → World → Prop} {a : Act} {w : World} {α β : Type} (S : α → β → World → Prop) {F : α → β → Act}
 (h : c.wp P (fun e a' w' => e = Exit.normal ∧ ∃ x1 x2, a' = F x1 x2 ∧ S x1 x2 w') a w) (k : ∀ x1 x2 w', S x1 x2 w' → Q Exit.normal (F x1 x2) w') : c.wp P Q a w :=
 Code.wp_mono (fun e a w hr => by obtain ⟨rfl, x1, x2, rfl, hs⟩ := hr; exact k _ _ _ hs) h
set_option maxRecDepth 20000 in
set_option maxHeartbeats 4000000 in
theorem rcheck_spec (pub : Sg.Str) (o1 : Sg.Str) (z1 : Int) (r1 : Sg.Str) (i1 : Int) (A1 : Option Addr) (C1 : List Sg.Str) (a1 : Nat) (B1 : Option Addr) (T1 : List Sg.Str) (b1 : Nat) (X1 : Option Addr) (l1 c1 : Nat) (o2 : Sg.Str) (z2 : Int) (r2 : Sg.Str) (i2 : Int) (A2 : Option Addr) (C2 : List Sg.Str) (a2 : Nat) (B2 : Option Addr) (T2 : List Sg.Str) (b2 : Nat) (X2 : Option Addr) (l2 c2 : Nat) (rt : Sg.Str) (Y : Option Addr) (P : List Sg.Str) (d : Nat) (w : World) (hA1 : Rd w A1 (strs C1)) (hB1 : Rd w B1 (strs T1)) (u1 : C1.length ≤ a1) (v1 : a1 ≤ maxLen) (s1 : T1.length ≤ b1) (t1 : b1 ≤ maxLen) (hA2 : Rd w A2 (strs C2)) (hB2 : Rd w B2 (strs T2)) (u2 : C2.length ≤ a2) (v2 : a2 ≤ maxLen) (s2 : T2.length ≤ b2) (t2 : b2 ≤ maxLen) (hP : Rd w Y (strs P)) (hP1 : P.length ≤ d) (hP2 : d ≤ maxLen) (hP3 : P.length ≤ 4096) :
 Calls Tryz.prog 41 #[.string ⟨pub.toArray⟩, .agg #[.string ⟨o1.toArray⟩, .int .i64 z1, .string ⟨r1.toArray⟩, .int .i64 i1, .slice A1 C1.length a1, .slice B1 T1.length b1, .slice X1 l1 c1, .string ⟨o2.toArray⟩, .int .i64 z2, .string ⟨r2.toArray⟩, .int .i64 i2, .slice A2 C2.length a2, .slice B2 T2.length b2, .slice X2 l2 c2, .string ⟨rt.toArray⟩, .slice Y P.length d]] w fun e w' => e = .returned (.bool (chkB (ckB 4 pub o1 z1 r1 i1 C1 T1) (ckB 4 pub o2 z2 r2 i2 C2 T2) o1 z1 r1 o2 z2 r2 rt P)) ∧ Below w.heap.size w w' := by
 obtain ⟨W0, hW0⟩ : ∃ W0, w.alloc (.cells #[.string ⟨o1.toArray⟩, .int .i64 z1, .string ⟨r1.toArray⟩, .int .i64 i1, .slice A1 C1.length a1, .slice B1 T1.length b1, .slice X1 l1 c1, .string ⟨o2.toArray⟩, .int .i64 z2, .string ⟨r2.toArray⟩, .int .i64 i2, .slice A2 C2.length a2, .slice B2 T2.length b2, .slice X2 l2 c2, .string ⟨rt.toArray⟩, .slice Y P.length d] 70) = W0 := ⟨_, rfl⟩
 have hs0 : W0.heap.size = w.heap.size + 1 := by rw [← hW0]; simp
 have y0 : St w.heap.size w W0 [cellsR w.heap.size 70 #[.string ⟨o1.toArray⟩, .int .i64 z1, .string ⟨r1.toArray⟩, .int .i64 i1, .slice A1 C1.length a1, .slice B1 T1.length b1, .slice X1 l1 c1, .string ⟨o2.toArray⟩, .int .i64 z2, .string ⟨r2.toArray⟩, .int .i64 i2, .slice A2 C2.length a2, .slice B2 T2.length b2, .slice X2 l2 c2, .string ⟨rt.toArray⟩, .slice Y P.length d]] := by
  have := (St.nil w).alloc 70 #[.string ⟨o1.toArray⟩, .int .i64 z1, .string ⟨r1.toArray⟩, .int .i64 i1, .slice A1 C1.length a1, .slice B1 T1.length b1, .slice X1 l1 c1, .string ⟨o2.toArray⟩, .int .i64 z2, .string ⟨r2.toArray⟩, .int .i64 i2, .slice A2 C2.length a2, .slice B2 T2.length b2, .slice X2 l2 c2, .string ⟨rt.toArray⟩, .slice Y P.length d]
  rw [hW0] at this
  exact this
 have hS : ∀ W', Blk W' w.heap.size 70 #[.string ⟨o1.toArray⟩, .int .i64 z1, .string ⟨r1.toArray⟩, .int .i64 i1, .slice A1 C1.length a1, .slice B1 T1.length b1, .slice X1 l1 c1, .string ⟨o2.toArray⟩, .int .i64 z2, .string ⟨r2.toArray⟩, .int .i64 i2, .slice A2 C2.length a2, .slice B2 T2.length b2, .slice X2 l2 c2, .string ⟨rt.toArray⟩, .slice Y P.length d] → (W'.cell? ⟨w.heap.size, 0, none⟩ = some (.string ⟨o1.toArray⟩) ∧ W'.cell? ⟨w.heap.size, 1, none⟩ = some (.int .i64 z1) ∧ W'.cell? ⟨w.heap.size, 2, none⟩ = some (.string ⟨r1.toArray⟩) ∧ W'.cell? ⟨w.heap.size, 7, none⟩ = some (.string ⟨o2.toArray⟩) ∧ W'.cell? ⟨w.heap.size, 8, none⟩ = some (.int .i64 z2) ∧ W'.cell? ⟨w.heap.size, 9, none⟩ = some (.string ⟨r2.toArray⟩)) := fun W' hb => ⟨hb.cell 0, hb.cell 1, hb.cell 2, hb.cell 7, hb.cell 8, hb.cell 9⟩
 unfold chkB
 generalize hv2 : ckB 4 pub o2 z2 r2 i2 C2 T2 = vb
 generalize hv1 : ckB 4 pub o1 z1 r1 i1 C1 T1 = va
 generalize ho : (o1 == o2) = oe
 generalize hz1 : decide (z1 ≤ z2) = ze
 generalize hxx : extB z1 z2 rt r2 P = xx
 generalize hr : (rt == r1) = re
 go_enter Tryz.func41, Tryz.ntmps41
 go_wp2_with fail
 apply region_via2 (fun (pa pb : Nat) w' => St w.heap.size w w' [cellsR pa 25 #[.string ⟨o1.toArray⟩, .int .i64 z1, .string ⟨r1.toArray⟩], cellsR pb 25 #[.string ⟨o2.toArray⟩, .int .i64 z2, .string ⟨r2.toArray⟩], cellsR w.heap.size 70 #[.string ⟨o1.toArray⟩, .int .i64 z1, .string ⟨r1.toArray⟩, .int .i64 i1, .slice A1 C1.length a1, .slice B1 T1.length b1, .slice X1 l1 c1, .string ⟨o2.toArray⟩, .int .i64 z2, .string ⟨r2.toArray⟩, .int .i64 i2, .slice A2 C2.length a2, .slice B2 T2.length b2, .slice X2 l2 c2, .string ⟨rt.toArray⟩, .slice Y P.length d]])
 case h =>
  have sf0 := hS _ (y0.drew).blk
  have sf2 := hS _ ((y0.alloc 25 #[.string ⟨#[]⟩, .int .i64 0, .string ⟨#[]⟩]).drew.tail).blk
  have sf3 := hS _ ((y0.drew.alloc 25 #[.string ⟨#[]⟩, .int .i64 0, .string ⟨#[]⟩]).tail).blk
  have sf4 := hS _ ((y0.alloc 25 #[.string ⟨o1.toArray⟩, .int .i64 z1, .string ⟨r1.toArray⟩]).drew.tail).blk
  have sf5 := hS _ ((y0.drew.alloc 25 #[.string ⟨o1.toArray⟩, .int .i64 z1, .string ⟨r1.toArray⟩]).tail).blk
  have sf6 := hS _ ((y0.alloc 25 #[.string ⟨#[]⟩, .int .i64 0, .string ⟨#[]⟩]).drew.tail).blk
  have sf7 := hS _ ((y0.drew.alloc 25 #[.string ⟨#[]⟩, .int .i64 0, .string ⟨#[]⟩]).tail).blk
  have sf8 := hS _ ((y0.alloc 25 #[.string ⟨o2.toArray⟩, .int .i64 z2, .string ⟨r2.toArray⟩]).drew.tail).blk
  have sf9 := hS _ ((y0.drew.alloc 25 #[.string ⟨o2.toArray⟩, .int .i64 z2, .string ⟨r2.toArray⟩]).tail).blk
  have sf10 := hS _ (((y0.alloc 25 #[.string ⟨#[]⟩, .int .i64 0, .string ⟨#[]⟩]).alloc 25 #[.string ⟨#[]⟩, .int .i64 0, .string ⟨#[]⟩]).drew.tail.tail).blk
  have sf11 := hS _ (((y0.drew.alloc 25 #[.string ⟨#[]⟩, .int .i64 0, .string ⟨#[]⟩]).alloc 25 #[.string ⟨#[]⟩, .int .i64 0, .string ⟨#[]⟩]).tail.tail).blk
  have sf12 := hS _ (((y0.alloc 25 #[.string ⟨o1.toArray⟩, .int .i64 z1, .string ⟨r1.toArray⟩]).alloc 25 #[.string ⟨#[]⟩, .int .i64 0, .string ⟨#[]⟩]).drew.tail.tail).blk
  have sf13 := hS _ (((y0.drew.alloc 25 #[.string ⟨o1.toArray⟩, .int .i64 z1, .string ⟨r1.toArray⟩]).alloc 25 #[.string ⟨#[]⟩, .int .i64 0, .string ⟨#[]⟩]).tail.tail).blk
  have sf14 := hS _ (((y0.alloc 25 #[.string ⟨#[]⟩, .int .i64 0, .string ⟨#[]⟩]).alloc 25 #[.string ⟨o2.toArray⟩, .int .i64 z2, .string ⟨r2.toArray⟩]).drew.tail.tail).blk
  have sf15 := hS _ (((y0.drew.alloc 25 #[.string ⟨#[]⟩, .int .i64 0, .string ⟨#[]⟩]).alloc 25 #[.string ⟨o2.toArray⟩, .int .i64 z2, .string ⟨r2.toArray⟩]).tail.tail).blk
  have sf16 := hS _ (((y0.alloc 25 #[.string ⟨o1.toArray⟩, .int .i64 z1, .string ⟨r1.toArray⟩]).alloc 25 #[.string ⟨o2.toArray⟩, .int .i64 z2, .string ⟨r2.toArray⟩]).drew.tail.tail).blk
  have sf17 := hS _ (((y0.drew.alloc 25 #[.string ⟨o1.toArray⟩, .int .i64 z1, .string ⟨r1.toArray⟩]).alloc 25 #[.string ⟨o2.toArray⟩, .int .i64 z2, .string ⟨r2.toArray⟩]).tail.tail).blk
  have sf18 := hS _ (((y0.alloc 25 #[.string ⟨#[]⟩, .int .i64 0, .string ⟨#[]⟩]).alloc 25 #[.string ⟨#[]⟩, .int .i64 0, .string ⟨#[]⟩]).drew.tail.tail).blk
  have sf19 := hS _ (((y0.drew.alloc 25 #[.string ⟨#[]⟩, .int .i64 0, .string ⟨#[]⟩]).alloc 25 #[.string ⟨#[]⟩, .int .i64 0, .string ⟨#[]⟩]).tail.tail).blk
  have sf20 := hS _ (((y0.alloc 25 #[.string ⟨o2.toArray⟩, .int .i64 z2, .string ⟨r2.toArray⟩]).alloc 25 #[.string ⟨#[]⟩, .int .i64 0, .string ⟨#[]⟩]).drew.tail.tail).blk
  have sf21 := hS _ (((y0.drew.alloc 25 #[.string ⟨o2.toArray⟩, .int .i64 z2, .string ⟨r2.toArray⟩]).alloc 25 #[.string ⟨#[]⟩, .int .i64 0, .string ⟨#[]⟩]).tail.tail).blk
  have sf22 := hS _ (((y0.alloc 25 #[.string ⟨#[]⟩, .int .i64 0, .string ⟨#[]⟩]).alloc 25 #[.string ⟨o1.toArray⟩, .int .i64 z1, .string ⟨r1.toArray⟩]).drew.tail.tail).blk
  have sf23 := hS _ (((y0.drew.alloc 25 #[.string ⟨#[]⟩, .int .i64 0, .string ⟨#[]⟩]).alloc 25 #[.string ⟨o1.toArray⟩, .int .i64 z1, .string ⟨r1.toArray⟩]).tail.tail).blk
  have sf24 := hS _ (((y0.alloc 25 #[.string ⟨o2.toArray⟩, .int .i64 z2, .string ⟨r2.toArray⟩]).alloc 25 #[.string ⟨o1.toArray⟩, .int .i64 z1, .string ⟨r1.toArray⟩]).drew.tail.tail).blk
  have sf25 := hS _ (((y0.drew.alloc 25 #[.string ⟨o2.toArray⟩, .int .i64 z2, .string ⟨r2.toArray⟩]).alloc 25 #[.string ⟨o1.toArray⟩, .int .i64 z1, .string ⟨r1.toArray⟩]).tail.tail).blk
  refine wp_region_noPanic ?_
  refine wp_region_held_drew (S := (fun W' => W'.cell? ⟨w.heap.size, 0, none⟩ = some (.string ⟨o1.toArray⟩) ∧ W'.cell? ⟨w.heap.size, 1, none⟩ = some (.int .i64 z1) ∧ W'.cell? ⟨w.heap.size, 2, none⟩ = some (.string ⟨r1.toArray⟩) ∧ W'.cell? ⟨w.heap.size, 7, none⟩ = some (.string ⟨o2.toArray⟩) ∧ W'.cell? ⟨w.heap.size, 8, none⟩ = some (.int .i64 z2) ∧ W'.cell? ⟨w.heap.size, 9, none⟩ = some (.string ⟨r2.toArray⟩))) (by kernel_rfl) ?_ (fun hH0 => ?_)
  ·with_reducible exact sf0
  refine tk 0 7 hH0 ?_
  refine tk 1 8 hH0 ?_
  refine tk 2 9 hH0 ?_
  refine tk 3 10 hH0 ?_
  refine tk 4 11 hH0 ?_
  refine tk 5 12 hH0 ?_
  refine rdy [6, 7] ?_
  refine ad 5 (fun K hK => ?_) ?_
  go_simp
  refine hK.out _ _ (by with_reducible exact sf2) fun hH1 => ?_
  clear hK K hH0
  try simp only [pu]
  refine rdy [7] ?_
  refine an 6 fun K hK => ?_
  go_simp
  refine hK.out _ _ (by with_reducible exact sf10) fun hH2 => ?_
  clear hK K hH1
  try simp only [pu]
  refine rdy [8] ?_
  refine az fun K hK => ?_
  go_simp
  refine hK.out _ _ (by with_reducible exact sf12) fun hH3 => ?_
  clear hK K hH2
  try simp only [pu]
  refine rdy [9] ?_
  refine az fun K hK => ?_
  go_simp
  refine hK.out _ _ (by with_reducible exact sf16) fun hH4 => ?_
  clear hK K hH3
  try simp only [pu]
  refine dn ?_ _
  rotate_left 1
  refine an 6 fun K hK => ?_
  go_simp
  refine hK.out _ _ (by with_reducible exact sf2) fun hH5 => ?_
  clear hK K hH0
  try simp only [pu]
  refine rdy [6] ?_
  refine an 5 fun K hK => ?_
  go_simp
  refine hK.out _ _ (by with_reducible exact sf10) fun hH6 => ?_
  clear hK K hH5
  try simp only [pu]
  refine rdy [8] ?_
  refine az fun K hK => ?_
  go_simp
  refine hK.out _ _ (by with_reducible exact sf22) fun hH7 => ?_
  clear hK K hH6
  try simp only [pu]
  refine rdy [9] ?_
  refine az fun K hK => ?_
  go_simp
  refine hK.out _ _ (by with_reducible exact sf24) fun hH8 => ?_
  clear hK K hH7
  try simp only [pu]
  refine dn ?_ _
  all_goals (refine NoPanic.normal ?_)
  all_goals
   first
    | (have yF := ((y0.alloc 25 #[.string ⟨o1.toArray⟩, .int .i64 z1, .string ⟨r1.toArray⟩]).alloc 25 #[.string ⟨o2.toArray⟩, .int .i64 z2, .string ⟨r2.toArray⟩]).drew.pk [1, 0, 2]
       try simp only [World.size_alloc] at yF
       try simp only [World.size_drew] at yF
       try rw [hs0] at yF
       obtain ⟨pb, hq2⟩ : ∃ q, w.heap.size + 1 + 1 = q := ⟨_, rfl⟩
       rw [hq2] at yF ⊢
       obtain ⟨pa, hq1⟩ : ∃ q, w.heap.size + 1 = q := ⟨_, rfl⟩
       rw [hq1] at yF ⊢
       exact ⟨rfl, pa, pb, rfl, yF⟩)
    | (have yF := ((y0.drew.alloc 25 #[.string ⟨o1.toArray⟩, .int .i64 z1, .string ⟨r1.toArray⟩]).alloc 25 #[.string ⟨o2.toArray⟩, .int .i64 z2, .string ⟨r2.toArray⟩]).pk [1, 0, 2]
       try simp only [World.size_alloc] at yF
       try simp only [World.size_drew] at yF
       try rw [hs0] at yF
       obtain ⟨pb, hq2⟩ : ∃ q, w.heap.size + 1 + 1 = q := ⟨_, rfl⟩
       rw [hq2] at yF ⊢
       obtain ⟨pa, hq1⟩ : ∃ q, w.heap.size + 1 = q := ⟨_, rfl⟩
       rw [hq1] at yF ⊢
       exact ⟨rfl, pa, pb, rfl, yF⟩)
    | (have yF := ((y0.alloc 25 #[.string ⟨o2.toArray⟩, .int .i64 z2, .string ⟨r2.toArray⟩]).alloc 25 #[.string ⟨o1.toArray⟩, .int .i64 z1, .string ⟨r1.toArray⟩]).drew.pk [0, 1, 2]
       try simp only [World.size_alloc] at yF
       try simp only [World.size_drew] at yF
       try rw [hs0] at yF
       obtain ⟨pa, hq2⟩ : ∃ q, w.heap.size + 1 + 1 = q := ⟨_, rfl⟩
       rw [hq2] at yF ⊢
       obtain ⟨pb, hq1⟩ : ∃ q, w.heap.size + 1 = q := ⟨_, rfl⟩
       rw [hq1] at yF ⊢
       exact ⟨rfl, pa, pb, rfl, yF⟩)
    | (have yF := ((y0.drew.alloc 25 #[.string ⟨o2.toArray⟩, .int .i64 z2, .string ⟨r2.toArray⟩]).alloc 25 #[.string ⟨o1.toArray⟩, .int .i64 z1, .string ⟨r1.toArray⟩]).pk [0, 1, 2]
       try simp only [World.size_alloc] at yF
       try simp only [World.size_drew] at yF
       try rw [hs0] at yF
       obtain ⟨pa, hq2⟩ : ∃ q, w.heap.size + 1 + 1 = q := ⟨_, rfl⟩
       rw [hq2] at yF ⊢
       obtain ⟨pb, hq1⟩ : ∃ q, w.heap.size + 1 = q := ⟨_, rfl⟩
       rw [hq1] at yF ⊢
       exact ⟨rfl, pa, pb, rfl, yF⟩)
 case k =>
  rintro pa pb w1 y1
  clear y0 hS hW0 hs0
  have Y1 := Lib.hid y1
  have q0 := y1.tail.tail.blk.cell 0
  have q1 := y1.tail.tail.blk.cell 1
  have q2 := y1.tail.tail.blk.cell 2
  have q3 := y1.tail.tail.blk.cell 3
  have q4 := y1.tail.tail.blk.cell 4
  have q5 := y1.tail.tail.blk.cell 5
  have q6 := y1.tail.tail.blk.cell 6
  have q7 := y1.tail.tail.blk.cell 7
  have q8 := y1.tail.tail.blk.cell 8
  have q9 := y1.tail.tail.blk.cell 9
  have q10 := y1.tail.tail.blk.cell 10
  have q11 := y1.tail.tail.blk.cell 11
  have q12 := y1.tail.tail.blk.cell 12
  have q13 := y1.tail.tail.blk.cell 13
  have q14 := y1.tail.tail.blk.cell 14
  have q15 := y1.tail.tail.blk.cell 15
  clear y1
  have kA := rckverify_spec pub o1 z1 r1 i1 C1 T1 A1 B1 X1 a1 b1 l1 c1 w1 (hA1.below Y1.out.below) (hB1.below Y1.out.below) u1 v1 s1 t1
  rw [hv1] at kA
  go_wp2_with fail
  refine kA.mono ?_
  rintro e w2 ⟨rfl, e_w2⟩
  have y2 := Y1.out.under e_w2
  have Y2 := Lib.hid y2
  clear kA e_w2 q0 q1 q2 q3 q4 q5 q6 q7 q8 q9 q10 q11 q12 q13 q14 q15
  cases va with
  | false =>
    clear y2
    go_wp2
    go_ret
    refine ⟨?_, Y2.out.below⟩
    first | rfl | (cases re <;> rfl)
  | true =>
    have kB := rckverify_spec pub o2 z2 r2 i2 C2 T2 A2 B2 X2 a2 b2 l2 c2 w2 (hA2.below Y2.out.below) (hB2.below Y2.out.below) u2 v2 s2 t2
    rw [hv2] at kB
    have q0 := y2.tail.tail.blk.cell 0
    have q1 := y2.tail.tail.blk.cell 1
    have q2 := y2.tail.tail.blk.cell 2
    have q3 := y2.tail.tail.blk.cell 3
    have q4 := y2.tail.tail.blk.cell 4
    have q5 := y2.tail.tail.blk.cell 5
    have q6 := y2.tail.tail.blk.cell 6
    have q7 := y2.tail.tail.blk.cell 7
    have q8 := y2.tail.tail.blk.cell 8
    have q9 := y2.tail.tail.blk.cell 9
    have q10 := y2.tail.tail.blk.cell 10
    have q11 := y2.tail.tail.blk.cell 11
    have q12 := y2.tail.tail.blk.cell 12
    have q13 := y2.tail.tail.blk.cell 13
    have q14 := y2.tail.tail.blk.cell 14
    have q15 := y2.tail.tail.blk.cell 15
    clear y2
    go_wp2_with fail
    refine kB.mono ?_
    rintro e w3 ⟨rfl, e_w3⟩
    have y3 := Y2.out.under e_w3
    have Y3 := Lib.hid y3
    clear kB e_w3 q0 q1 q2 q3 q4 q5 q6 q7 q8 q9 q10 q11 q12 q13 q14 q15
    cases vb with
    | false =>
      clear y3
      go_wp2
      go_ret
      refine ⟨?_, Y3.out.below⟩
      first | rfl | (cases re <;> rfl)
    | true =>
      have ha0 := y3.blk.cell 0
      have ha1 := y3.blk.cell 1
      have ha2 := y3.blk.cell 2
      have hb0 := y3.tail.blk.cell 0
      have hb1 := y3.tail.blk.cell 1
      have hb2 := y3.tail.blk.cell 2
      have q0 := y3.tail.tail.blk.cell 0
      have q1 := y3.tail.tail.blk.cell 1
      have q2 := y3.tail.tail.blk.cell 2
      have q3 := y3.tail.tail.blk.cell 3
      have q4 := y3.tail.tail.blk.cell 4
      have q5 := y3.tail.tail.blk.cell 5
      have q6 := y3.tail.tail.blk.cell 6
      have q7 := y3.tail.tail.blk.cell 7
      have q8 := y3.tail.tail.blk.cell 8
      have q9 := y3.tail.tail.blk.cell 9
      have q10 := y3.tail.tail.blk.cell 10
      have q11 := y3.tail.tail.blk.cell 11
      have q12 := y3.tail.tail.blk.cell 12
      have q13 := y3.tail.tail.blk.cell 13
      have q14 := y3.tail.tail.blk.cell 14
      have q15 := y3.tail.tail.blk.cell 15
      clear y3
      cases oe with
      | false =>
        go_wp2
        go_ret
        refine ⟨?_, Y3.out.below⟩
        first | rfl | (cases re <;> rfl)
      | true =>
        cases ze with
        | false =>
          have hz : ¬ z1 ≤ z2 := of_decide_eq_false hz1
          have hz' : z2 < z1 := by omega
          go_wp2
          go_ret
          refine ⟨?_, Y3.out.below⟩
          first | rfl | (cases re <;> rfl)
        | true =>
          have hz : z1 ≤ z2 := of_decide_eq_true hz1
          have hz' : ¬ z2 < z1 := by omega
          have kx := rextends_spec z1 z2 rt r2 Y P d w3 (hP.below Y3.out.below) hP1 hP2 hP3
          rw [hxx] at kx
          go_wp2_with fail
          refine kx.mono ?_
          rintro e w4 ⟨rfl, e4⟩
          have y4 := Y3.out.under e4
          have Y4 := Lib.hid y4
          clear kx e4 q0 q1 q2 q3 q4 q5 q6 q7 q8 q9 q10 q11 q12 q13 q14 q15 ha0 ha1 ha2 hb0 hb1 hb2
          have ha0 := y4.blk.cell 0
          have ha1 := y4.blk.cell 1
          have ha2 := y4.blk.cell 2
          have q0 := y4.tail.tail.blk.cell 0
          have q1 := y4.tail.tail.blk.cell 1
          have q2 := y4.tail.tail.blk.cell 2
          have q3 := y4.tail.tail.blk.cell 3
          have q4 := y4.tail.tail.blk.cell 4
          have q5 := y4.tail.tail.blk.cell 5
          have q6 := y4.tail.tail.blk.cell 6
          have q7 := y4.tail.tail.blk.cell 7
          have q8 := y4.tail.tail.blk.cell 8
          have q9 := y4.tail.tail.blk.cell 9
          have q10 := y4.tail.tail.blk.cell 10
          have q11 := y4.tail.tail.blk.cell 11
          have q12 := y4.tail.tail.blk.cell 12
          have q13 := y4.tail.tail.blk.cell 13
          have q14 := y4.tail.tail.blk.cell 14
          have q15 := y4.tail.tail.blk.cell 15
          clear y4
          cases xx with
          | false =>
            go_wp2
            go_ret
            refine ⟨?_, Y4.out.below⟩
            first | rfl | (cases re <;> rfl)
          | true =>
            cases re with
            | false =>
              have hr' : (rt != r1) = true := by rw [bne, hr]; rfl
              go_wp2
              go_ret
              refine ⟨?_, Y4.out.below⟩
              first | rfl | (cases re <;> rfl)
            | true =>
              have hr' : (rt != r1) = false := by rw [bne, hr]; rfl
              go_wp2
              go_ret
              refine ⟨?_, Y4.out.below⟩
              first | rfl | (cases re <;> rfl)
end Go.Proofs.YtjjpdnpbhdcpbaaGreat
