/- Lemmas and contracts on what the walks need, several small texts in one. Conditions: as each theorem states. -/
import Derived.Test.YtjjpdnpbhdcpbaaGreatQCkE
import Derived.Test.YtjjpdnpbhdcpbaaGreatSCkD
import Derived.Test.YtjjpdnpbhdcpbaaGreatQPe
import Derived.Test.YtjjpdnpbhdcpbaaGreatQCkO
import Derived.Test.YtjjpdnpbhdcpbaaGreatQPd
import Derived.Test.YtjjpdnpbhdcpbaaGreatQCkL
import Derived.Test.YtjjpdnpbhdcpbaaGreatQCkK
import Derived.Test.YtjjpdnpbhdcpbaaGreatQCkJ
import Derived.Test.YtjjpdnpbhdcpbaaGreatQCkI
import Derived.Test.YtjjpdnpbhdcpbaaGreatQCkH
import Derived.Test.YtjjpdnpbhdcpbaaGreatQCkF
import Derived.Test.YtjjpdnpbhdcpbaaGreatQPa
import Derived.Test.YtjjpdnpbhdcpbaaGreatSPa
import Derived.Deep.Strs
import Derived.Test.YtjjpdnpbhdcpbaaGreatQBase
import Derived.WalkKit
import Derived.WalkSpells
import Derived.WalkLawsBesides
import Derived.Lib.Hide
import Derived.RegionTactic
import Derived.Deep.Draws
import Derived.Deep.QuietTactic
import Derived.BigQuiet
import Derived.Deep.LoopGhost
import Derived.Deep.DeepFit
import Derived.Deep.DeepCutAuto
import Derived.Maps.AppendAt
import Derived.Deep.RegionHeld3
import Derived.Deep.MidRow
import Derived.Deep.AppendLies
import Derived.Test.YtjjpdnpbhdcpbaaGreatProg
import Derived.Maps.OwnSet
import Derived.Test.YtjjpdnpbhdcpbaaGreatQPb
import Derived.Test.YtjjpdnpbhdcpbaaGreatQSgJ
import Derived.Test.YtjjpdnpbhdcpbaaGreatQSgI
import Derived.Test.YtjjpdnpbhdcpbaaGreatQSgH
import Derived.Test.YtjjpdnpbhdcpbaaGreatQSgG
import Derived.Test.YtjjpdnpbhdcpbaaGreatQSgF
import Derived.Test.YtjjpdnpbhdcpbaaGreatQCdA
import Derived.Test.YtjjpdnpbhdcpbaaGreatQMkB
import Derived.Test.YtjjpdnpbhdcpbaaGreatQShaB
import Derived.Test.YtjjpdnpbhdcpbaaGreatQShaA
import Derived.Laws.BitsAllLaws
import Derived.BigRegion
import Derived.Test.YtjjpdnpbhdcpbaaGreatLayC
import Derived.Test.YtjjpdnpbhdcpbaaGreatLay
import Derived.Laws.CopyRow
import Derived.Laws.IdiomStrings
import Derived.Lib.Bytealg
import Derived.Laws.MakeOwn
import Derived.Test.YtjjpdnpbhdcpbaaGreatLayR
import Derived.Lib.OthersKept
import Derived.Test.YtjjpdnpbhdcpbaaGreatQSgD
import Derived.RangeFuncNested
import Derived.RangeFuncBound
import Derived.RangeFuncCalls
import Derived.RangeFuncLeaves
import Derived.Shelf.Abstract
import Derived.Shelf.RegionOpen
import Derived.OwnWalkIn
import Derived.TacticsInMore
import Derived.LoopNIn
import Derived.LoopIn
import Derived.Lib.FrozenHead2
import Derived.OrdersIn
import Derived.RangeFuncFrom
import Derived.Laws.ResultCell
import Derived.Test.YtjjpdnpbhdcpbaaGreatQCdB
import Derived.Laws.DeepNot64
import Derived.Test.YtjjpdnpbhdcpbaaGreatQPc
import Derived.Deep.RegionLaw
namespace Go.Proofs.YtjjpdnpbhdcpbaaGreat
set_option linter.unusedVariables false
open Go.RowKit Go.Shelf
attribute [local go_sem] Oper.semAt_some
set_option maxRecDepth 20000 in
set_option maxHeartbeats 4000000 in
theorem rckrot_spec (seed : Sg.Str) (h n : Int) (pub : Sg.Str) (w : World) :
 Calls Tryz.prog 17 #[.agg #[.string ⟨seed.toArray⟩, .int .i64 h, .int .i64 n], .string ⟨pub.toArray⟩] w (RtP (ckRtR seed h n pub) w) := by
 obtain ⟨W0, hW0⟩ : ∃ W0, w.alloc (.cells #[.string ⟨seed.toArray⟩, .int .i64 h, .int .i64 n] 23) = W0 := ⟨_, rfl⟩
 have hs0 : W0.heap.size = w.heap.size + 1 := by rw [← hW0]; simp
 obtain ⟨W1, hW1⟩ : ∃ W1, W0.alloc (.cells #[.string ⟨#[]⟩, .int .i64 0, .slice none 0 0, .slice none 0 0] 41) = W1 := ⟨_, rfl⟩
 have hs1 : W1.heap.size = w.heap.size + 1 + 1 := by rw [← hW1]; simp [hs0]
 obtain ⟨W, hW⟩ : ∃ W, W1.alloc (.cells #[.string ⟨#[]⟩, .int .i64 0, .int .i64 0] 23) = W := ⟨_, rfl⟩
 have y0 : St w.heap.size w W [cellsR (w.heap.size + 1 + 1) 23 #[.string ⟨#[]⟩, .int .i64 0, .int .i64 0], cellsR (w.heap.size + 1) 41 #[.string ⟨#[]⟩, .int .i64 0, .slice none 0 0, .slice none 0 0], cellsR (w.heap.size) 23 #[.string ⟨seed.toArray⟩, .int .i64 h, .int .i64 n]] := by
  have := (((St.nil w).alloc 23 #[.string ⟨seed.toArray⟩, .int .i64 h, .int .i64 n]).alloc 41 #[.string ⟨#[]⟩, .int .i64 0, .slice none 0 0, .slice none 0 0]).alloc 23 #[.string ⟨#[]⟩, .int .i64 0, .int .i64 0]
  rw [hW0, hW1, hW, hs0, hs1] at this
  exact this
 have kp := fun W' => vpub_spec pub W'
 unfold ckRtR
 cases hh : vpB pub with
 | false =>
   rw [hh] at kp
   rw [if_neg (by decide)]
   clear hh
   have cc0 := y0.tail.blk.cell 0
   have cc1 := y0.tail.blk.cell 1
   have cc2 := y0.tail.blk.cell 2
   have cc3 := y0.tail.blk.cell 3
   have cf0 := y0.tail.blk.frozen 0
   have cf1 := y0.tail.blk.frozen 1
   have cf2 := y0.tail.blk.frozen 2
   have cf3 := y0.tail.blk.frozen 3
   have zc0 := y0.blk.cell 0
   have zc1 := y0.blk.cell 1
   have zc2 := y0.blk.cell 2
   have zf0 := y0.blk.frozen 0
   have zf1 := y0.blk.frozen 1
   have zf2 := y0.blk.frozen 2
   have YE := Lib.hid ((((((((y0.swap.set_ 0 (.string ⟨#[]⟩)).set_ 1 (.int .i64 0)).set_ 2 (.slice none 0 0)).set_ 3 (.slice none 0 0)).swap).set_ 0 (.string ⟨#[]⟩)).set_ 1 (.int .i64 0)).set_ 2 (.int .i64 0))
   clear y0
   go_enter Tryz.func17, Tryz.ntmps17
   go_wp2_with fail
   refine (kp _).mono ?_
   rintro e w1 ⟨rfl, rfl⟩
   go_wp2
   refine bodyPost_ret (results_cct rfl _ _ _ _ _ _ _ _ _ _ _ _ rfl YE.out.tail.blk Tryz.underlying41 rfl size_rot rfl YE.out.blk Tryz.underlying23 rfl size_key) rfl ?_
   exact rtP_bad 1 YE.out.tail.tail.tail
 | true =>
   rw [hh] at kp
   rw [if_pos rfl]
   have hl := vpB_len hh
   have ks := fun W' => rsign_spec seed (6 :: pub) h n W' (by rw [List.length_cons]; omega)
   have g1 := cons_bytes 6 pub
   obtain ⟨f1, f2⟩ := sg_cat [6] pub (by rw [List.length_singleton]; omega)
   rw [List.length_singleton] at f1 f2
   obtain ⟨x, hx⟩ : ∃ x, signR seed h n (Sg.dgs (6 :: pub)) = x := ⟨_, rfl⟩
   rw [hx] at ks ⊢
   obtain ⟨⟨i, C, T⟩, ⟨seed', h', n'⟩, er⟩ := x
   unfold SgP keyA at ks
   dsimp only at ks ⊢
   clear hh hx hl
   generalize hres : ite (er = 0) _ _ = res
   have HR := Lib.hid hres
   clear hres
   have kc0 := y0.tail.tail.blk.cell 0
   have kc1 := y0.tail.tail.blk.cell 1
   have kc2 := y0.tail.tail.blk.cell 2
   have Y := Lib.hid y0
   clear y0
   go_enter Tryz.func17, Tryz.ntmps17
   go_wp2_with fail
   refine (kp _).mono ?_
   rintro e w1 ⟨rfl, rfl⟩
   go_wp2_with fail
   refine (ks _).mono ?_
   rintro e w2 ⟨ua, ub, rfl, t2⟩
   obtain ⟨A1, n1, rfl, _, _⟩ := own_form t2.own
   obtain ⟨A2, n2, rfl, _, _⟩ := own_form t2.tail.own
   have y2 := Y.out.join t2
   have y3 := (y2.alloc 29 #[.int .i64 i, .slice A1 C.length n1, .slice A2 T.length n2]).alloc 23 #[.string ⟨seed'.toArray⟩, .int .i64 h', .int .i64 n']
   rw [World.size_alloc] at y3
   obtain ⟨p, hp⟩ : ∃ p, w2.heap.size = p := ⟨_, rfl⟩
   rw [hp] at y3
   have Y3 := Lib.hid y3
   have YB := Lib.hid y2
   clear Y y2 y3 t2 kp ks kc0 kc1 kc2 hW hW0 hW1 hs0 hs1
   by_cases her : er = 0
   ·subst her
    have hres := HR.out
    rw [if_pos rfl] at hres
    clear YB
    go_wp2_with fail
    obtain ⟨W6, hW6⟩ : ∃ W6, (w2.alloc (.cells #[.int .i64 i, .slice A1 C.length n1, .slice A2 T.length n2] 29)).alloc (.cells #[.string ⟨seed'.toArray⟩, .int .i64 h', .int .i64 n'] 23) = W6 := ⟨_, rfl⟩
    have y6 : St w.heap.size w W6 [cellsR (p + 1) 23 #[.string ⟨seed'.toArray⟩, .int .i64 h', .int .i64 n'], cellsR (p) 29 #[.int .i64 i, .slice A1 C.length n1, .slice A2 T.length n2], ownR 9 1 (.slice A1 C.length n1) C.length (strs C), ownR 9 1 (.slice A2 T.length n2) T.length (strs T), cellsR (w.heap.size + 1 + 1) 23 #[.string ⟨#[]⟩, .int .i64 0, .int .i64 0], cellsR (w.heap.size + 1) 41 #[.string ⟨#[]⟩, .int .i64 0, .slice none 0 0, .slice none 0 0], cellsR (w.heap.size) 23 #[.string ⟨seed.toArray⟩, .int .i64 h, .int .i64 n]] := by
     rw [← hW6]
     exact Y3.out
    rw [hW6]
    have y7 := y6.pk [5, 4, 1, 0, 2, 3, 6]
    have hT : ∀ W' R0 R1 R2 R3 R4, St w.heap.size w W' [R0, R1, cellsR (p) 29 #[.int .i64 i, .slice A1 C.length n1, .slice A2 T.length n2], cellsR (p + 1) 23 #[.string ⟨seed'.toArray⟩, .int .i64 h', .int .i64 n'], R2, R3, R4] → (W'.cell? ⟨p, 0, none⟩ = some (.int .i64 i) ∧ W'.cell? ⟨p, 1, none⟩ = some (.slice A1 C.length n1) ∧ W'.cell? ⟨p, 2, none⟩ = some (.slice A2 T.length n2) ∧ W'.cell? ⟨p + 1, 0, none⟩ = some (.string ⟨seed'.toArray⟩) ∧ W'.cell? ⟨p + 1, 1, none⟩ = some (.int .i64 h') ∧ W'.cell? ⟨p + 1, 2, none⟩ = some (.int .i64 n')) := fun W' R0 R1 R2 R3 R4 hh => ⟨hh.tail.tail.blk.cell 0, hh.tail.tail.blk.cell 1, hh.tail.tail.blk.cell 2, hh.tail.tail.tail.blk.cell 0, hh.tail.tail.tail.blk.cell 1, hh.tail.tail.tail.blk.cell 2⟩
    have yC := ((((y7.set_ 0 (.string ⟨pub.toArray⟩)).set_ 1 (.int .i64 i)).set_ 2 (.slice A1 C.length n1)).set_ 3 (.slice A2 T.length n2))
    have yZ := (((yC.swap.set_ 0 (.string ⟨seed'.toArray⟩)).set_ 1 (.int .i64 h')).set_ 2 (.int .i64 n'))
    have s0 := hT _ _ _ _ _ _ y7.drew
    have s1 := hT _ _ _ _ _ _ yC.drew
    have s2 := hT _ _ _ _ _ _ yZ.swap.drew
    have cc0 := y7.blk.cell 0
    have cc1 := y7.blk.cell 1
    have cc2 := y7.blk.cell 2
    have cc3 := y7.blk.cell 3
    have cf0 := y7.blk.frozen 0
    have cf1 := y7.blk.frozen 1
    have cf2 := y7.blk.frozen 2
    have cf3 := y7.blk.frozen 3
    have zc0 := y7.tail.blk.cell 0
    have zc1 := y7.tail.blk.cell 1
    have zc2 := y7.tail.blk.cell 2
    have zf0 := y7.tail.blk.frozen 0
    have zf1 := y7.tail.blk.frozen 1
    have zf2 := y7.tail.blk.frozen 2
    have YZ := Lib.hid yZ.drew
    clear y6 y7 yC yZ Y3 hW6
    refine wp_region_noPanic ?_
    refine wp_region_held_drew (S := (fun W' => W'.cell? ⟨p, 0, none⟩ = some (.int .i64 i) ∧ W'.cell? ⟨p, 1, none⟩ = some (.slice A1 C.length n1) ∧ W'.cell? ⟨p, 2, none⟩ = some (.slice A2 T.length n2) ∧ W'.cell? ⟨p + 1, 0, none⟩ = some (.string ⟨seed'.toArray⟩) ∧ W'.cell? ⟨p + 1, 1, none⟩ = some (.int .i64 h') ∧ W'.cell? ⟨p + 1, 2, none⟩ = some (.int .i64 n'))) (by kernel_rfl) ?_ (fun hH0 => ?_)
    ·with_reducible exact s0
    refine tk 0 28 hH0 ?_
    refine tk 1 29 hH0 ?_
    refine tk 2 30 hH0 ?_
    refine tk 3 31 hH0 ?_
    refine rdy [4] ?_
    refine az fun K hK => ?_
    go_simp
    refine hK.out _ _ (by with_reducible exact s1) fun hH1 => ?_
    clear hK K hH0
    try simp only [pu]
    refine rdy [5] ?_
    refine az fun K hK => ?_
    go_simp
    refine hK.out _ _ (by with_reducible exact s2) fun hH2 => ?_
    clear hK K hH1
    try simp only [pu]
    refine tk 6 6 hH2 ?_
    refine dn ?_ _
    all_goals (refine NoPanic.normal ?_)
    go_wp2
    have yE := YZ.out
    refine bodyPost_ret (results_cct rfl _ _ _ _ _ _ _ _ _ _ _ _ rfl yE.tail.blk Tryz.underlying41 rfl size_rot rfl yE.blk Tryz.underlying23 rfl size_key) rfl ?_
    subst hres
    exact ⟨_, _, rfl, yE.pk [4, 5]⟩
   ·have hres := HR.out
    rw [if_neg her] at hres
    have her1 : ((er : Int) == 0) = false := beq_eq_false_iff_ne.2 her
    have YE := Lib.hid (((((((((((YB.out.pk [3, 2]).set_ 0 (.string ⟨#[]⟩)).set_ 1 (.int .i64 0)).set_ 2 (.slice none 0 0)).set_ 3 (.slice none 0 0)).swap).set_ 0 (.string ⟨#[]⟩)).set_ 1 (.int .i64 0)).set_ 2 (.int .i64 0)).alloc0 (.cells #[.int .i64 i, .slice A1 C.length n1, .slice A2 T.length n2] 29)).alloc0 (.cells #[.string ⟨seed'.toArray⟩, .int .i64 h', .int .i64 n'] 23))
    have rc0 := YB.out.tail.tail.tail.blk.cell 0
    have rc1 := YB.out.tail.tail.tail.blk.cell 1
    have rc2 := YB.out.tail.tail.tail.blk.cell 2
    have rc3 := YB.out.tail.tail.tail.blk.cell 3
    have rf0 := YB.out.tail.tail.tail.blk.frozen 0
    have rf1 := YB.out.tail.tail.tail.blk.frozen 1
    have rf2 := YB.out.tail.tail.tail.blk.frozen 2
    have rf3 := YB.out.tail.tail.tail.blk.frozen 3
    have rlt := YB.out.tail.tail.tail.blk.lt
    rw [hp] at rlt
    have rne : ¬ (p = w.heap.size + 1) := Nat.ne_of_gt rlt
    have rlt2 : w.heap.size + 1 < p + 1 := Nat.lt_succ_of_lt rlt
    have rne2 : ¬ (p + 1 = w.heap.size + 1) := Nat.ne_of_gt rlt2
    have zc0 := YB.out.tail.tail.blk.cell 0
    have zc1 := YB.out.tail.tail.blk.cell 1
    have zc2 := YB.out.tail.tail.blk.cell 2
    have zf0 := YB.out.tail.tail.blk.frozen 0
    have zf1 := YB.out.tail.tail.blk.frozen 1
    have zf2 := YB.out.tail.tail.blk.frozen 2
    have zlt := YB.out.tail.tail.blk.lt
    rw [hp] at zlt
    have zne : ¬ (p = w.heap.size + 1 + 1) := Nat.ne_of_gt zlt
    have zlt2 : w.heap.size + 1 + 1 < p + 1 := Nat.lt_succ_of_lt zlt
    have zne2 : ¬ (p + 1 = w.heap.size + 1 + 1) := Nat.ne_of_gt zlt2
    clear Y3 YB
    go_wp2
    refine bodyPost_ret (results_cct rfl _ _ _ _ _ _ _ _ _ _ _ _ rfl YE.out.tail.blk Tryz.underlying41 rfl size_rot rfl YE.out.blk Tryz.underlying23 rfl size_key) rfl ?_
    subst hres
    exact rtP_bad er YE.out.tail.tail
set_option maxRecDepth 20000 in
set_option maxHeartbeats 4000000 in
theorem rnewwit_spec (o key seed : Sg.Str) (h n : Int) (w : World) :
 Calls Tryz.prog 15 #[.string ⟨o.toArray⟩, .string ⟨key.toArray⟩, .agg #[.string ⟨seed.toArray⟩, .int .i64 h, .int .i64 n]] w fun e w' => e = .returned (.tuple #[.agg (witA (nwR o key seed h n).1), .int .i64 (nwR o key seed h n).2]) ∧ Below w.heap.size w w' := by
 have zo := bytes_size o
 obtain ⟨W0, hW0⟩ : ∃ W0, w.alloc (.cells #[.string ⟨seed.toArray⟩, .int .i64 h, .int .i64 n] 23) = W0 := ⟨_, rfl⟩
 have hs0 : W0.heap.size = w.heap.size + 1 := by rw [← hW0]; simp
 obtain ⟨W, hW⟩ : ∃ W, W0.alloc (.cells #[.string ⟨#[]⟩, .string ⟨#[]⟩, .string ⟨#[]⟩, .int .i64 0, .int .i64 0, .string ⟨#[]⟩, .int .i64 0, .string ⟨#[]⟩] 37) = W := ⟨_, rfl⟩
 have y0 : St w.heap.size w W [cellsR (w.heap.size + 1) 37 #[.string ⟨#[]⟩, .string ⟨#[]⟩, .string ⟨#[]⟩, .int .i64 0, .int .i64 0, .string ⟨#[]⟩, .int .i64 0, .string ⟨#[]⟩], cellsR w.heap.size 23 #[.string ⟨seed.toArray⟩, .int .i64 h, .int .i64 n]] := by
  have := ((St.nil w).alloc 23 #[.string ⟨seed.toArray⟩, .int .i64 h, .int .i64 n]).alloc 37 #[.string ⟨#[]⟩, .string ⟨#[]⟩, .string ⟨#[]⟩, .int .i64 0, .int .i64 0, .string ⟨#[]⟩, .int .i64 0, .string ⟨#[]⟩]
  rw [hW0, hW, hs0] at this
  exact this
 have kp := fun W' => vpub_spec key W'
 have kv := kvalid_ref seed h n W
 have kR : ∀ W', Calls Tryz.prog 46 #[.slice none 0 0] W' fun e w' => e = .returned (.string ⟨(mRoot []).toArray⟩) ∧ Below W'.heap.size W' w' := fun W' => root_rk none [] 0 W' (Rd.nil _ _) (by decide) (Nat.le_refl _) (by decide)
 have hsha : mRoot [] = Sh.sha [] := by
  have h1 : (decide (([] : List Mk.Str).length ≤ 4096) && vld ([] : List Mk.Str)) = true := by decide
  unfold mRoot
  rw [if_pos h1]
  exact Mk.root_nil
 rw [hsha] at kR
 have kc0 := y0.tail.blk.cell 0
 have kc1 := y0.tail.blk.cell 1
 have kc2 := y0.tail.blk.cell 2
 have Y := Lib.hid y0
 clear y0 hsha
 unfold nwR
 by_cases c1 : 1 ≤ o.length
 ·rw [if_pos c1]
  have c1' : ¬ ((o.length : Int) < 1) := by omega
  by_cases c2 : o.length ≤ 64
  ·rw [if_pos c2]
   have c2' : ¬ ((64 : Int) < (o.length : Int)) := by omega
   cases hp : vpB key with
   | false =>
     rw [hp] at kp
     rw [if_neg (by decide)]
     have tc0 := Y.out.blk.cell 0
     have tc1 := Y.out.blk.cell 1
     have tc2 := Y.out.blk.cell 2
     have tc3 := Y.out.blk.cell 3
     have tc4 := Y.out.blk.cell 4
     have tc5 := Y.out.blk.cell 5
     have tc6 := Y.out.blk.cell 6
     have tc7 := Y.out.blk.cell 7
     have tf0 := Y.out.blk.frozen 0
     have tf1 := Y.out.blk.frozen 1
     have tf2 := Y.out.blk.frozen 2
     have tf3 := Y.out.blk.frozen 3
     have tf4 := Y.out.blk.frozen 4
     have tf5 := Y.out.blk.frozen 5
     have tf6 := Y.out.blk.frozen 6
     have tf7 := Y.out.blk.frozen 7
     have YE := Lib.hid ((((((((Y.out.set_ 0 (.string ⟨#[]⟩)).set_ 1 (.string ⟨#[]⟩)).set_ 2 (.string ⟨#[]⟩)).set_ 3 (.int .i64 0)).set_ 4 (.int .i64 0)).set_ 5 (.string ⟨#[]⟩)).set_ 6 (.int .i64 0)).set_ 7 (.string ⟨#[]⟩))
     go_enter Tryz.func15, Tryz.ntmps15
     go_wp2_with fail
     refine (kp _).mono ?_
     rintro e w2 ⟨rfl, rfl⟩
     go_wp2
     refine bodyPost_ret (results_ct rfl _ _ _ _ _ _ _ rfl YE.out.blk Tryz.underlying37 rfl size_wit) rfl ?_
     exact ⟨rfl, YE.out.below⟩
   | true =>
     rw [hp] at kp
     rw [if_pos rfl]
     cases hv : validB seed h n with
     | false =>
       rw [hv] at kv
       rw [if_neg (by decide)]
       have YE0 := Y
       go_enter Tryz.func15, Tryz.ntmps15
       go_wp2_with fail
       refine (kp _).mono ?_
       rintro e w2 ⟨rfl, rfl⟩
       go_wp2_with fail
       refine kv.mono ?_
       rintro e w3 ⟨rfl, b3⟩
       have y3 := Y.out.under b3
       have tc0 := y3.blk.cell 0
       have tc1 := y3.blk.cell 1
       have tc2 := y3.blk.cell 2
       have tc3 := y3.blk.cell 3
       have tc4 := y3.blk.cell 4
       have tc5 := y3.blk.cell 5
       have tc6 := y3.blk.cell 6
       have tc7 := y3.blk.cell 7
       have tf0 := y3.blk.frozen 0
       have tf1 := y3.blk.frozen 1
       have tf2 := y3.blk.frozen 2
       have tf3 := y3.blk.frozen 3
       have tf4 := y3.blk.frozen 4
       have tf5 := y3.blk.frozen 5
       have tf6 := y3.blk.frozen 6
       have tf7 := y3.blk.frozen 7
       have YE := Lib.hid ((((((((y3.set_ 0 (.string ⟨#[]⟩)).set_ 1 (.string ⟨#[]⟩)).set_ 2 (.string ⟨#[]⟩)).set_ 3 (.int .i64 0)).set_ 4 (.int .i64 0)).set_ 5 (.string ⟨#[]⟩)).set_ 6 (.int .i64 0)).set_ 7 (.string ⟨#[]⟩))
       clear hW hW0 hs0 y3 b3 kv kc0 kc1 kc2
       go_wp2
       refine bodyPost_ret (results_ct rfl _ _ _ _ _ _ _ rfl YE.out.blk Tryz.underlying37 rfl size_wit) rfl ?_
       exact ⟨rfl, YE.out.below⟩
     | true =>
       rw [hv] at kv
       rw [if_pos rfl]
       go_enter Tryz.func15, Tryz.ntmps15
       go_wp2_with fail
       refine (kp _).mono ?_
       rintro e w2 ⟨rfl, rfl⟩
       go_wp2_with fail
       refine kv.mono ?_
       rintro e w3 ⟨rfl, b3⟩
       have y1 := Y.out.under b3
       clear kv b3 kc0 kc1 kc2 hW hW0 hs0
       have hS : ∀ W', Blk W' w.heap.size 23 #[.string ⟨seed.toArray⟩, .int .i64 h, .int .i64 n] → (W'.cell? ⟨w.heap.size, 0, none⟩ = some (.string ⟨seed.toArray⟩) ∧ W'.cell? ⟨w.heap.size, 1, none⟩ = some (.int .i64 h) ∧ W'.cell? ⟨w.heap.size, 2, none⟩ = some (.int .i64 n)) := fun W' hb => ⟨hb.cell 0, hb.cell 1, hb.cell 2⟩
       have s0 := hS _ y1.drew.tail.blk
       go_wp2_with fail
       refine wp_region_noPanic ?_
       refine wp_region_held_drew (S := (fun W' => W'.cell? ⟨w.heap.size, 0, none⟩ = some (.string ⟨seed.toArray⟩) ∧ W'.cell? ⟨w.heap.size, 1, none⟩ = some (.int .i64 h) ∧ W'.cell? ⟨w.heap.size, 2, none⟩ = some (.int .i64 n))) (by kernel_rfl) ?_ (fun hH0 => ?_)
       ·(first
          | with_reducible exact s0
          | with_reducible exact s1
          | with_reducible exact s2
          | fail)
       refine tk 0 27 hH0 ?_
       refine tk 1 28 hH0 ?_
       refine tk 2 29 hH0 ?_
       refine tk 3 30 hH0 ?_
       refine rdy [4] ?_
       refine an 31 fun K hK => ?_
       go_simp; (first
        | ((with_reducible refine (kR _).mono ?_)
           rintro e w4 ⟨rfl, b4⟩
           have y4 := y1.drew.under b4
           have s1 := hS _ y4.tail.blk
           have tc0 := y4.blk.cell 0
           have tc1 := y4.blk.cell 1
           have tc2 := y4.blk.cell 2
           have tc3 := y4.blk.cell 3
           have tc4 := y4.blk.cell 4
           have tc5 := y4.blk.cell 5
           have tc6 := y4.blk.cell 6
           have tc7 := y4.blk.cell 7
           have tf0 := y4.blk.frozen 0
           have tf1 := y4.blk.frozen 1
           have tf2 := y4.blk.frozen 2
           have tf3 := y4.blk.frozen 3
           have tf4 := y4.blk.frozen 4
           have tf5 := y4.blk.frozen 5
           have tf6 := y4.blk.frozen 6
           have tf7 := y4.blk.frozen 7
           have YE := Lib.hid ((((((((y4.set_ 0 (.string ⟨o.toArray⟩)).set_ 1 (.string ⟨key.toArray⟩)).set_ 2 (.string ⟨seed.toArray⟩)).set_ 3 (.int .i64 h)).set_ 4 (.int .i64 n)).set_ 5 (.string ⟨o.toArray⟩)).set_ 6 (.int .i64 0)).set_ 7 (.string ⟨(Sh.sha []).toArray⟩))
           have s2 := hS _ YE.out.tail.blk)
        | fail); go_wp2_with fail
       refine hK.out _ _ ?_ (fun hH1 => ?_)
       ·(first
          | with_reducible exact s0
          | with_reducible exact s1
          | with_reducible exact s2
          | fail)
       clear hK K hH0
       try simp only [pu]
       refine tk 5 32 hH1 ?_
       refine tk 6 33 hH1 ?_
       refine rdy [7] ?_
       refine az fun K hK => ?_
       go_simp
       refine hK.out _ _ ?_ (fun hH2 => ?_)
       ·(first
          | with_reducible exact s0
          | with_reducible exact s1
          | with_reducible exact s2
          | fail)
       clear hK K hH1
       try simp only [pu]
       refine tk 8 7 hH2 ?_
       refine dn ?_ _
       all_goals (refine NoPanic.normal ?_)
       go_wp2
       refine bodyPost_ret (results_ct rfl _ _ _ _ _ _ _ rfl YE.out.blk Tryz.underlying37 rfl size_wit) rfl ?_
       exact ⟨rfl, YE.out.below⟩
  ·rw [if_neg c2]
   have c2' : (64 : Int) < (o.length : Int) := by omega
   have tc0 := Y.out.blk.cell 0
   have tc1 := Y.out.blk.cell 1
   have tc2 := Y.out.blk.cell 2
   have tc3 := Y.out.blk.cell 3
   have tc4 := Y.out.blk.cell 4
   have tc5 := Y.out.blk.cell 5
   have tc6 := Y.out.blk.cell 6
   have tc7 := Y.out.blk.cell 7
   have tf0 := Y.out.blk.frozen 0
   have tf1 := Y.out.blk.frozen 1
   have tf2 := Y.out.blk.frozen 2
   have tf3 := Y.out.blk.frozen 3
   have tf4 := Y.out.blk.frozen 4
   have tf5 := Y.out.blk.frozen 5
   have tf6 := Y.out.blk.frozen 6
   have tf7 := Y.out.blk.frozen 7
   have YE := Lib.hid ((((((((Y.out.set_ 0 (.string ⟨#[]⟩)).set_ 1 (.string ⟨#[]⟩)).set_ 2 (.string ⟨#[]⟩)).set_ 3 (.int .i64 0)).set_ 4 (.int .i64 0)).set_ 5 (.string ⟨#[]⟩)).set_ 6 (.int .i64 0)).set_ 7 (.string ⟨#[]⟩))
   go_enter Tryz.func15, Tryz.ntmps15
   go_wp2
   refine bodyPost_ret (results_ct rfl _ _ _ _ _ _ _ rfl YE.out.blk Tryz.underlying37 rfl size_wit) rfl ?_
   exact ⟨rfl, YE.out.below⟩
 ·rw [if_neg c1]
  have c1' : (o.length : Int) < 1 := by omega
  have tc0 := Y.out.blk.cell 0
  have tc1 := Y.out.blk.cell 1
  have tc2 := Y.out.blk.cell 2
  have tc3 := Y.out.blk.cell 3
  have tc4 := Y.out.blk.cell 4
  have tc5 := Y.out.blk.cell 5
  have tc6 := Y.out.blk.cell 6
  have tc7 := Y.out.blk.cell 7
  have tf0 := Y.out.blk.frozen 0
  have tf1 := Y.out.blk.frozen 1
  have tf2 := Y.out.blk.frozen 2
  have tf3 := Y.out.blk.frozen 3
  have tf4 := Y.out.blk.frozen 4
  have tf5 := Y.out.blk.frozen 5
  have tf6 := Y.out.blk.frozen 6
  have tf7 := Y.out.blk.frozen 7
  have YE := Lib.hid ((((((((Y.out.set_ 0 (.string ⟨#[]⟩)).set_ 1 (.string ⟨#[]⟩)).set_ 2 (.string ⟨#[]⟩)).set_ 3 (.int .i64 0)).set_ 4 (.int .i64 0)).set_ 5 (.string ⟨#[]⟩)).set_ 6 (.int .i64 0)).set_ 7 (.string ⟨#[]⟩))
  go_enter Tryz.func15, Tryz.ntmps15
  go_wp2
  refine bodyPost_ret (results_ct rfl _ _ _ _ _ _ _ rfl YE.out.blk Tryz.underlying37 rfl size_wit) rfl ?_
  exact ⟨rfl, YE.out.below⟩
end Go.Proofs.YtjjpdnpbhdcpbaaGreat
