/- Lemmas and contracts on what the walks need, several small texts in one. Conditions: as each theorem states. -/
import Derived.Test.YtjjpdnpbhdcpbaaGreatQPc
import Derived.Test.YtjjpdnpbhdcpbaaGreatQPb
import Derived.Test.YtjjpdnpbhdcpbaaGreatQSgJ
import Derived.Test.YtjjpdnpbhdcpbaaGreatQSgI
import Derived.Test.YtjjpdnpbhdcpbaaGreatQSgH
import Derived.Test.YtjjpdnpbhdcpbaaGreatQSgG
import Derived.Test.YtjjpdnpbhdcpbaaGreatQSgF
import Derived.Test.YtjjpdnpbhdcpbaaGreatQPa
import Derived.Test.YtjjpdnpbhdcpbaaGreatOPa
import Derived.Test.YtjjpdnpbhdcpbaaGreatQCdA
import Derived.Test.YtjjpdnpbhdcpbaaGreatQMkB
import Derived.Test.YtjjpdnpbhdcpbaaGreatQShaB
import Derived.Test.YtjjpdnpbhdcpbaaGreatQShaA
import Derived.Test.YtjjpdnpbhdcpbaaGreatQBase
import Derived.Test.YtjjpdnpbhdcpbaaGreatProg
import Derived.Laws.BitsAllLaws
import Derived.BigQuiet
import Derived.BigRegion
import Derived.Deep.RegionHeld3
import Derived.Test.YtjjpdnpbhdcpbaaGreatLayC
import Derived.Test.YtjjpdnpbhdcpbaaGreatLay
import Derived.Laws.CopyRow
import Derived.Laws.IdiomStrings
import Derived.Lib.Bytealg
import Derived.Laws.MakeOwn
import Derived.Test.YtjjpdnpbhdcpbaaGreatLayR
import Derived.Lib.OthersKept
import Derived.Test.YtjjpdnpbhdcpbaaGreatQSgD
import Derived.RangeFuncNested
import Derived.RangeFuncBound
import Derived.RangeFuncCalls
import Derived.RangeFuncLeaves
import Derived.Shelf.Abstract
import Derived.Shelf.RegionOpen
import Derived.OwnWalkIn
import Derived.TacticsInMore
import Derived.LoopNIn
import Derived.LoopIn
import Derived.Lib.FrozenHead2
import Derived.OrdersIn
import Derived.RangeFuncFrom
import Derived.Laws.ResultCell
import Derived.Test.YtjjpdnpbhdcpbaaGreatQCdB
import Derived.Laws.DeepNot64
import Derived.Test.YtjjpdnpbhdcpbaaGreatOSgO
import Derived.Test.YtjjpdnpbhdcpbaaGreatOSgP
import Derived.Test.YtjjpdnpbhdcpbaaGreatQCkO
import Derived.Test.YtjjpdnpbhdcpbaaGreatQPd
import Derived.Test.YtjjpdnpbhdcpbaaGreatQCkL
import Derived.Test.YtjjpdnpbhdcpbaaGreatQCkK
import Derived.Test.YtjjpdnpbhdcpbaaGreatQCkJ
import Derived.Test.YtjjpdnpbhdcpbaaGreatQCkI
import Derived.Test.YtjjpdnpbhdcpbaaGreatQCkH
import Derived.Test.YtjjpdnpbhdcpbaaGreatQCkF
import Derived.Test.YtjjpdnpbhdcpbaaGreatQCkE
import Derived.Test.YtjjpdnpbhdcpbaaGreatQCkC
import Derived.Test.YtjjpdnpbhdcpbaaGreatOSgR
import Derived.Deep.Strs
import Derived.Maps.OwnSet
import Derived.Test.YtjjpdnpbhdcpbaaGreatOSgS
import Derived.Test.YtjjpdnpbhdcpbaaGreatQPe
namespace Go.Proofs.YtjjpdnpbhdcpbaaGreat
set_option linter.unusedVariables false
open Go.RowKit
attribute [local go_sem] Oper.semAt_some
set_option maxRecDepth 20000 in
set_option maxHeartbeats 2000000 in
theorem rheaded_spec (o : Sg.Str) (n : Int) (r : Sg.Str) (w : World) :
 Calls Tryz.prog 54 #[.agg #[.string ⟨o.toArray⟩, .int .i64 n, .string ⟨r.toArray⟩]] w fun e w' => e = .returned (.bool (headB o n r)) ∧ Below w.heap.size w w' := by
 have z1 := bytes_size o
 have z2 := bytes_size r
 have b0 := (Below.refl _ w).alloc (Nat.le_refl _) (.cells #[.string ⟨o.toArray⟩, .int .i64 n, .string ⟨r.toArray⟩] 25)
 have HB := Lib.hid b0
 clear b0
 have kd := fun W => rdigest_spec r W
 unfold headB
 by_cases c0 : 1 ≤ o.length
 ·rw [decide_eq_true c0]
  have d00 : decide ((o.length : Int) ≥ 1) = true := decide_eq_true (by omega)
  have d01 : decide (1 ≤ (o.length : Int)) = true := decide_eq_true (by omega)
  have d02 : decide (1 ≤ o.length) = true := decide_eq_true (by omega)
  have d03 : decide (0 < o.length) = true := decide_eq_true (by omega)
  clear c0
  by_cases c1 : o.length ≤ 64
  ·rw [decide_eq_true c1]
   have d10 : decide ((o.length : Int) ≤ 64) = true := decide_eq_true (by omega)
   have d11 : decide (o.length ≤ 64) = true := decide_eq_true (by omega)
   clear c1
   by_cases c2 : 0 ≤ n
   ·rw [decide_eq_true c2]
    have d20 : decide (n ≥ 0) = true := decide_eq_true (by omega)
    have d21 : decide (0 ≤ n) = true := decide_eq_true (by omega)
    clear c2
    by_cases c3 : n ≤ 4096
    ·rw [decide_eq_true c3]
     have d30 : decide (n ≤ 4096) = true := decide_eq_true (by omega)
     clear c3
     go_enter Tryz.func54, Tryz.ntmps54
     go_wp2_with fail
     refine (kd _).mono ?_
     rintro e w1 ⟨rfl, rfl⟩
     go_wp2
     go_ret
     exact ⟨rfl, HB.out⟩
    ·rw [decide_eq_false c3]
     have d30 : decide (n ≤ 4096) = false := decide_eq_false (by omega)
     clear c3
     go_enter Tryz.func54, Tryz.ntmps54
     go_wp2
     go_ret
     exact ⟨rfl, HB.out⟩
   ·rw [decide_eq_false c2]
    have d20 : decide (n ≥ 0) = false := decide_eq_false (by omega)
    have d21 : decide (0 ≤ n) = false := decide_eq_false (by omega)
    clear c2
    go_enter Tryz.func54, Tryz.ntmps54
    go_wp2
    go_ret
    exact ⟨rfl, HB.out⟩
  ·rw [decide_eq_false c1]
   have d10 : decide ((o.length : Int) ≤ 64) = false := decide_eq_false (by omega)
   have d11 : decide (o.length ≤ 64) = false := decide_eq_false (by omega)
   clear c1
   go_enter Tryz.func54, Tryz.ntmps54
   go_wp2
   go_ret
   exact ⟨rfl, HB.out⟩
 ·rw [decide_eq_false c0]
  have d00 : decide ((o.length : Int) ≥ 1) = false := decide_eq_false (by omega)
  have d01 : decide (1 ≤ (o.length : Int)) = false := decide_eq_false (by omega)
  have d02 : decide (1 ≤ o.length) = false := decide_eq_false (by omega)
  have d03 : decide (0 < o.length) = false := decide_eq_false (by omega)
  clear c0
  go_enter Tryz.func54, Tryz.ntmps54
  go_wp2
  go_ret
  exact ⟨rfl, HB.out⟩
set_option maxRecDepth 20000 in
theorem rcknum_spec (n : Nat) (h : n < 9223372036854775808) (w : World) : Calls Tryz.prog 71 #[.int .i64 (n : Int)] w fun e w' => e = .returned (.string ⟨(Cd.uns n).toArray⟩) ∧ Below w.heap.size w w' := by
 have k := ruint_pos n h w
 clear h
 go_enter Tryz.func71, Tryz.ntmps71
 go_wp2_with fail
 refine k.mono ?_
 rintro e w1 ⟨rfl, b1⟩
 go_wp2
 go_ret
 exact ⟨rfl, b1⟩
set_option maxRecDepth 20000 in
set_option maxHeartbeats 2000000 in
theorem rckbytes_spec (o : Sg.Str) (n : Int) (r : Sg.Str) (w : World) (h : headB o n r = true) :
 Calls Tryz.prog 56 #[.agg #[.string ⟨o.toArray⟩, .int .i64 n, .string ⟨r.toArray⟩]] w fun e w' => e = .returned (.string ⟨(headS o n r).toArray⟩) ∧ Below w.heap.size w w' := by
 obtain ⟨_, h2, h3, h4, h5⟩ := headB_parts h
 obtain ⟨q, rfl⟩ : ∃ q : Nat, n = q := ⟨n.toNat, by omega⟩
 have kO := fun W => text_ref o (Nat.le_trans h2 (by decide)) W
 have kR := fun W => text_ref r (by rw [h5]; decide) W
 have kN := fun W => rcknum_spec q (by omega) W
 have l1 : (Cd.text o).length ≤ 80 := by have := Cd.uns_len o.length; unfold Cd.text; rw [List.length_append]; omega
 have l2 := Cd.uns_len q
 have l3 : (Cd.text r).length ≤ 50 := by have := Cd.uns_len r.length; unfold Cd.text; rw [List.length_append]; omega
 have hs : headS o (q : Int) r = Cd.text o ++ Cd.uns q ++ Cd.text r := by unfold headS; rw [Int.toNat_natCast]
 rw [hs]
 generalize Cd.text o = O at kO l1
 generalize Cd.text r = R at kR l3
 generalize Cd.uns q = U at kN l2
 have g1 := bytes_append O U
 have g2 := bytes_append (O ++ U) R
 obtain ⟨f1, f2⟩ := sg_cat O U (by omega)
 obtain ⟨f3, f4⟩ := sg_cat (O ++ U) R (by rw [List.length_append]; omega)
 simp only [List.length_append] at f3 f4
 have bk := Blk.new w 25 #[.string ⟨o.toArray⟩, .int .i64 (q : Int), .string ⟨r.toArray⟩]
 have b0 := (Below.refl _ w).alloc (Nat.le_refl _) (.cells #[.string ⟨o.toArray⟩, .int .i64 (q : Int), .string ⟨r.toArray⟩] 25)
 obtain ⟨W0, hW0⟩ : ∃ W0, w.alloc (.cells #[.string ⟨o.toArray⟩, .int .i64 (q : Int), .string ⟨r.toArray⟩] 25) = W0 := ⟨_, rfl⟩
 rw [hW0] at bk b0
 have HB := Lib.hid b0
 have HS := Lib.hid (show ∀ W, Below W0.heap.size W0 W → (W.cell? ⟨w.heap.size, 0, none⟩ = some (.string ⟨o.toArray⟩) ∧ W.cell? ⟨w.heap.size, 1, none⟩ = some (.int .i64 (q : Int)) ∧ W.cell? ⟨w.heap.size, 2, none⟩ = some (.string ⟨r.toArray⟩)) from fun W hb => ⟨(bk.below hb).cell 0, (bk.below hb).cell 1, (bk.below hb).cell 2⟩)
 have y0 := (Below.refl W0.heap.size W0).drew
 clear h h2 h3 h4 h5 bk b0 hs l1 l2 l3
 go_enter Tryz.func56, Tryz.ntmps56
 go_wp2_with fail
 clear hW0
 refine wp_region_noPanic ?_
 refine wp_region_held_drew (S := (fun w' => w'.cell? ⟨w.heap.size, 0, none⟩ = some (.string ⟨o.toArray⟩) ∧ w'.cell? ⟨w.heap.size, 1, none⟩ = some (.int .i64 (q : Int)) ∧ w'.cell? ⟨w.heap.size, 2, none⟩ = some (.string ⟨r.toArray⟩))) (by kernel_rfl) ?_ (fun hH0 => ?_)
 ·exact HS.out _ y0
 refine tk 0 3 hH0 ?_
 refine tk 1 4 hH0 ?_
 refine tk 3 6 hH0 ?_
 refine tk 4 7 hH0 ?_
 refine tk 7 10 hH0 ?_
 refine tk 8 11 hH0 ?_
 refine rdy [2] ?_
 refine an 5 fun K hK => ?_
 go_simp; (
  with_reducible refine (kO _).mono ?_
  rintro e w1 ⟨rfl, b1⟩
  have y1 := y0.trans (b1.mono y0.size)); go_wp2_with fail
 refine hK.out _ _ ?_ (fun hH1 => ?_)
 ·exact HS.out _ y1
 clear hK K hH0
 try simp only [pu]
 refine rdy [5] ?_
 refine an 8 fun K hK => ?_
 go_simp; (
  with_reducible refine (kN _).mono ?_
  rintro e w2 ⟨rfl, b2⟩
  have y2 := y1.trans (b2.mono y1.size)); go_wp2_with fail
 refine hK.out _ _ ?_ (fun hH2 => ?_)
 ·exact HS.out _ y2
 clear hK K hH1
 try simp only [pu]
 refine tk 6 9 hH2 ?_
 refine rdy [9] ?_
 refine an 12 fun K hK => ?_
 go_simp; (
  with_reducible refine (kR _).mono ?_
  rintro e w3 ⟨rfl, b3⟩
  have y3 := y2.trans (b3.mono y2.size)); go_wp2_with fail
 refine hK.out _ _ ?_ (fun hH3 => ?_)
 ·exact HS.out _ y3
 clear hK K hH2
 try simp only [pu]
 refine tk 10 13 hH3 ?_
 refine tk 11 2 hH3 ?_
 refine dn ?_ _
 all_goals (refine NoPanic.normal ?_)
 go_wp2
 go_ret
 refine ⟨?_, HB.out.trans (y3.mono HB.out.size)⟩
 first
  | rfl
  | (rw [List.append_assoc]; rfl)
end Go.Proofs.YtjjpdnpbhdcpbaaGreat
namespace Go.Proofs.YtjjpdnpbhdcpbaaGreat
set_option linter.unusedVariables false
open Go.RowKit Go.Shelf
attribute [local go_sem] Oper.semAt_some
set_option maxRecDepth 20000 in
set_option maxHeartbeats 4000000 in
theorem rckverify_spec (pub o : Sg.Str) (n : Int) (r : Sg.Str) (i : Int) (C T : List Sg.Str) (A B X : Option Addr) (a b l c : Nat) (w : World) (hC : Rd w A (strs C)) (hT : Rd w B (strs T)) (h1 : C.length ≤ a) (h2 : a ≤ maxLen) (h3 : T.length ≤ b) (h4 : b ≤ maxLen) :
 Calls Tryz.prog 27 #[.string ⟨pub.toArray⟩, .agg #[.string ⟨o.toArray⟩, .int .i64 n, .string ⟨r.toArray⟩, .int .i64 i, .slice A C.length a, .slice B T.length b, .slice X l c]] w fun e w' => e = .returned (.bool (ckB 4 pub o n r i C T)) ∧ Below w.heap.size w w' := by
 have kh := fun W => rheaded_spec o n r W
 have b0 := (Below.refl _ w).alloc (Nat.le_refl _) (.cells #[.string ⟨o.toArray⟩, .int .i64 n, .string ⟨r.toArray⟩, .int .i64 i, .slice A C.length a, .slice B T.length b, .slice X l c] 32)
 have bk := Blk.new w 32 #[.string ⟨o.toArray⟩, .int .i64 n, .string ⟨r.toArray⟩, .int .i64 i, .slice A C.length a, .slice B T.length b, .slice X l c]
 have hC' := hC.alloc (.cells #[.string ⟨o.toArray⟩, .int .i64 n, .string ⟨r.toArray⟩, .int .i64 i, .slice A C.length a, .slice B T.length b, .slice X l c] 32)
 have hT' := hT.alloc (.cells #[.string ⟨o.toArray⟩, .int .i64 n, .string ⟨r.toArray⟩, .int .i64 i, .slice A C.length a, .slice B T.length b, .slice X l c] 32)
 obtain ⟨W0, hW0⟩ : ∃ W0, w.alloc (.cells #[.string ⟨o.toArray⟩, .int .i64 n, .string ⟨r.toArray⟩, .int .i64 i, .slice A C.length a, .slice B T.length b, .slice X l c] 32) = W0 := ⟨_, rfl⟩
 rw [hW0] at b0 bk hC' hT'
 have HB := Lib.hid b0
 have HS := Lib.hid (show ∀ W, Below W0.heap.size W0 W → (W.cell? ⟨w.heap.size, 0, none⟩ = some (.string ⟨o.toArray⟩) ∧ W.cell? ⟨w.heap.size, 1, none⟩ = some (.int .i64 n) ∧ W.cell? ⟨w.heap.size, 2, none⟩ = some (.string ⟨r.toArray⟩) ∧ W.cell? ⟨w.heap.size, 3, none⟩ = some (.int .i64 i) ∧ W.cell? ⟨w.heap.size, 4, none⟩ = some (.slice A C.length a) ∧ W.cell? ⟨w.heap.size, 5, none⟩ = some (.slice B T.length b)) from fun W hb => ⟨(bk.below hb).cell 0, (bk.below hb).cell 1, (bk.below hb).cell 2, (bk.below hb).cell 3, (bk.below hb).cell 4, (bk.below hb).cell 5⟩)
 have y0 := (Below.refl W0.heap.size W0).drew
 unfold ckB
 cases hh : headB o n r with
 | false =>
   rw [hh] at kh
   rw [if_neg (by decide)]
   clear hh hC hT hC' hT' h1 h2 h3 h4 b0 bk
   go_enter Tryz.func27, Tryz.ntmps27
   go_wp2_with fail
   clear hW0
   refine wp_region_noPanic ?_
   refine wp_region_held_drew (S := (fun W => (W.cell? ⟨w.heap.size, 0, none⟩ = some (.string ⟨o.toArray⟩) ∧ W.cell? ⟨w.heap.size, 1, none⟩ = some (.int .i64 n) ∧ W.cell? ⟨w.heap.size, 2, none⟩ = some (.string ⟨r.toArray⟩) ∧ W.cell? ⟨w.heap.size, 3, none⟩ = some (.int .i64 i) ∧ W.cell? ⟨w.heap.size, 4, none⟩ = some (.slice A C.length a) ∧ W.cell? ⟨w.heap.size, 5, none⟩ = some (.slice B T.length b)))) (by kernel_rfl) ?_ (fun hH0 => ?_)
   ·exact HS.out _ y0
   refine tk 0 5 hH0 ?_
   refine tk 1 6 hH0 ?_
   refine rdy [2] ?_
   refine an 7 fun K hK => ?_
   go_simp; (
    with_reducible refine (kh _).mono ?_
    rintro e w1 ⟨rfl, b1⟩
    have y1 := y0.trans (b1.mono y0.size)); go_wp2_with fail
   refine hK.out _ _ ?_ (fun hH1 => ?_)
   ·exact HS.out _ y1
   clear hK K hH0
   try simp only [pu]
   refine tk 3 8 hH1 ?_
   refine tu 4 9 hH1 ?_
   refine tu 5 10 hH1 ?_
   refine tu 6 11 hH1 ?_
   refine tu 7 12 hH1 ?_
   refine tu 8 13 hH1 ?_
   refine tu 9 14 hH1 ?_
   refine tu 10 15 hH1 ?_
   refine tu 11 16 hH1 ?_
   refine tk 12 17 hH1 ?_
   refine tk 13 4 hH1 ?_
   refine dn ?_ _
   all_goals (refine NoPanic.normal ?_)
   go_wp2
   go_ret
   exact ⟨rfl, HB.out.trans (y1.mono HB.out.size)⟩
 | true =>
   rw [hh] at kh
   rw [if_pos rfl]
   have kb := fun W => rckbytes_spec o n r W hh
   have hl := headS_len hh
   have kv : ∀ W, Below W0.heap.size W0 W → Calls Tryz.prog 65 #[.string ⟨pub.toArray⟩, .string ⟨((4 : UInt8) :: headS o n r).toArray⟩, .agg #[.int .i64 i, .slice A C.length a, .slice B T.length b]] W fun e w' => e = .returned (.bool (verB pub (Sg.dgs (4 :: headS o n r)) i C T)) ∧ Below W.heap.size W w' := fun W hb =>
    rverify_spec pub (4 :: headS o n r) i C T A B a b W (by rw [List.length_cons]; omega) (hC'.below hb) (hT'.below hb) h1 h2 h3 h4
   have g1 := cons_bytes 4 (headS o n r)
   obtain ⟨f1, f2⟩ := sg_cat [4] (headS o n r) (by rw [List.length_singleton]; omega)
   rw [List.length_singleton] at f1 f2
   generalize verB pub (Sg.dgs (4 :: headS o n r)) i C T = res at kv ⊢
   clear hh hC hT hC' hT' h1 h2 h3 h4 b0 bk
   go_enter Tryz.func27, Tryz.ntmps27
   go_wp2_with fail
   clear hW0
   refine wp_region_noPanic ?_
   refine wp_region_held_drew (S := (fun W => (W.cell? ⟨w.heap.size, 0, none⟩ = some (.string ⟨o.toArray⟩) ∧ W.cell? ⟨w.heap.size, 1, none⟩ = some (.int .i64 n) ∧ W.cell? ⟨w.heap.size, 2, none⟩ = some (.string ⟨r.toArray⟩) ∧ W.cell? ⟨w.heap.size, 3, none⟩ = some (.int .i64 i) ∧ W.cell? ⟨w.heap.size, 4, none⟩ = some (.slice A C.length a) ∧ W.cell? ⟨w.heap.size, 5, none⟩ = some (.slice B T.length b)))) (by kernel_rfl) ?_ (fun hH0 => ?_)
   ·exact HS.out _ y0
   refine tk 0 5 hH0 ?_
   refine tk 1 6 hH0 ?_
   refine rdy [2] ?_
   refine an 7 fun K hK => ?_
   go_simp; (
    with_reducible refine (kh _).mono ?_
    rintro e w1 ⟨rfl, b1⟩
    have y1 := y0.trans (b1.mono y0.size)); go_wp2_with fail
   refine hK.out _ _ ?_ (fun hH1 => ?_)
   ·exact HS.out _ y1
   clear hK K hH0
   try simp only [pu]
   refine tk 3 8 hH1 ?_
   refine tk 4 9 hH1 ?_
   refine tk 5 10 hH1 ?_
   refine tk 6 11 hH1 ?_
   refine tk 9 14 hH1 ?_
   refine tk 10 15 hH1 ?_
   refine rdy [7] ?_
   refine an 12 fun K hK => ?_
   go_simp; (
    with_reducible refine (kb _).mono ?_
    rintro e w2 ⟨rfl, b2⟩
    have y2 := y1.trans (b2.mono y1.size)); go_wp2_with fail
   refine hK.out _ _ ?_ (fun hH2 => ?_)
   ·exact HS.out _ y2
   clear hK K hH1
   try simp only [pu]
   refine tk 8 13 hH2 ?_
   refine rdy [11] ?_
   refine an 16 fun K hK => ?_
   go_simp; (
    with_reducible refine (kv _ y2).mono ?_
    rintro e w3 ⟨rfl, b3⟩
    have y3 := y2.trans (b3.mono y2.size)); go_wp2_with fail
   refine hK.out _ _ ?_ (fun hH3 => ?_)
   ·exact HS.out _ y3
   clear hK K hH2
   try simp only [pu]
   refine tk 12 17 hH3 ?_
   refine tk 13 4 hH3 ?_
   refine dn ?_ _
   all_goals (refine NoPanic.normal ?_)
   go_wp2
   go_ret
   exact ⟨rfl, HB.out.trans (y3.mono HB.out.size)⟩
def fewX (x : SgRow) : Bool := decide (x.key.length ≤ 200) && fewS x.C x.T
def fewL (L : List SgRow) : Bool := L.all fewX
def ckFew (o r : Sg.Str) (C T : List Sg.Str) (L : List SgRow) : Bool := if o.length ≤ 200 then (if r.length ≤ 200 then (if fewS C T = true then (if L.length ≤ 4 then fewL L else false) else false) else false) else false
def RowFew (x : SgRow) : Prop := (x.A = none → x.C.length = 0 ∧ x.a = 0) ∧ (x.B = none → x.T.length = 0 ∧ x.b = 0) ∧ weight x.C + weight x.T ≤ 1099511627776
theorem fewL_drop (L : List SgRow) (k : Nat) (hk : k < L.length) : fewL (L.drop k) = (fewX L[k] && fewL (L.drop (k + 1))) := by
 rw [List.drop_eq_getElem_cons hk]
 rfl
set_option maxRecDepth 20000 in
set_option maxHeartbeats 4000000 in
theorem ckfew_spec (o : Sg.Str) (z : Int) (r : Sg.Str) (si : Int) (sA sB : Option Addr) (sC sT : List Sg.Str) (sa sb : Nat) (X : Option Addr) (L : List SgRow) (c : Nat) (w : World) (hR : RowsR w X L) (hF : ∀ x ∈ L, RowFew x)
 (hC : Rd w sA (strs sC)) (hT : Rd w sB (strs sT)) (hnA : sA = none → sC.length = 0 ∧ sa = 0) (hnB : sB = none → sT.length = 0 ∧ sb = 0) (h1 : sC.length ≤ sa) (h2 : sa ≤ maxLen) (h3 : sT.length ≤ sb) (h4 : sb ≤ maxLen) (hw : weight sC + weight sT ≤ 1099511627776) :
 Calls Tryz.prog 20 #[.agg #[.string ⟨o.toArray⟩, .int .i64 z, .string ⟨r.toArray⟩, .int .i64 si, .slice sA sC.length sa, .slice sB sT.length sb, .slice X L.length c]] w fun e w' => e = .returned (.bool (ckFew o r sC sT L)) ∧ Below w.heap.size w w' := by
 obtain ⟨N, hN⟩ : ∃ N, L.length = N := ⟨_, rfl⟩
 unfold ckFew
 rw [hN]
 have zo := bytes_size o
 have zr := bytes_size r
 have b0 := (Below.refl w.heap.size w).alloc (Nat.le_refl _) (.cells #[.string ⟨o.toArray⟩, .int .i64 z, .string ⟨r.toArray⟩, .int .i64 si, .slice sA sC.length sa, .slice sB sT.length sb, .slice X N c] 32)
 have bk := Blk.new w 32 #[.string ⟨o.toArray⟩, .int .i64 z, .string ⟨r.toArray⟩, .int .i64 si, .slice sA sC.length sa, .slice sB sT.length sb, .slice X N c]
 obtain ⟨W0, hW0⟩ : ∃ W0, w.alloc (.cells #[.string ⟨o.toArray⟩, .int .i64 z, .string ⟨r.toArray⟩, .int .i64 si, .slice sA sC.length sa, .slice sB sT.length sb, .slice X N c] 32) = W0 := ⟨_, rfl⟩
 rw [hW0] at b0 bk
 have q0 := bk.cell 0
 have q2 := bk.cell 2
 have q3 := bk.cell 3
 have q4 := bk.cell 4
 have q5 := bk.cell 5
 have q6 := bk.cell 6
 have ks := rfew_spec si sC sT sA sB sa sb W0 (hC.below b0) (hT.below b0) hnA hnB h1 h2 h3 h4 hw
 have B0 := Lib.hid b0
 have RL := Lib.hid (And.intro hN (And.intro (hR.below b0) (And.intro hF bk)))
 clear hR hF hC hT hnA hnB h1 h2 h3 h4 hw hN
 by_cases c1 : o.length ≤ 200
 ·rw [if_pos c1]
  have c1' : ¬ ((200 : Int) < (o.length : Int)) := by omega
  by_cases c2 : r.length ≤ 200
  ·rw [if_pos c2]
   have c2' : ¬ ((200 : Int) < (r.length : Int)) := by omega
   cases hs : fewS sC sT with
   | false =>
     rw [hs] at ks
     rw [if_neg (by decide)]
     clear hs
     go_enter Tryz.func20, Tryz.ntmps20
     go_wp2_with fail
     refine ks.mono ?_
     rintro e w1 ⟨rfl, b1⟩
     have m6 := (bk.below b1).cell 6
     have B1 := Lib.hid (B0.out.trans (b1.mono B0.out.size))
     clear b1 ks q0 q2 q3 q4 q5 q6 hW0 bk
     go_wp2
     go_ret
     exact ⟨rfl, B1.out⟩
   | true =>
     rw [hs] at ks
     rw [if_pos rfl]
     clear hs
     by_cases hl : N ≤ 4
     ·rw [if_pos hl]
      have hl' : ¬ ((4 : Int) < (N : Int)) := by omega
      obtain ⟨res, hres⟩ : ∃ res, fewL L = res := ⟨_, rfl⟩
      rw [hres]
      have HR := Lib.hid hres
      clear hres
      go_enter Tryz.func20, Tryz.ntmps20
      go_wp2_with fail
      refine ks.mono ?_
      rintro e w1 ⟨rfl, b1⟩
      have m6 := (bk.below b1).cell 6
      have B1 := Lib.hid (B0.out.trans (b1.mono B0.out.size))
      have Z1 := Lib.hid b1
      clear b1 ks q0 q2 q3 q4 q5 q6 hW0
      go_wp2_with fail
      go_loopw [3] (fun i wr => ∃ (k : Nat), k ≤ N ∧ i = .int .i64 k ∧ fewL (L.drop k) = res ∧ Below W0.heap.size W0 wr) (fun i _ => N - (intOf i).toNat)
      case atStart => exact ⟨0, Nat.zero_le _, rfl, HR.out, Z1.out⟩
      case round =>
       clear m6 Z1 B1
       obtain ⟨k, hk, rfl, hf, hb⟩ := hrel
       have n6 := (bk.below hb).cell 6
       by_cases hlt : k < N
       ·have hkL : k < L.length := by rw [RL.out.1]; exact hlt
        obtain ⟨bx, fx, rfl, c0, c1, c2, c3, ok⟩ := (RL.out.2.1.below hb).get hkL
        have hfx := RL.out.2.2.1 _ (List.getElem_mem hkL)
        rw [fewL_drop L k hkL] at hf
        generalize L[k] = x at c0 c1 c2 c3 ok hf hfx
        obtain ⟨ky, i, A, C, a, B, T, b'⟩ := x
        unfold fewX at hf
        unfold RowFew at hfx
        dsimp only at c0 c1 c2 c3 hf hfx
        have zk := bytes_size ky
        have i0 : (0 : Int) ≤ (k : Int) := Int.natCast_nonneg _
        have i1 : (k : Int) < (N : Int) := Int.ofNat_lt.2 hlt
        have KL := Lib.hid hlt
        have HB := Lib.hid hb
        have BB := Lib.hid (B0.out.trans (hb.mono B0.out.size))
        have kx := rfew_spec i C T A B a b' wr ok.1 ok.2.1 hfx.1 hfx.2.1 ok.2.2.1 ok.2.2.2.1 ok.2.2.2.2.1 ok.2.2.2.2.2 hfx.2.2
        clear hfx ok hb hkL
        by_cases hky : ky.length ≤ 200
        ·rw [decide_eq_true hky, Bool.true_and] at hf
         have hky' : ¬ ((200 : Int) < (ky.length : Int)) := by omega
         cases hs : fewS C T with
         | false =>
           rw [hs] at kx
           rw [hs, Bool.false_and] at hf
           subst hf
           clear hs
           go_wp2_with fail
           refine kx.mono ?_
           rintro e w3 ⟨rfl, b3⟩
           have B3 := Lib.hid (BB.out.trans (b3.mono BB.out.size))
           clear b3 kx
           go_wp2
           go_ret
           exact ⟨rfl, B3.out⟩
         | true =>
           rw [hs] at kx
           rw [hs, Bool.true_and] at hf
           have HF := Lib.hid hf
           clear hs hf
           go_wp2_with fail
           refine kx.mono ?_
           rintro e w3 ⟨rfl, b3⟩
           have H3 := Lib.hid (HB.out.trans (b3.mono HB.out.size))
           clear b3 kx
           go_wp2
           go_roundw
           case rel => exact ⟨k + 1, Nat.succ_le_of_lt KL.out, by go_num, HF.out, H3.out⟩
           case measure => have := KL.out; simp [intOf]; omega
        ·rw [decide_eq_false hky, Bool.false_and, Bool.false_and] at hf
         have hky' : (200 : Int) < (ky.length : Int) := by omega
         subst hf
         clear kx
         go_wp2
         go_ret
         exact ⟨rfl, BB.out⟩
       ·obtain rfl : k = N := Nat.le_antisymm hk (Nat.le_of_not_lt hlt)
        rw [List.drop_eq_nil_of_le (by rw [RL.out.1]; exact Nat.le_refl _)] at hf
        have hf : true = res := hf
        subst hf
        have BB := Lib.hid (B0.out.trans (hb.mono B0.out.size))
        clear hb
        go_wp2
        go_ret
        exact ⟨rfl, BB.out⟩
     ·rw [if_neg hl]
      have hl' : (4 : Int) < (N : Int) := by omega
      go_enter Tryz.func20, Tryz.ntmps20
      go_wp2_with fail
      refine ks.mono ?_
      rintro e w1 ⟨rfl, b1⟩
      have m6 := (bk.below b1).cell 6
      have B1 := Lib.hid (B0.out.trans (b1.mono B0.out.size))
      clear b1 ks q0 q2 q3 q4 q5 q6 hW0 bk
      go_wp2
      go_ret
      exact ⟨rfl, B1.out⟩
  ·rw [if_neg c2]
   have c2' : (200 : Int) < (r.length : Int) := by omega
   clear ks
   go_enter Tryz.func20, Tryz.ntmps20
   go_wp2
   go_ret
   exact ⟨rfl, B0.out⟩
 ·rw [if_neg c1]
  have c1' : (200 : Int) < (o.length : Int) := by omega
  clear ks
  go_enter Tryz.func20, Tryz.ntmps20
  go_wp2
  go_ret
  exact ⟨rfl, B0.out⟩
end Go.Proofs.YtjjpdnpbhdcpbaaGreat
namespace Go.Proofs.YtjjpdnpbhdcpbaaGreat
set_option linter.unusedVariables false
open Go.RowKit Go.Shelf
def CkV.few (x : CkV) : Prop := (∀ y ∈ x.L, RowFew y) ∧ (x.A = none → x.C.length = 0 ∧ x.a = 0) ∧ (x.B = none → x.T.length = 0 ∧ x.b = 0) ∧ weight x.C + weight x.T ≤ 1099511627776
def CkV.i63 (x : CkV) : Prop := x.i < 9223372036854775808 ∧ ∀ y ∈ x.L, y.i < 9223372036854775808
end Go.Proofs.YtjjpdnpbhdcpbaaGreat
