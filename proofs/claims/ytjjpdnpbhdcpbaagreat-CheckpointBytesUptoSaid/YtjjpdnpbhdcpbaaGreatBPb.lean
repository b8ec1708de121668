/- Lemmas and contracts on what the walks need, several small texts in one. Conditions: as each theorem states. -/
import Derived.Test.YtjjpdnpbhdcpbaaGreatQPc
import Derived.Test.YtjjpdnpbhdcpbaaGreatQPb
import Derived.Test.YtjjpdnpbhdcpbaaGreatQSgJ
import Derived.Test.YtjjpdnpbhdcpbaaGreatQSgI
import Derived.Test.YtjjpdnpbhdcpbaaGreatQSgH
import Derived.Test.YtjjpdnpbhdcpbaaGreatQSgG
import Derived.Test.YtjjpdnpbhdcpbaaGreatQSgF
import Derived.Test.YtjjpdnpbhdcpbaaGreatQPa
import Derived.Test.YtjjpdnpbhdcpbaaGreatQMkA
import Derived.Test.YtjjpdnpbhdcpbaaGreatLayJ
import Derived.Test.YtjjpdnpbhdcpbaaGreatBPa
import Derived.Test.YtjjpdnpbhdcpbaaGreatQBase
import Derived.Test.YtjjpdnpbhdcpbaaGreatQShaA
import Derived.Test.YtjjpdnpbhdcpbaaGreatProg
import Derived.Laws.BitsAllLaws
import Derived.BigQuiet
import Derived.BigRegion
import Derived.Deep.RegionHeld3
import Derived.Test.YtjjpdnpbhdcpbaaGreatLayC
import Derived.Test.YtjjpdnpbhdcpbaaGreatLay
import Derived.Test.YtjjpdnpbhdcpbaaGreatQShaB
import Derived.Laws.CopyRow
import Derived.Laws.IdiomStrings
import Derived.Lib.Bytealg
import Derived.Laws.MakeOwn
import Derived.Test.YtjjpdnpbhdcpbaaGreatLayL
import Derived.Test.YtjjpdnpbhdcpbaaGreatQCdA
import Derived.Test.YtjjpdnpbhdcpbaaGreatQMkB
import Derived.Test.YtjjpdnpbhdcpbaaGreatLayR
import Derived.Lib.OthersKept
import Derived.Test.YtjjpdnpbhdcpbaaGreatQSgD
import Derived.RangeFuncNested
import Derived.RangeFuncBound
import Derived.RangeFuncCalls
import Derived.RangeFuncLeaves
import Derived.Shelf.Abstract
import Derived.Shelf.RegionOpen
import Derived.OwnWalkIn
import Derived.TacticsInMore
import Derived.LoopNIn
import Derived.LoopIn
import Derived.Lib.FrozenHead2
import Derived.OrdersIn
import Derived.RangeFuncFrom
import Derived.Laws.ResultCell
import Derived.Test.YtjjpdnpbhdcpbaaGreatBCdB
import Derived.Test.YtjjpdnpbhdcpbaaGreatQCdB
import Derived.Test.YtjjpdnpbhdcpbaaGreatQSgL
namespace Go.Proofs.YtjjpdnpbhdcpbaaGreat
set_option linter.unusedVariables false
open Go.RowKit
attribute [local go_sem] Oper.semAt_some
set_option maxRecDepth 20000 in
set_option maxHeartbeats 2000000 in
theorem rheaded_spec (o : Sg.Str) (n : Int) (r : Sg.Str) (w : World) :
 Calls Tryz.prog 54 #[.agg #[.string ⟨o.toArray⟩, .int .i64 n, .string ⟨r.toArray⟩]] w fun e w' => e = .returned (.bool (headB o n r)) ∧ Below w.heap.size w w' := by
 have z1 := bytes_size o
 have z2 := bytes_size r
 have b0 := (Below.refl _ w).alloc (Nat.le_refl _) (.cells #[.string ⟨o.toArray⟩, .int .i64 n, .string ⟨r.toArray⟩] 25)
 have HB := Lib.hid b0
 clear b0
 have kd := fun W => rdigest_spec r W
 unfold headB
 by_cases c0 : 1 ≤ o.length
 ·rw [decide_eq_true c0]
  have d00 : decide ((o.length : Int) ≥ 1) = true := decide_eq_true (by omega)
  have d01 : decide (1 ≤ (o.length : Int)) = true := decide_eq_true (by omega)
  have d02 : decide (1 ≤ o.length) = true := decide_eq_true (by omega)
  have d03 : decide (0 < o.length) = true := decide_eq_true (by omega)
  clear c0
  by_cases c1 : o.length ≤ 64
  ·rw [decide_eq_true c1]
   have d10 : decide ((o.length : Int) ≤ 64) = true := decide_eq_true (by omega)
   have d11 : decide (o.length ≤ 64) = true := decide_eq_true (by omega)
   clear c1
   by_cases c2 : 0 ≤ n
   ·rw [decide_eq_true c2]
    have d20 : decide (n ≥ 0) = true := decide_eq_true (by omega)
    have d21 : decide (0 ≤ n) = true := decide_eq_true (by omega)
    clear c2
    by_cases c3 : n ≤ 4096
    ·rw [decide_eq_true c3]
     have d30 : decide (n ≤ 4096) = true := decide_eq_true (by omega)
     clear c3
     go_enter Tryz.func54, Tryz.ntmps54
     go_wp2_with fail
     refine (kd _).mono ?_
     rintro e w1 ⟨rfl, rfl⟩
     go_wp2
     go_ret
     exact ⟨rfl, HB.out⟩
    ·rw [decide_eq_false c3]
     have d30 : decide (n ≤ 4096) = false := decide_eq_false (by omega)
     clear c3
     go_enter Tryz.func54, Tryz.ntmps54
     go_wp2
     go_ret
     exact ⟨rfl, HB.out⟩
   ·rw [decide_eq_false c2]
    have d20 : decide (n ≥ 0) = false := decide_eq_false (by omega)
    have d21 : decide (0 ≤ n) = false := decide_eq_false (by omega)
    clear c2
    go_enter Tryz.func54, Tryz.ntmps54
    go_wp2
    go_ret
    exact ⟨rfl, HB.out⟩
  ·rw [decide_eq_false c1]
   have d10 : decide ((o.length : Int) ≤ 64) = false := decide_eq_false (by omega)
   have d11 : decide (o.length ≤ 64) = false := decide_eq_false (by omega)
   clear c1
   go_enter Tryz.func54, Tryz.ntmps54
   go_wp2
   go_ret
   exact ⟨rfl, HB.out⟩
 ·rw [decide_eq_false c0]
  have d00 : decide ((o.length : Int) ≥ 1) = false := decide_eq_false (by omega)
  have d01 : decide (1 ≤ (o.length : Int)) = false := decide_eq_false (by omega)
  have d02 : decide (1 ≤ o.length) = false := decide_eq_false (by omega)
  have d03 : decide (0 < o.length) = false := decide_eq_false (by omega)
  clear c0
  go_enter Tryz.func54, Tryz.ntmps54
  go_wp2
  go_ret
  exact ⟨rfl, HB.out⟩
set_option maxRecDepth 20000 in
theorem rcknum_spec (n : Nat) (h : n < 9223372036854775808) (w : World) : Calls Tryz.prog 71 #[.int .i64 (n : Int)] w fun e w' => e = .returned (.string ⟨(Cd.uns n).toArray⟩) ∧ Below w.heap.size w w' := by
 have k := ruint_pos n h w
 clear h
 go_enter Tryz.func71, Tryz.ntmps71
 go_wp2_with fail
 refine k.mono ?_
 rintro e w1 ⟨rfl, b1⟩
 go_wp2
 go_ret
 exact ⟨rfl, b1⟩
set_option maxRecDepth 20000 in
set_option maxHeartbeats 2000000 in
theorem rckbytes_spec (o : Sg.Str) (n : Int) (r : Sg.Str) (w : World) (h : headB o n r = true) :
 Calls Tryz.prog 56 #[.agg #[.string ⟨o.toArray⟩, .int .i64 n, .string ⟨r.toArray⟩]] w fun e w' => e = .returned (.string ⟨(headS o n r).toArray⟩) ∧ Below w.heap.size w w' := by
 obtain ⟨_, h2, h3, h4, h5⟩ := headB_parts h
 obtain ⟨q, rfl⟩ : ∃ q : Nat, n = q := ⟨n.toNat, by omega⟩
 have kO := fun W => text_ref o (Nat.le_trans h2 (by decide)) W
 have kR := fun W => text_ref r (by rw [h5]; decide) W
 have kN := fun W => rcknum_spec q (by omega) W
 have l1 : (Cd.text o).length ≤ 80 := by have := Cd.uns_len o.length; unfold Cd.text; rw [List.length_append]; omega
 have l2 := Cd.uns_len q
 have l3 : (Cd.text r).length ≤ 50 := by have := Cd.uns_len r.length; unfold Cd.text; rw [List.length_append]; omega
 have hs : headS o (q : Int) r = Cd.text o ++ Cd.uns q ++ Cd.text r := by unfold headS; rw [Int.toNat_natCast]
 rw [hs]
 generalize Cd.text o = O at kO l1
 generalize Cd.text r = R at kR l3
 generalize Cd.uns q = U at kN l2
 have g1 := bytes_append O U
 have g2 := bytes_append (O ++ U) R
 obtain ⟨f1, f2⟩ := sg_cat O U (by omega)
 obtain ⟨f3, f4⟩ := sg_cat (O ++ U) R (by rw [List.length_append]; omega)
 simp only [List.length_append] at f3 f4
 have bk := Blk.new w 25 #[.string ⟨o.toArray⟩, .int .i64 (q : Int), .string ⟨r.toArray⟩]
 have b0 := (Below.refl _ w).alloc (Nat.le_refl _) (.cells #[.string ⟨o.toArray⟩, .int .i64 (q : Int), .string ⟨r.toArray⟩] 25)
 obtain ⟨W0, hW0⟩ : ∃ W0, w.alloc (.cells #[.string ⟨o.toArray⟩, .int .i64 (q : Int), .string ⟨r.toArray⟩] 25) = W0 := ⟨_, rfl⟩
 rw [hW0] at bk b0
 have HB := Lib.hid b0
 have HS := Lib.hid (show ∀ W, Below W0.heap.size W0 W → (W.cell? ⟨w.heap.size, 0, none⟩ = some (.string ⟨o.toArray⟩) ∧ W.cell? ⟨w.heap.size, 1, none⟩ = some (.int .i64 (q : Int)) ∧ W.cell? ⟨w.heap.size, 2, none⟩ = some (.string ⟨r.toArray⟩)) from fun W hb => ⟨(bk.below hb).cell 0, (bk.below hb).cell 1, (bk.below hb).cell 2⟩)
 have y0 := (Below.refl W0.heap.size W0).drew
 clear h h2 h3 h4 h5 bk b0 hs l1 l2 l3
 go_enter Tryz.func56, Tryz.ntmps56
 go_wp2_with fail
 clear hW0
 refine wp_region_noPanic ?_
 refine wp_region_held_drew (S := (fun w' => w'.cell? ⟨w.heap.size, 0, none⟩ = some (.string ⟨o.toArray⟩) ∧ w'.cell? ⟨w.heap.size, 1, none⟩ = some (.int .i64 (q : Int)) ∧ w'.cell? ⟨w.heap.size, 2, none⟩ = some (.string ⟨r.toArray⟩))) (by kernel_rfl) ?_ (fun hH0 => ?_)
 ·exact HS.out _ y0
 refine tk 0 3 hH0 ?_
 refine tk 1 4 hH0 ?_
 refine tk 3 6 hH0 ?_
 refine tk 4 7 hH0 ?_
 refine tk 7 10 hH0 ?_
 refine tk 8 11 hH0 ?_
 refine rdy [2] ?_
 refine an 5 fun K hK => ?_
 go_simp; (
  with_reducible refine (kO _).mono ?_
  rintro e w1 ⟨rfl, b1⟩
  have y1 := y0.trans (b1.mono y0.size)); go_wp2_with fail
 refine hK.out _ _ ?_ (fun hH1 => ?_)
 ·exact HS.out _ y1
 clear hK K hH0
 try simp only [pu]
 refine rdy [5] ?_
 refine an 8 fun K hK => ?_
 go_simp; (
  with_reducible refine (kN _).mono ?_
  rintro e w2 ⟨rfl, b2⟩
  have y2 := y1.trans (b2.mono y1.size)); go_wp2_with fail
 refine hK.out _ _ ?_ (fun hH2 => ?_)
 ·exact HS.out _ y2
 clear hK K hH1
 try simp only [pu]
 refine tk 6 9 hH2 ?_
 refine rdy [9] ?_
 refine an 12 fun K hK => ?_
 go_simp; (
  with_reducible refine (kR _).mono ?_
  rintro e w3 ⟨rfl, b3⟩
  have y3 := y2.trans (b3.mono y2.size)); go_wp2_with fail
 refine hK.out _ _ ?_ (fun hH3 => ?_)
 ·exact HS.out _ y3
 clear hK K hH2
 try simp only [pu]
 refine tk 10 13 hH3 ?_
 refine tk 11 2 hH3 ?_
 refine dn ?_ _
 all_goals (refine NoPanic.normal ?_)
 go_wp2
 go_ret
 refine ⟨?_, HB.out.trans (y3.mono HB.out.size)⟩
 first
  | rfl
  | (rw [List.append_assoc]; rfl)
end Go.Proofs.YtjjpdnpbhdcpbaaGreat
namespace Go.Proofs.YtjjpdnpbhdcpbaaGreat
set_option linter.unusedVariables false
open Go.RowKit Go.Shelf
attribute [local go_sem] Oper.semAt_some
theorem wraps_nat (x : Nat) (h : x < 1000000) : wrap64 (x : Int) = (x : Int) ∧ IntKind.i64.wrap (x : Int) = (x : Int) :=
 ⟨IntWalk.wrap64_in _ (by omega), by rw [IntKind.wrap_i64]; omega⟩
end Go.Proofs.YtjjpdnpbhdcpbaaGreat
