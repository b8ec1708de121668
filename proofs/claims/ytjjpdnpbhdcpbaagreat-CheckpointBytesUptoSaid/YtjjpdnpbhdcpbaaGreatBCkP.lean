/-
  Checkpoints: the bytes of a checkpoint, in the reference. Conditions: indices below 2^63.
-/
import Derived.Test.YtjjpdnpbhdcpbaaGreatQCkO
import Derived.Test.YtjjpdnpbhdcpbaaGreatQPd
import Derived.Test.YtjjpdnpbhdcpbaaGreatQCkL
import Derived.Test.YtjjpdnpbhdcpbaaGreatQCkK
import Derived.Test.YtjjpdnpbhdcpbaaGreatQCkJ
import Derived.Test.YtjjpdnpbhdcpbaaGreatQCkI
import Derived.Test.YtjjpdnpbhdcpbaaGreatQCkH
import Derived.Test.YtjjpdnpbhdcpbaaGreatQCkF
import Derived.Test.YtjjpdnpbhdcpbaaGreatQCkE
import Derived.Test.YtjjpdnpbhdcpbaaGreatQPa
import Derived.Test.YtjjpdnpbhdcpbaaGreatBPa
import Derived.Test.YtjjpdnpbhdcpbaaGreatQBase
import Derived.Test.YtjjpdnpbhdcpbaaGreatQCkC
import Derived.Test.YtjjpdnpbhdcpbaaGreatQPc
import Derived.Test.YtjjpdnpbhdcpbaaGreatBPb
import Derived.Test.YtjjpdnpbhdcpbaaGreatBSgQ
import Derived.Deep.Strs
import Derived.Maps.OwnSet
import Derived.Test.YtjjpdnpbhdcpbaaGreatQPb
import Derived.Test.YtjjpdnpbhdcpbaaGreatQSgJ
import Derived.Test.YtjjpdnpbhdcpbaaGreatQSgI
import Derived.Test.YtjjpdnpbhdcpbaaGreatQSgH
import Derived.Test.YtjjpdnpbhdcpbaaGreatQSgG
import Derived.Test.YtjjpdnpbhdcpbaaGreatQSgF
import Derived.Test.YtjjpdnpbhdcpbaaGreatQMkA
import Derived.Test.YtjjpdnpbhdcpbaaGreatLayJ
import Derived.Test.YtjjpdnpbhdcpbaaGreatQShaA
import Derived.Test.YtjjpdnpbhdcpbaaGreatProg
import Derived.Laws.BitsAllLaws
import Derived.BigQuiet
import Derived.BigRegion
import Derived.Deep.RegionHeld3
import Derived.Test.YtjjpdnpbhdcpbaaGreatLayC
import Derived.Test.YtjjpdnpbhdcpbaaGreatLay
import Derived.Test.YtjjpdnpbhdcpbaaGreatQShaB
import Derived.Laws.CopyRow
import Derived.Laws.IdiomStrings
import Derived.Lib.Bytealg
import Derived.Laws.MakeOwn
import Derived.Test.YtjjpdnpbhdcpbaaGreatLayL
import Derived.Test.YtjjpdnpbhdcpbaaGreatQCdA
import Derived.Test.YtjjpdnpbhdcpbaaGreatQMkB
import Derived.Test.YtjjpdnpbhdcpbaaGreatLayR
import Derived.Lib.OthersKept
import Derived.Test.YtjjpdnpbhdcpbaaGreatQSgD
import Derived.RangeFuncNested
import Derived.RangeFuncBound
import Derived.RangeFuncCalls
import Derived.RangeFuncLeaves
import Derived.Shelf.Abstract
import Derived.Shelf.RegionOpen
import Derived.OwnWalkIn
import Derived.TacticsInMore
import Derived.LoopNIn
import Derived.LoopIn
import Derived.Lib.FrozenHead2
import Derived.OrdersIn
import Derived.RangeFuncFrom
import Derived.Laws.ResultCell
import Derived.Test.YtjjpdnpbhdcpbaaGreatBCdB
import Derived.Test.YtjjpdnpbhdcpbaaGreatQCdB
namespace Go.Proofs.YtjjpdnpbhdcpbaaGreat
set_option linter.unusedVariables false
open Go.RowKit Go.Shelf
attribute [local go_sem] Oper.semAt_some
set_option maxRecDepth 20000 in
set_option maxHeartbeats 4000000 in
theorem rckencode_spec (o : Sg.Str) (z : Int) (r : Sg.Str) (si : Int) (sA sB : Option Addr) (sC sT : List Sg.Str) (sa sb : Nat) (X : Option Addr) (L : List SgRow) (c : Nat) (w : World) (hR : RowsR w X L) (hI : ∀ x ∈ L, x.i < 9223372036854775808) (hsi : si < 9223372036854775808)
 (hC : Rd w sA (strs sC)) (hT : Rd w sB (strs sT)) (h1 : sC.length ≤ sa) (h2 : sa ≤ maxLen) (h3 : sT.length ≤ sb) (h4 : sb ≤ maxLen) :
 Calls Tryz.prog 31 #[.agg #[.string ⟨o.toArray⟩, .int .i64 z, .string ⟨r.toArray⟩, .int .i64 si, .slice sA sC.length sa, .slice sB sT.length sb, .slice X L.length c]] w fun e w' => e = .returned (.tuple #[.string ⟨(ckEnc o z r si sC sT L).1.toArray⟩, .int .i64 (ckEnc o z r si sC sT L).2]) ∧ Below w.heap.size w w' := by
 obtain ⟨N, hN⟩ : ∃ N, L.length = N := ⟨_, rfl⟩
 unfold ckEnc
 rw [hN]
 have b0 := (Below.refl w.heap.size w).alloc (Nat.le_refl _) (.cells #[.string ⟨o.toArray⟩, .int .i64 z, .string ⟨r.toArray⟩, .int .i64 si, .slice sA sC.length sa, .slice sB sT.length sb, .slice X N c] 32)
 have bk := Blk.new w 32 #[.string ⟨o.toArray⟩, .int .i64 z, .string ⟨r.toArray⟩, .int .i64 si, .slice sA sC.length sa, .slice sB sT.length sb, .slice X N c]
 obtain ⟨W0, hW0⟩ : ∃ W0, w.alloc (.cells #[.string ⟨o.toArray⟩, .int .i64 z, .string ⟨r.toArray⟩, .int .i64 si, .slice sA sC.length sa, .slice sB sT.length sb, .slice X N c] 32) = W0 := ⟨_, rfl⟩
 rw [hW0] at b0 bk
 have ke := rencode_spec si sC sT sA sB sa sb W0 hsi (hC.below b0) (hT.below b0) h1 h2 h3 h4
 have kh := fun W' => rheaded_spec o z r W'
 have q3 := bk.cell 3
 have q4 := bk.cell 4
 have q5 := bk.cell 5
 unfold encE at ke
 cases ho : okB si sC sT with
 | false =>
   rw [ho, if_neg (by decide)] at ke
   rw [if_neg (by decide)]
   clear hR hI hC hT h1 h2 h3 h4 ho hN
   cases hh : headB o z r with
   | false =>
     rw [hh] at kh
     clear hh
     go_enter Tryz.func31, Tryz.ntmps31
     go_wp2_with fail
     refine ke.mono ?_
     rintro e w1 ⟨rfl, b1⟩
     have k1 := bk.below b1
     have h0 := k1.cell 0
     have h1 := k1.cell 1
     have h2 := k1.cell 2
     have y1 := b0.trans (b1.mono b0.size)
     clear ke hW0 q3 q4 q5
     go_wp2_with fail
     refine (kh _).mono ?_
     rintro e w2 ⟨rfl, b2⟩
     have k6 := (k1.below b2).cell 6
     have y2 := Lib.hid (y1.trans (b2.mono y1.size))
     clear b1 b2 h0 h1 h2 k1 bk b0 y1
     go_wp2
     go_ret2
     exact ⟨rfl, y2.out⟩
   | true =>
     rw [hh] at kh
     clear hh
     by_cases hl : N ≤ 1024
     ·have hl' : ¬ ((1024 : Int) < (N : Int)) := by omega
      go_enter Tryz.func31, Tryz.ntmps31
      go_wp2_with fail
      refine ke.mono ?_
      rintro e w1 ⟨rfl, b1⟩
      have k1 := bk.below b1
      have h0 := k1.cell 0
      have h1 := k1.cell 1
      have h2 := k1.cell 2
      have y1 := b0.trans (b1.mono b0.size)
      clear ke hW0 q3 q4 q5
      go_wp2_with fail
      refine (kh _).mono ?_
      rintro e w2 ⟨rfl, b2⟩
      have k6 := (k1.below b2).cell 6
      have y2 := Lib.hid (y1.trans (b2.mono y1.size))
      clear b1 b2 h0 h1 h2 k1 bk b0 y1
      go_wp2
      go_ret2
      exact ⟨rfl, y2.out⟩
     ·have hl' : (1024 : Int) < (N : Int) := by omega
      go_enter Tryz.func31, Tryz.ntmps31
      go_wp2_with fail
      refine ke.mono ?_
      rintro e w1 ⟨rfl, b1⟩
      have k1 := bk.below b1
      have h0 := k1.cell 0
      have h1 := k1.cell 1
      have h2 := k1.cell 2
      have y1 := b0.trans (b1.mono b0.size)
      clear ke hW0 q3 q4 q5
      go_wp2_with fail
      refine (kh _).mono ?_
      rintro e w2 ⟨rfl, b2⟩
      have k6 := (k1.below b2).cell 6
      have y2 := Lib.hid (y1.trans (b2.mono y1.size))
      clear b1 b2 h0 h1 h2 k1 bk b0 y1
      go_wp2
      go_ret2
      exact ⟨rfl, y2.out⟩
 | true =>
   rw [ho, if_pos rfl] at ke
   rw [if_pos rfl]
   have hes := encS_small ho
   have HR := Lib.hid (And.intro hN (And.intro (hR.below b0) (And.intro hI (And.intro bk b0))))
   clear hR hI hC hT h1 h2 h3 h4 ho hN
   generalize encS si sC sT = E at ke hes ⊢
   cases hh : headB o z r with
   | false =>
     rw [hh] at kh
     rw [if_neg (by decide)]
     clear hh
     go_enter Tryz.func31, Tryz.ntmps31
     go_wp2_with fail
     refine ke.mono ?_
     rintro e w1 ⟨rfl, b1⟩
     have k1 := bk.below b1
     have h0 := k1.cell 0
     have h1 := k1.cell 1
     have h2 := k1.cell 2
     have y1 := Lib.hid (b0.trans (b1.mono b0.size))
     clear ke hW0 q3 q4 q5 b1 b0 bk k1
     go_wp2_with fail
     refine (kh _).mono ?_
     rintro e w2 ⟨rfl, b2⟩
     have y2 := Lib.hid (y1.out.trans (b2.mono y1.out.size))
     clear b2 h0 h1 h2
     go_wp2
     go_ret2
     exact ⟨rfl, y2.out⟩
   | true =>
     rw [hh] at kh
     rw [if_pos rfl]
     have kb := fun W' => rckbytes_spec o z r W' hh
     have hhl := headS_len hh
     clear hh
     generalize headS o z r = H at kb hhl ⊢
     by_cases hl : N ≤ 1024
     ·rw [if_pos hl]
      have hl' : ¬ ((1024 : Int) < (N : Int)) := by omega
      have kn := fun W' => rcknum_spec N (by omega) W'
      have hul := Cd.uns_len N
      generalize Cd.uns N = U at kn hul ⊢
      have g1 := bytes_append H E
      have g2 := bytes_append (H ++ E) U
      obtain ⟨f1, f2⟩ := sg_cat H E (by omega)
      obtain ⟨f3, f4⟩ := sg_cat (H ++ E) U (by rw [List.length_append]; omega)
      simp only [List.length_append] at f3 f4
      obtain ⟨res, hres⟩ : ∃ res, ckEncL (H ++ (E ++ U)) L = res := ⟨_, rfl⟩
      rw [hres]
      have hacc : (H ++ (E ++ U)).length ≤ 10000 := by simp only [List.length_append]; omega
      go_enter Tryz.func31, Tryz.ntmps31
      go_wp2_with fail
      refine ke.mono ?_
      rintro e w1 ⟨rfl, b1⟩
      have k1 := bk.below b1
      have h0 := k1.cell 0
      have h1 := k1.cell 1
      have h2 := k1.cell 2
      clear ke hW0 q3 q4 q5 k1
      go_wp2_with fail
      refine (kh _).mono ?_
      rintro e w2 ⟨rfl, b2⟩
      have y2 := b1.trans (b2.mono b1.size)
      have k6 := (bk.below y2).cell 6
      clear b1 b2 h0 h1 h2 kh
      have HS := Lib.hid (show ∀ W', Below W0.heap.size W0 W' → (W'.cell? ⟨w.heap.size, 0, none⟩ = some (.string ⟨o.toArray⟩) ∧ W'.cell? ⟨w.heap.size, 1, none⟩ = some (.int .i64 z) ∧ W'.cell? ⟨w.heap.size, 2, none⟩ = some (.string ⟨r.toArray⟩) ∧ W'.cell? ⟨w.heap.size, 6, none⟩ = some (.slice X N c)) from fun W' hb => ⟨(bk.below hb).cell 0, (bk.below hb).cell 1, (bk.below hb).cell 2, (bk.below hb).cell 6⟩)
      have z0 := y2.drew
      have s0 := HS.out _ z0
      have HA := Lib.hid (And.intro hres hacc)
      clear bk b0 hres hacc hes hhl hul
      go_wp2_with fail
      refine wp_region_noPanic ?_
      refine wp_region_held_drew (S := (fun W' => W'.cell? ⟨w.heap.size, 0, none⟩ = some (.string ⟨o.toArray⟩) ∧ W'.cell? ⟨w.heap.size, 1, none⟩ = some (.int .i64 z) ∧ W'.cell? ⟨w.heap.size, 2, none⟩ = some (.string ⟨r.toArray⟩) ∧ W'.cell? ⟨w.heap.size, 6, none⟩ = some (.slice X N c))) (by kernel_rfl) ?_ (fun hH0 => ?_)
      ·with_reducible exact s0
      refine tk 0 30 hH0 ?_
      refine tk 1 31 hH0 ?_
      refine tk 3 33 hH0 ?_
      refine tk 5 35 hH0 ?_
      refine tk 6 36 hH0 ?_
      refine tk 7 37 hH0 ?_
      refine rdy [2] ?_
      refine an 32 fun K hK => ?_
      go_simp; (
       with_reducible refine (kb _).mono ?_
       rintro e w3 ⟨rfl, b3⟩
       have z1 := z0.trans (b3.mono z0.size)
       have s1 := HS.out _ z1); go_wp2_with fail
      refine hK.out _ _ (by with_reducible exact s1) fun hH1 => ?_
      clear hK K hH0
      try simp only [pu]
      refine tk 4 34 hH1 ?_
      refine rdy [8] ?_
      refine an 38 fun K hK => ?_
      go_simp; (
       with_reducible refine (kn _).mono ?_
       rintro e w4 ⟨rfl, b4⟩
       have z2 := z1.trans (b4.mono z1.size)
       have s2 := HS.out _ z2); go_wp2_with fail
      refine hK.out _ _ (by with_reducible exact s2) fun hH2 => ?_
      clear hK K hH1
      try simp only [pu]
      refine tk 9 39 hH2 ?_
      refine tk 10 6 hH2 ?_
      refine dn ?_ _
      all_goals (refine NoPanic.normal ?_)
      obtain ⟨_, _, _, m6⟩ := s2
      have Z2 := Lib.hid z2
      have HA' := HA
      generalize hacc0 : H ++ (E ++ U) = acc0 at HA' ⊢
      clear HA f1 f2 f3 f4 g1 g2 kb kn
      go_wp2_with fail
      go_loopw [7, 6] (fun i av wr => ∃ (k : Nat) (acc : Sg.Str), k ≤ N ∧ i = .int .i64 k ∧ av = .string ⟨acc.toArray⟩ ∧ acc.length ≤ 10000 + k * 80000 ∧ ckEncL acc (L.drop k) = res ∧ Below W0.heap.size W0 wr) (fun i _ _ => N - (intOf i).toNat)
      case atStart => exact ⟨0, acc0, Nat.zero_le _, rfl, rfl, HA'.out.2, HA'.out.1, Z2.out⟩
      case round =>
       obtain ⟨k, acc, hk, rfl, rfl, ha, hf, hb⟩ := hrel
       clear HA' Z2 z2 z1 z0 m6
       by_cases hlt : k < N
       ·have hkL : k < L.length := by rw [HR.out.1]; exact hlt
        obtain ⟨b, off, rfl, c0, c1, c2, c3, ok⟩ := (HR.out.2.1.below hb).get hkL
        have hxi := HR.out.2.2.1 _ (List.getElem_mem hkL)
        rw [ckEnc_drop acc L k hkL] at hf
        obtain ⟨x, hx⟩ : ∃ x, L[k] = x := ⟨_, rfl⟩
        rw [hx] at c0 c1 c2 c3 ok hf hxi
        obtain ⟨ky, i, A, C, a, B, T, b'⟩ := x
        dsimp only at c0 c1 c2 c3 hf hxi
        have zky := bytes_size ky
        have i0 : (0 : Int) ≤ (k : Int) := Int.natCast_nonneg _
        have i1 : (k : Int) < (N : Int) := Int.ofNat_lt.2 hlt
        have KL := Lib.hid (And.intro hlt ha)
        have B1 := Lib.hid (HR.out.2.2.2.2.trans (hb.mono HR.out.2.2.2.2.size))
        have ya := Below.refl wr.heap.size wr
        have n6 := (HR.out.2.2.2.1.below hb).cell 6
        have kx := rencode_spec i C T A B a b' wr hxi ok.1 ok.2.1 ok.2.2.1 ok.2.2.2.1 ok.2.2.2.2.1 ok.2.2.2.2.2
        unfold encE at kx
        have HB := Lib.hid hb
        clear hx hkL ok hxi hb
        cases hx : okB i C T with
        | false =>
          rw [hx, if_neg (by decide)] at kx
          rw [hx, if_neg (by decide)] at hf
          subst hf
          clear hx ha
          go_wp2_with fail
          refine kx.mono ?_
          rintro e w4 ⟨rfl, b4⟩
          have Y := Lib.hid (ya.trans (b4.mono ya.size))
          clear kx b4 ya
          go_wp2
          go_ret2
          exact ⟨rfl, B1.out.trans (Y.out.mono B1.out.size)⟩
        | true =>
          rw [hx, if_pos rfl] at kx
          rw [hx, if_pos rfl] at hf
          have hes := encS_small hx
          clear hx
          by_cases hky : ky.length ≤ 65536
          ·rw [if_pos hky] at hf
           have hky' : ¬ ((65536 : Int) < (ky.length : Int)) := by omega
           have kt := fun W' => text_ref ky (Nat.le_trans hky (by decide)) W'
           have htl : (Cd.text ky).length ≤ 65546 := by have := Cd.uns_len ky.length; unfold Cd.text; rw [List.length_append]; omega
           generalize encS i C T = E' at kx hes hf
           generalize Cd.text ky = TX at kt htl hf
           have g1 := bytes_append TX E'
           have g2 := bytes_append acc TX
           have g3 := bytes_append (acc ++ TX) E'
           obtain ⟨f1, f2⟩ := sg_cat acc TX (by omega)
           obtain ⟨f3, f4⟩ := sg_cat (acc ++ TX) E' (by rw [List.length_append]; omega)
           simp only [List.length_append] at f3 f4
           have hacc : (acc ++ (TX ++ E')).length ≤ 10000 + (k + 1) * 80000 := by simp only [List.length_append]; omega
           have HF := Lib.hid (And.intro hf hacc)
           clear hf hacc ha hes htl
           go_wp2_with fail
           refine kx.mono ?_
           rintro e w4 ⟨rfl, b4⟩
           have y4 := ya.trans (b4.mono ya.size)
           have v0 := below_cell b4 c0
           have v6 := (HR.out.2.2.2.1.below (HB.out.trans (b4.mono HB.out.size))).cell 6
           clear kx b4
           go_wp2_with fail
           refine (kt _).mono ?_
           rintro e w5 ⟨rfl, b5⟩
           have Y := Lib.hid (y4.trans (b5.mono y4.size))
           clear b5 kt y4 ya
           go_wp2
           go_roundw
           case rel => exact ⟨k + 1, acc ++ (TX ++ E'), Nat.succ_le_of_lt KL.out.1, by go_num, by first | rfl | (rw [List.append_assoc]), HF.out.2, HF.out.1, HB.out.trans (Y.out.mono HB.out.size)⟩
           case measure => have := KL.out.1; simp [intOf]; omega
          ·rw [if_neg hky] at hf
           subst hf
           have hky' : (65536 : Int) < (ky.length : Int) := by omega
           clear hes ha
           go_wp2_with fail
           refine kx.mono ?_
           rintro e w4 ⟨rfl, b4⟩
           have Y := Lib.hid (ya.trans (b4.mono ya.size))
           have v0 := below_cell b4 c0
           have v6 := (HR.out.2.2.2.1.below (HB.out.trans (b4.mono HB.out.size))).cell 6
           clear kx b4 ya
           go_wp2
           go_ret2
           exact ⟨rfl, B1.out.trans (Y.out.mono B1.out.size)⟩
       ·obtain rfl : k = N := Nat.le_antisymm hk (Nat.le_of_not_lt hlt)
        have n6 := (HR.out.2.2.2.1.below hb).cell 6
        rw [List.drop_eq_nil_of_le (by rw [HR.out.1]; exact Nat.le_refl _)] at hf
        subst hf
        have B1 := Lib.hid (HR.out.2.2.2.2.trans (hb.mono HR.out.2.2.2.2.size))
        clear hb
        go_wp2
        go_ret2
        exact ⟨rfl, B1.out⟩
     ·rw [if_neg hl]
      have hl' : (1024 : Int) < (N : Int) := by omega
      go_enter Tryz.func31, Tryz.ntmps31
      go_wp2_with fail
      refine ke.mono ?_
      rintro e w1 ⟨rfl, b1⟩
      have k1 := bk.below b1
      have h0 := k1.cell 0
      have h1 := k1.cell 1
      have h2 := k1.cell 2
      have y1 := b0.trans (b1.mono b0.size)
      clear ke hW0 q3 q4 q5
      go_wp2_with fail
      refine (kh _).mono ?_
      rintro e w2 ⟨rfl, b2⟩
      have k6 := (k1.below b2).cell 6
      have y2 := Lib.hid (y1.trans (b2.mono y1.size))
      clear b1 b2 h0 h1 h2 k1 bk b0 y1
      go_wp2
      go_ret2
      exact ⟨rfl, y2.out⟩
end Go.Proofs.YtjjpdnpbhdcpbaaGreat
