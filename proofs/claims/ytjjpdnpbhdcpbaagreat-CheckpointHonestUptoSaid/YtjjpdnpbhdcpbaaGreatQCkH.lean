/-
  Checkpoints: whether a cosignature counts for a key, in the program. Conditions: none.
-/
import Derived.Test.YtjjpdnpbhdcpbaaGreatQCkF
namespace Go.Proofs.YtjjpdnpbhdcpbaaGreat
set_option linter.unusedVariables false
open Go.RowKit Go.Shelf
attribute [local go_sem] Oper.semAt_some
def hitB (o : Sg.Str) (z : Int) (r key : Sg.Str) (x : SgRow) : Bool := headB o z r && ((x.key == key) && verB key (Sg.dgs (5 :: headS o z r)) x.i x.C x.T)
def cntB (o : Sg.Str) (z : Int) (r key : Sg.Str) (L : List SgRow) : Bool := L.any (hitB o z r key)
theorem cnt_drop (o : Sg.Str) (z : Int) (r key : Sg.Str) (L : List SgRow) (k : Nat) (hk : k < L.length) : cntB o z r key (L.drop k) = (hitB o z r key L[k] || cntB o z r key (L.drop (k + 1))) := by
 rw [List.drop_eq_getElem_cons hk]
 rfl
set_option maxRecDepth 20000 in
set_option maxHeartbeats 4000000 in
theorem counts_spec (o : Sg.Str) (z : Int) (r : Sg.Str) (si : Int) (sA sB : Option Addr) (sC sT : List Sg.Str) (sa sb : Nat) (X : Option Addr) (L : List SgRow) (c : Nat) (key : Sg.Str) (w : World) (hR : RowsR w X L) (hc1 : L.length ≤ c) (hc2 : c ≤ maxLen) :
 Calls Tryz.prog 66 #[.agg #[.string ⟨o.toArray⟩, .int .i64 z, .string ⟨r.toArray⟩, .int .i64 si, .slice sA sC.length sa, .slice sB sT.length sb, .slice X L.length c], .string ⟨key.toArray⟩] w fun e w' => e = .returned (.bool (cntB o z r key L)) ∧ Below w.heap.size w w' := by
 obtain ⟨N, hN⟩ : ∃ N, L.length = N := ⟨_, rfl⟩
 rw [hN] at hc1 ⊢
 have hN63 : N ≤ 9223372036854775807 := Nat.le_trans hc1 (Nat.le_trans hc2 (by decide))
 obtain ⟨res, hres⟩ : ∃ res, cntB o z r key L = res := ⟨_, rfl⟩
 rw [hres]
 have B0 := Lib.hid ((Below.refl w.heap.size w).alloc (Nat.le_refl _) (.cells #[.string ⟨o.toArray⟩, .int .i64 z, .string ⟨r.toArray⟩, .int .i64 si, .slice sA sC.length sa, .slice sB sT.length sb, .slice X N c] 32))
 have bk := Blk.new w 32 #[.string ⟨o.toArray⟩, .int .i64 z, .string ⟨r.toArray⟩, .int .i64 si, .slice sA sC.length sa, .slice sB sT.length sb, .slice X N c]
 have hR' := hR.below B0.out
 obtain ⟨W0, hW0⟩ : ∃ W0, w.alloc (.cells #[.string ⟨o.toArray⟩, .int .i64 z, .string ⟨r.toArray⟩, .int .i64 si, .slice sA sC.length sa, .slice sB sT.length sb, .slice X N c] 32) = W0 := ⟨_, rfl⟩
 rw [hW0] at B0 bk hR'
 have HL := Lib.hid (And.intro hN (And.intro hR' (And.intro hres bk)))
 have q0 := bk.cell 6
 clear hR hres hN bk hR'
 have kh := fun W' => headed_spec o z r W'
 have kb := fun (hh : headB o z r = true) W' => ckbytes_spec o z r W' hh
 go_enter Tryz.func66, Tryz.ntmps66
 go_wp2_with fail
 clear hW0 q0
 go_loopw [10] (fun i wr => ∃ (k : Nat), k ≤ N ∧ i = .int .i64 k ∧ cntB o z r key (L.drop k) = res ∧ Below W0.heap.size W0 wr) (fun i _ => N - (intOf i).toNat)
 case atStart => exact ⟨0, Nat.zero_le _, rfl, HL.out.2.2.1, Below.refl _ _⟩
 case round =>
  obtain ⟨k, hk, rfl, hf, hb⟩ := hrel
  by_cases hlt : k < N
  ·have hkL : k < L.length := by rw [HL.out.1]; exact hlt
   obtain ⟨b, off, rfl, c0, c1, c2, c3, ok⟩ := (HL.out.2.1.below hb).get hkL
   rw [cnt_drop o z r key L k hkL] at hf
   obtain ⟨x, hx⟩ : ∃ x, L[k] = x := ⟨_, rfl⟩
   rw [hx] at c0 c1 c2 c3 ok hf
   obtain ⟨ky, i, A, C, a, B, T, b'⟩ := x
   unfold hitB at hf
   dsimp only at c0 c1 c2 c3 hf
   have i0 : (0 : Int) ≤ (k : Int) := Int.natCast_nonneg _
   have i1 : (k : Int) < (N : Int) := Int.ofNat_lt.2 hlt
   have HB := Lib.hid hb
   have KL := Lib.hid hlt
   have hk63 : (k : Int) + 1 ≤ 9223372036854775807 := by omega
   have h0 := (HL.out.2.2.2.below hb).cell 0
   have h1 := (HL.out.2.2.2.below hb).cell 1
   have h2 := (HL.out.2.2.2.below hb).cell 2
   have ya := (Below.refl wr.heap.size wr).alloc (Nat.le_refl _) (.cells #[.string ⟨ky.toArray⟩, .int .i64 i, .slice A C.length a, .slice B T.length b'] 64)
   have bw := Blk.new wr 64 #[.string ⟨ky.toArray⟩, .int .i64 i, .slice A C.length a, .slice B T.length b']
   obtain ⟨W1, hW1⟩ : ∃ W1, wr.alloc (.cells #[.string ⟨ky.toArray⟩, .int .i64 i, .slice A C.length a, .slice B T.length b'] 64) = W1 := ⟨_, rfl⟩
   rw [hW1] at ya bw
   have hsz := ya.size
   have hS : ∀ W', Below wr.heap.size wr W' → Below W1.heap.size W1 W' → (W'.cell? ⟨w.heap.size, 0, none⟩ = some (.string ⟨o.toArray⟩) ∧ W'.cell? ⟨w.heap.size, 1, none⟩ = some (.int .i64 z) ∧ W'.cell? ⟨w.heap.size, 2, none⟩ = some (.string ⟨r.toArray⟩) ∧ W'.cell? ⟨wr.heap.size, 0, none⟩ = some (.string ⟨ky.toArray⟩) ∧ W'.cell? ⟨wr.heap.size, 1, none⟩ = some (.int .i64 i) ∧ W'.cell? ⟨wr.heap.size, 2, none⟩ = some (.slice A C.length a) ∧ W'.cell? ⟨wr.heap.size, 3, none⟩ = some (.slice B T.length b')) := fun W' hb hb' => ⟨below_cell hb h0, below_cell hb h1, below_cell hb h2, (bw.below hb').cell 0, (bw.below hb').cell 1, (bw.below hb').cell 2, (bw.below hb').cell 3⟩
   have HS := Lib.hid (show ∀ W', Below W1.heap.size W1 W' → (W'.cell? ⟨w.heap.size, 0, none⟩ = some (.string ⟨o.toArray⟩) ∧ W'.cell? ⟨w.heap.size, 1, none⟩ = some (.int .i64 z) ∧ W'.cell? ⟨w.heap.size, 2, none⟩ = some (.string ⟨r.toArray⟩) ∧ W'.cell? ⟨wr.heap.size, 0, none⟩ = some (.string ⟨ky.toArray⟩) ∧ W'.cell? ⟨wr.heap.size, 1, none⟩ = some (.int .i64 i) ∧ W'.cell? ⟨wr.heap.size, 2, none⟩ = some (.slice A C.length a) ∧ W'.cell? ⟨wr.heap.size, 3, none⟩ = some (.slice B T.length b')) from fun W' hb' => hS W' (ya.trans (hb'.mono hsz)) hb')
   have y0 := (Below.refl W1.heap.size W1).drew
   have s0 := HS.out _ y0
   have YA := Lib.hid ya
   clear ya hb bw
   cases hh : headB o z r with
   | false =>
     rw [hh] at kh hf
     rw [Bool.false_and, Bool.false_or] at hf
     have HF := Lib.hid hf
     clear hf hh kb
     clear ok hx hkL hS h0 h1 h2
     go_wp2_with fail
     refine wp_region_noPanic ?_
     refine wp_region_held_drew (S := (fun W' => W'.cell? ⟨w.heap.size, 0, none⟩ = some (.string ⟨o.toArray⟩) ∧ W'.cell? ⟨w.heap.size, 1, none⟩ = some (.int .i64 z) ∧ W'.cell? ⟨w.heap.size, 2, none⟩ = some (.string ⟨r.toArray⟩) ∧ W'.cell? ⟨wr.heap.size, 0, none⟩ = some (.string ⟨ky.toArray⟩) ∧ W'.cell? ⟨wr.heap.size, 1, none⟩ = some (.int .i64 i) ∧ W'.cell? ⟨wr.heap.size, 2, none⟩ = some (.slice A C.length a) ∧ W'.cell? ⟨wr.heap.size, 3, none⟩ = some (.slice B T.length b'))) (by kernel_rfl) ?_ (fun hH0 => ?_)
     ·with_reducible exact s0
     refine tk 0 14 hH0 ?_
     refine tk 1 15 hH0 ?_
     refine rdy [2] ?_
     refine an 16 fun K hK => ?_
     go_simp; (
      with_reducible refine (kh _).mono ?_
      rintro e v0 ⟨rfl, b0⟩
      have y1 := y0.trans (b0.mono y0.size)
      have s1 := HS.out _ y1); go_wp2_with fail
     refine hK.out _ _ (by with_reducible exact s1) fun hH1 => ?_
     clear hK K hH0
     try simp only [pu]
     refine tk 3 17 hH1 ?_
     refine tu 4 18 hH1 ?_
     refine tu 5 19 hH1 ?_
     refine tu 6 20 hH1 ?_
     refine tu 7 21 hH1 ?_
     refine tk 8 22 hH1 ?_
     refine tk 9 23 hH1 ?_
     refine tu 10 24 hH1 ?_
     refine tu 11 25 hH1 ?_
     refine tu 12 26 hH1 ?_
     refine tu 13 27 hH1 ?_
     refine tu 14 28 hH1 ?_
     refine tu 15 29 hH1 ?_
     refine tu 16 30 hH1 ?_
     refine tu 17 31 hH1 ?_
     refine tk 18 32 hH1 ?_
     refine dn ?_ _
     all_goals (refine NoPanic.normal ?_)
     go_wp2
     go_roundw
     case rel => have := KL.out; exact ⟨k + 1, Nat.succ_le_of_lt KL.out, by go_num, HF.out, HB.out.trans ((YA.out.trans (y1.mono YA.out.size)).mono HB.out.size)⟩
     case measure => have := KL.out; simp [intOf]; omega
   | true =>
     have kb := kb hh
     have hlen := headS_len hh
     rw [hh] at kh hf
     rw [Bool.true_and] at hf
     cases he : (ky == key) with
     | false =>
       rw [he, Bool.false_and, Bool.false_or] at hf
       have HF := Lib.hid hf
       clear hf hh kb hlen
       clear ok hx hkL hS h0 h1 h2
       go_wp2_with fail
       refine wp_region_noPanic ?_
       refine wp_region_held_drew (S := (fun W' => W'.cell? ⟨w.heap.size, 0, none⟩ = some (.string ⟨o.toArray⟩) ∧ W'.cell? ⟨w.heap.size, 1, none⟩ = some (.int .i64 z) ∧ W'.cell? ⟨w.heap.size, 2, none⟩ = some (.string ⟨r.toArray⟩) ∧ W'.cell? ⟨wr.heap.size, 0, none⟩ = some (.string ⟨ky.toArray⟩) ∧ W'.cell? ⟨wr.heap.size, 1, none⟩ = some (.int .i64 i) ∧ W'.cell? ⟨wr.heap.size, 2, none⟩ = some (.slice A C.length a) ∧ W'.cell? ⟨wr.heap.size, 3, none⟩ = some (.slice B T.length b'))) (by kernel_rfl) ?_ (fun hH0 => ?_)
       ·with_reducible exact s0
       refine tk 0 14 hH0 ?_
       refine tk 1 15 hH0 ?_
       refine rdy [2] ?_
       refine an 16 fun K hK => ?_
       go_simp; (
        with_reducible refine (kh _).mono ?_
        rintro e v0 ⟨rfl, b0⟩
        have y1 := y0.trans (b0.mono y0.size)
        have s1 := HS.out _ y1); go_wp2_with fail
       refine hK.out _ _ (by with_reducible exact s1) fun hH1 => ?_
       clear hK K hH0
       try simp only [pu]
       refine tk 3 17 hH1 ?_
       refine tk 4 18 hH1 ?_
       refine tk 5 19 hH1 ?_
       refine tk 6 20 hH1 ?_
       refine tk 7 21 hH1 ?_
       refine tk 8 22 hH1 ?_
       refine tk 9 23 hH1 ?_
       refine tu 10 24 hH1 ?_
       refine tu 11 25 hH1 ?_
       refine tu 12 26 hH1 ?_
       refine tu 13 27 hH1 ?_
       refine tu 14 28 hH1 ?_
       refine tu 15 29 hH1 ?_
       refine tu 16 30 hH1 ?_
       refine tu 17 31 hH1 ?_
       refine tk 18 32 hH1 ?_
       refine dn ?_ _
       all_goals (refine NoPanic.normal ?_)
       go_wp2
       go_roundw
       case rel => have := KL.out; exact ⟨k + 1, Nat.succ_le_of_lt KL.out, by go_num, HF.out, HB.out.trans ((YA.out.trans (y1.mono YA.out.size)).mono HB.out.size)⟩
       case measure => have := KL.out; simp [intOf]; omega
     | true =>
       rw [he, Bool.true_and] at hf
       have kv : ∀ W', Below W1.heap.size W1 W' → Calls Tryz.prog 64 #[.string ⟨key.toArray⟩, .string ⟨((5 : UInt8) :: headS o z r).toArray⟩, .agg #[.int .i64 i, .slice A C.length a, .slice B T.length b']] W' fun e w' => e = .returned (.bool (verB key (Sg.dgs (5 :: headS o z r)) i C T)) ∧ Below W'.heap.size W' w' := fun W' hb' =>
        have hw := YA.out.trans (hb'.mono hsz)
        verify_spec key (5 :: headS o z r) i C T A B a b' W' (by rw [List.length_cons]; omega) (ok.1.below hw) (ok.2.1.below hw) ok.2.2.1 ok.2.2.2.1 ok.2.2.2.2.1 ok.2.2.2.2.2
       have g1 := cons_bytes 5 (headS o z r)
       obtain ⟨f1, f2⟩ := sg_cat [5] (headS o z r) (by rw [List.length_singleton]; omega)
       rw [List.length_singleton] at f1 f2
       cases hv : verB key (Sg.dgs (5 :: headS o z r)) i C T with
       | false =>
         rw [hv] at kv hf
         rw [Bool.false_or] at hf
         have HF := Lib.hid hf
         clear hf hh hlen
         clear ok hx hkL hS h0 h1 h2
         go_wp2_with fail
         refine wp_region_noPanic ?_
         refine wp_region_held_drew (S := (fun W' => W'.cell? ⟨w.heap.size, 0, none⟩ = some (.string ⟨o.toArray⟩) ∧ W'.cell? ⟨w.heap.size, 1, none⟩ = some (.int .i64 z) ∧ W'.cell? ⟨w.heap.size, 2, none⟩ = some (.string ⟨r.toArray⟩) ∧ W'.cell? ⟨wr.heap.size, 0, none⟩ = some (.string ⟨ky.toArray⟩) ∧ W'.cell? ⟨wr.heap.size, 1, none⟩ = some (.int .i64 i) ∧ W'.cell? ⟨wr.heap.size, 2, none⟩ = some (.slice A C.length a) ∧ W'.cell? ⟨wr.heap.size, 3, none⟩ = some (.slice B T.length b'))) (by kernel_rfl) ?_ (fun hH0 => ?_)
         ·with_reducible exact s0
         refine tk 0 14 hH0 ?_
         refine tk 1 15 hH0 ?_
         refine rdy [2] ?_
         refine an 16 fun K hK => ?_
         go_simp; (
          with_reducible refine (kh _).mono ?_
          rintro e v0 ⟨rfl, b0⟩
          have y1 := y0.trans (b0.mono y0.size)
          have s1 := HS.out _ y1); go_wp2_with fail
         refine hK.out _ _ (by with_reducible exact s1) fun hH1 => ?_
         clear hK K hH0
         try simp only [pu]
         refine tk 3 17 hH1 ?_
         refine tk 4 18 hH1 ?_
         refine tk 5 19 hH1 ?_
         refine tk 6 20 hH1 ?_
         refine tk 7 21 hH1 ?_
         refine tk 8 22 hH1 ?_
         refine tk 9 23 hH1 ?_
         refine tk 10 24 hH1 ?_
         refine tk 11 25 hH1 ?_
         refine tk 12 26 hH1 ?_
         refine tk 15 29 hH1 ?_
         refine tk 16 30 hH1 ?_
         refine rdy [13] ?_
         refine an 27 fun K hK => ?_
         go_simp; (
          with_reducible refine (kb _).mono ?_
          rintro e v1 ⟨rfl, b1⟩
          have y2 := y1.trans (b1.mono y1.size)
          have s2 := HS.out _ y2); go_wp2_with fail
         refine hK.out _ _ (by with_reducible exact s2) fun hH2 => ?_
         clear hK K hH1
         try simp only [pu]
         refine tk 14 28 hH2 ?_
         refine rdy [17] ?_
         refine an 31 fun K hK => ?_
         go_simp; (
          with_reducible refine (kv _ y2).mono ?_
          rintro e v2 ⟨rfl, b2⟩
          have y3 := y2.trans (b2.mono y2.size)
          have s3 := HS.out _ y3); go_wp2_with fail
         refine hK.out _ _ (by with_reducible exact s3) fun hH3 => ?_
         clear hK K hH2
         try simp only [pu]
         refine tk 18 32 hH3 ?_
         refine dn ?_ _
         all_goals (refine NoPanic.normal ?_)
         go_wp2
         go_roundw
         case rel => have := KL.out; exact ⟨k + 1, Nat.succ_le_of_lt KL.out, by go_num, HF.out, HB.out.trans ((YA.out.trans (y3.mono YA.out.size)).mono HB.out.size)⟩
         case measure => have := KL.out; simp [intOf]; omega
       | true =>
         rw [hv] at kv hf
         rw [Bool.true_or] at hf
         subst hf
         clear hh hlen
         clear ok hx hkL hS h0 h1 h2
         go_wp2_with fail
         refine wp_region_noPanic ?_
         refine wp_region_held_drew (S := (fun W' => W'.cell? ⟨w.heap.size, 0, none⟩ = some (.string ⟨o.toArray⟩) ∧ W'.cell? ⟨w.heap.size, 1, none⟩ = some (.int .i64 z) ∧ W'.cell? ⟨w.heap.size, 2, none⟩ = some (.string ⟨r.toArray⟩) ∧ W'.cell? ⟨wr.heap.size, 0, none⟩ = some (.string ⟨ky.toArray⟩) ∧ W'.cell? ⟨wr.heap.size, 1, none⟩ = some (.int .i64 i) ∧ W'.cell? ⟨wr.heap.size, 2, none⟩ = some (.slice A C.length a) ∧ W'.cell? ⟨wr.heap.size, 3, none⟩ = some (.slice B T.length b'))) (by kernel_rfl) ?_ (fun hH0 => ?_)
         ·with_reducible exact s0
         refine tk 0 14 hH0 ?_
         refine tk 1 15 hH0 ?_
         refine rdy [2] ?_
         refine an 16 fun K hK => ?_
         go_simp; (
          with_reducible refine (kh _).mono ?_
          rintro e v0 ⟨rfl, b0⟩
          have y1 := y0.trans (b0.mono y0.size)
          have s1 := HS.out _ y1); go_wp2_with fail
         refine hK.out _ _ (by with_reducible exact s1) fun hH1 => ?_
         clear hK K hH0
         try simp only [pu]
         refine tk 3 17 hH1 ?_
         refine tk 4 18 hH1 ?_
         refine tk 5 19 hH1 ?_
         refine tk 6 20 hH1 ?_
         refine tk 7 21 hH1 ?_
         refine tk 8 22 hH1 ?_
         refine tk 9 23 hH1 ?_
         refine tk 10 24 hH1 ?_
         refine tk 11 25 hH1 ?_
         refine tk 12 26 hH1 ?_
         refine tk 15 29 hH1 ?_
         refine tk 16 30 hH1 ?_
         refine rdy [13] ?_
         refine an 27 fun K hK => ?_
         go_simp; (
          with_reducible refine (kb _).mono ?_
          rintro e v1 ⟨rfl, b1⟩
          have y2 := y1.trans (b1.mono y1.size)
          have s2 := HS.out _ y2); go_wp2_with fail
         refine hK.out _ _ (by with_reducible exact s2) fun hH2 => ?_
         clear hK K hH1
         try simp only [pu]
         refine tk 14 28 hH2 ?_
         refine rdy [17] ?_
         refine an 31 fun K hK => ?_
         go_simp; (
          with_reducible refine (kv _ y2).mono ?_
          rintro e v2 ⟨rfl, b2⟩
          have y3 := y2.trans (b2.mono y2.size)
          have s3 := HS.out _ y3); go_wp2_with fail
         refine hK.out _ _ (by with_reducible exact s3) fun hH3 => ?_
         clear hK K hH2
         try simp only [pu]
         refine tk 18 32 hH3 ?_
         refine dn ?_ _
         all_goals (refine NoPanic.normal ?_)
         go_wp2
         go_ret
         exact ⟨rfl, B0.out.trans ((HB.out.trans ((YA.out.trans (y3.mono YA.out.size)).mono HB.out.size)).mono B0.out.size)⟩
  ·obtain rfl : k = N := Nat.le_antisymm hk (Nat.le_of_not_lt hlt)
   rw [List.drop_eq_nil_of_le (by rw [HL.out.1]; exact Nat.le_refl _)] at hf
   subst hf
   have HB := Lib.hid hb
   clear hb
   go_wp2
   go_ret
   exact ⟨rfl, B0.out.trans (HB.out.mono B0.out.size)⟩
end Go.Proofs.YtjjpdnpbhdcpbaaGreat
