/-
  Checkpoints: equal checkpoints, in the reference. Conditions: none.
-/
import Derived.Test.YtjjpdnpbhdcpbaaGreatQPd
namespace Go.Proofs.YtjjpdnpbhdcpbaaGreat
set_option linter.unusedVariables false
open Go.RowKit Go.Shelf
attribute [local go_sem] Oper.semAt_some
def sameL : List SgRow → List SgRow → Bool
 | [], [] => true
 | x :: L, y :: M => sameC x y && sameL L M
 | _, _ => false
theorem sameL_len : ∀ (L M : List SgRow), ¬ L.length = M.length → sameL L M = false
 | [], [], h => absurd rfl h
 | [], _ :: _, _ => rfl
 | _ :: _, [], _ => rfl
 | x :: L, y :: M, h => by
   show (sameC x y && sameL L M) = false
   rw [sameL_len L M (fun e => h (by rw [List.length_cons, List.length_cons, e])), Bool.and_false]
theorem sameL_drop (L M : List SgRow) (k : Nat) (h1 : k < L.length) (h2 : k < M.length) : sameL (L.drop k) (M.drop k) = (sameC L[k] M[k] && sameL (L.drop (k + 1)) (M.drop (k + 1))) := by
 rw [List.drop_eq_getElem_cons h1, List.drop_eq_getElem_cons h2]
 rfl
def ckSame (o : Sg.Str) (z : Int) (r : Sg.Str) (i : Int) (C T : List Sg.Str) (L : List SgRow) (o' : Sg.Str) (z' : Int) (r' : Sg.Str) (i' : Int) (C' T' : List Sg.Str) (M : List SgRow) : Bool :=
 if o = o' then (if z = z' then (if r = r' then (samB i C T i' C' T' && sameL L M) else false) else false) else false
set_option maxRecDepth 20000 in
set_option maxHeartbeats 4000000 in
theorem same_spec (o : Sg.Str) (z : Int) (r : Sg.Str) (i : Int) (A B : Option Addr) (C T : List Sg.Str) (a b : Nat) (X : Option Addr) (L : List SgRow) (c : Nat) (o' : Sg.Str) (z' : Int) (r' : Sg.Str) (i' : Int) (A' B' : Option Addr) (C' T' : List Sg.Str) (a' b' : Nat) (X' : Option Addr) (L' : List SgRow) (c' : Nat) (w : World)
 (hx : Rd w A (strs C) ∧ Rd w B (strs T) ∧ C.length ≤ maxLen ∧ T.length ≤ maxLen) (hy : Rd w A' (strs C') ∧ Rd w B' (strs T') ∧ C'.length ≤ maxLen ∧ T'.length ≤ maxLen) (hR : RowsR w X L) (hR' : RowsR w X' L') (h1 : L.length ≤ maxLen) (h2 : L'.length ≤ maxLen) :
 Calls Tryz.prog 18 #[.agg #[.string ⟨o.toArray⟩, .int .i64 z, .string ⟨r.toArray⟩, .int .i64 i, .slice A C.length a, .slice B T.length b, .slice X L.length c], .agg #[.string ⟨o'.toArray⟩, .int .i64 z', .string ⟨r'.toArray⟩, .int .i64 i', .slice A' C'.length a', .slice B' T'.length b', .slice X' L'.length c']] w fun e w' => e = .returned (.bool (ckSame o z r i C T L o' z' r' i' C' T' L')) ∧ Below w.heap.size w w' := by
 unfold ckSame
 obtain ⟨N, hN⟩ : ∃ N, L.length = N := ⟨_, rfl⟩
 obtain ⟨M, hM⟩ : ∃ M, L'.length = M := ⟨_, rfl⟩
 rw [hN] at h1 ⊢
 rw [hM] at h2 ⊢
 by_cases ho : o = o'
 ·subst ho
  rw [if_pos rfl]
  by_cases hz : z = z'
  ·subst hz
   rw [if_pos rfl]
   by_cases hr : r = r'
   ·subst hr
    rw [if_pos rfl]
    obtain ⟨W0, hW0⟩ : ∃ W0, w.alloc (.cells #[.string ⟨o.toArray⟩, .int .i64 z, .string ⟨r.toArray⟩, .int .i64 i, .slice A C.length a, .slice B T.length b, .slice X N c] 32) = W0 := ⟨_, rfl⟩
    have hs0 : W0.heap.size = w.heap.size + 1 := by rw [← hW0]; simp
    obtain ⟨W, hW⟩ : ∃ W, W0.alloc (.cells #[.string ⟨o.toArray⟩, .int .i64 z, .string ⟨r.toArray⟩, .int .i64 i', .slice A' C'.length a', .slice B' T'.length b', .slice X' M c'] 32) = W := ⟨_, rfl⟩
    have s0 := ((St.nil w).alloc 32 #[.string ⟨o.toArray⟩, .int .i64 z, .string ⟨r.toArray⟩, .int .i64 i, .slice A C.length a, .slice B T.length b, .slice X N c]).alloc 32 #[.string ⟨o.toArray⟩, .int .i64 z, .string ⟨r.toArray⟩, .int .i64 i', .slice A' C'.length a', .slice B' T'.length b', .slice X' M c']
    rw [hW0, hW, hs0] at s0
    have p0 := s0.tail.blk.cell 0
    have q0 := s0.blk.cell 0
    have p1 := s0.tail.blk.cell 1
    have q1 := s0.blk.cell 1
    have p2 := s0.tail.blk.cell 2
    have q2 := s0.blk.cell 2
    have p3 := s0.tail.blk.cell 3
    have q3 := s0.blk.cell 3
    have p4 := s0.tail.blk.cell 4
    have q4 := s0.blk.cell 4
    have p5 := s0.tail.blk.cell 5
    have q5 := s0.blk.cell 5
    have p6 := s0.tail.blk.cell 6
    have q6 := s0.blk.cell 6
    have B0 := Lib.hid s0.below
    have ks := rsame_spec i C T A B a b i' C' T' A' B' a' b' W (hx.1.below B0.out) (hx.2.1.below B0.out) (hy.1.below B0.out) (hy.2.1.below B0.out) hx.2.2.1 hx.2.2.2 hy.2.2.1 hy.2.2.2
    have RL := Lib.hid (And.intro (hR.below B0.out) (And.intro (hR'.below B0.out) (And.intro s0 (And.intro hN hM))))
    clear hx hy hR hR'
    cases hs : samB i C T i' C' T' with
    | false =>
      rw [hs] at ks
      rw [Bool.false_and]
      clear s0 hs
      go_enter Tryz.func18, Tryz.ntmps18
      go_wp2_with fail
      refine ks.mono ?_
      rintro e w1 ⟨rfl, b1⟩
      have B1 := Lib.hid (B0.out.trans (b1.mono B0.out.size))
      clear b1 ks p0 q0 p1 q1 p2 q2 p3 q3 p4 q4 p5 q5 p6 q6 hW hW0 hs0
      go_wp2
      go_ret
      exact ⟨rfl, B1.out⟩
    | true =>
      rw [hs] at ks
      rw [Bool.true_and]
      clear hs
      by_cases hl : N = M
      ·subst hl
       obtain ⟨res, hres⟩ : ∃ res, sameL L L' = res := ⟨_, rfl⟩
       rw [hres]
       have HR := Lib.hid hres
       clear hres hN hM
       go_enter Tryz.func18, Tryz.ntmps18
       go_wp2_with fail
       refine ks.mono ?_
       rintro e w1 ⟨rfl, b1⟩
       have m1 := (s0.under b1).tail.blk.cell 6
       have m2 := (s0.under b1).blk.cell 6
       have Z1 := Lib.hid b1
       clear ks p0 q0 p1 q1 p2 q2 p3 q3 p4 q4 p5 q5 p6 q6 hW hW0 hs0 s0 b1
       have hN63 : N ≤ 9223372036854775807 := h1
       go_wp2_with fail
       go_loopw [5] (fun iv wr => ∃ (k : Nat), k ≤ N ∧ iv = .int .i64 k ∧ sameL (L.drop k) (L'.drop k) = res ∧ Below W.heap.size W wr) (fun iv _ => N - (intOf iv).toNat)
       case atStart => exact ⟨0, Nat.zero_le _, rfl, HR.out, Z1.out⟩
       case round =>
        clear m1 m2 Z1
        obtain ⟨k, hk, rfl, hf, hb⟩ := hrel
        have n1 := (RL.out.2.2.1.under hb).tail.blk.cell 6
        have n2 := (RL.out.2.2.1.under hb).blk.cell 6
        by_cases hlt : k < N
        ·have hkL : k < L.length := by rw [RL.out.2.2.2.1]; exact hlt
         have hkM : k < L'.length := by rw [RL.out.2.2.2.2]; exact hlt
         obtain ⟨bx, fx, rfl, c0, c1, c2, c3, okx⟩ := (RL.out.1.below hb).get hkL
         obtain ⟨by_, fy, rfl, e0, e1, e2, e3, oky⟩ := (RL.out.2.1.below hb).get hkM
         rw [sameL_drop L L' k hkL hkM] at hf
         generalize L[k] = x at c0 c1 c2 c3 okx hf
         generalize L'[k] = y at e0 e1 e2 e3 oky hf
         have i0 : (0 : Int) ≤ (k : Int) := Int.natCast_nonneg _
         have i1 : (k : Int) < (N : Int) := Int.ofNat_lt.2 hlt
         have hk63 : (k : Int) + 1 ≤ 9223372036854775807 := by omega
         have KL := Lib.hid hlt
         have HB := Lib.hid hb
         have BB := Lib.hid (B0.out.trans (hb.mono B0.out.size))
         have hS : ∀ W', Below wr.heap.size wr W' → (W'.cell? ⟨w.heap.size, 6, none⟩ = some (.slice (some ⟨bx, fx, none⟩) N c) ∧ W'.cell? ⟨w.heap.size + 1, 6, none⟩ = some (.slice (some ⟨by_, fy, none⟩) N c') ∧ W'.cell? ⟨bx, fx + k * 4, none⟩ = some (.string ⟨x.key.toArray⟩) ∧ W'.cell? ⟨bx, fx + k * 4 + 1, none⟩ = some (.int .i64 x.i) ∧ W'.cell? ⟨bx, fx + k * 4 + 2, none⟩ = some (.slice x.A x.C.length x.a) ∧ W'.cell? ⟨bx, fx + k * 4 + 3, none⟩ = some (.slice x.B x.T.length x.b) ∧ W'.cell? ⟨by_, fy + k * 4, none⟩ = some (.string ⟨y.key.toArray⟩) ∧ W'.cell? ⟨by_, fy + k * 4 + 1, none⟩ = some (.int .i64 y.i) ∧ W'.cell? ⟨by_, fy + k * 4 + 2, none⟩ = some (.slice y.A y.C.length y.a) ∧ W'.cell? ⟨by_, fy + k * 4 + 3, none⟩ = some (.slice y.B y.T.length y.b)) := fun W' h => ⟨below_cell h n1, below_cell h n2, below_cell h c0, below_cell h c1, below_cell h c2, below_cell h c3, below_cell h e0, below_cell h e1, below_cell h e2, below_cell h e3⟩
         have y0 := (Below.refl wr.heap.size wr).drew
         have s0 := hS _ y0
         have HS := Lib.hid hS
         have kc := samecos_spec x y wr.drew okx oky
         cases hc : sameC x y with
         | false =>
           rw [hc] at kc
           rw [hc, Bool.false_and] at hf
           subst hf
           clear okx oky hc hb hS hkL hkM c0 c1 c2 c3 e0 e1 e2 e3
           go_wp2_with fail
           refine wp_region_noPanic ?_
           refine wp_region_held_drew (S := (fun W' => W'.cell? ⟨w.heap.size, 6, none⟩ = some (.slice (some ⟨bx, fx, none⟩) N c) ∧ W'.cell? ⟨w.heap.size + 1, 6, none⟩ = some (.slice (some ⟨by_, fy, none⟩) N c') ∧ W'.cell? ⟨bx, fx + k * 4, none⟩ = some (.string ⟨x.key.toArray⟩) ∧ W'.cell? ⟨bx, fx + k * 4 + 1, none⟩ = some (.int .i64 x.i) ∧ W'.cell? ⟨bx, fx + k * 4 + 2, none⟩ = some (.slice x.A x.C.length x.a) ∧ W'.cell? ⟨bx, fx + k * 4 + 3, none⟩ = some (.slice x.B x.T.length x.b) ∧ W'.cell? ⟨by_, fy + k * 4, none⟩ = some (.string ⟨y.key.toArray⟩) ∧ W'.cell? ⟨by_, fy + k * 4 + 1, none⟩ = some (.int .i64 y.i) ∧ W'.cell? ⟨by_, fy + k * 4 + 2, none⟩ = some (.slice y.A y.C.length y.a) ∧ W'.cell? ⟨by_, fy + k * 4 + 3, none⟩ = some (.slice y.B y.T.length y.b))) (by kernel_rfl) ?_ (fun hH0 => ?_)
           ·with_reducible exact s0
           refine tk 0 35 hH0 ?_
           refine tk 1 36 hH0 ?_
           refine tk 2 37 hH0 ?_
           refine tk 3 38 hH0 ?_
           refine tk 4 39 hH0 ?_
           refine tk 5 40 hH0 ?_
           refine tk 6 41 hH0 ?_
           refine tk 7 42 hH0 ?_
           refine tk 8 43 hH0 ?_
           refine tk 9 44 hH0 ?_
           refine rdy [10] ?_
           refine an 45 fun K hK => ?_
           go_simp; (
            with_reducible refine kc.mono ?_
            rintro e w3 ⟨rfl, b3⟩
            have y1 := y0.trans b3
            have s1 := HS.out _ y1); go_wp2_with fail
           refine hK.out _ _ (by with_reducible exact s1) fun hH1 => ?_
           clear hK K hH0
           try simp only [pu]
           refine tk 11 46 hH1 ?_
           refine dn ?_ _
           all_goals (refine NoPanic.normal ?_)
           go_wp2
           go_ret
           exact ⟨rfl, BB.out.trans (y1.mono BB.out.size)⟩
         | true =>
           rw [hc] at kc
           rw [hc, Bool.true_and] at hf
           have HF := Lib.hid hf
           clear okx oky hc hb hS hkL hkM hf c0 c1 c2 c3 e0 e1 e2 e3
           go_wp2_with fail
           refine wp_region_noPanic ?_
           refine wp_region_held_drew (S := (fun W' => W'.cell? ⟨w.heap.size, 6, none⟩ = some (.slice (some ⟨bx, fx, none⟩) N c) ∧ W'.cell? ⟨w.heap.size + 1, 6, none⟩ = some (.slice (some ⟨by_, fy, none⟩) N c') ∧ W'.cell? ⟨bx, fx + k * 4, none⟩ = some (.string ⟨x.key.toArray⟩) ∧ W'.cell? ⟨bx, fx + k * 4 + 1, none⟩ = some (.int .i64 x.i) ∧ W'.cell? ⟨bx, fx + k * 4 + 2, none⟩ = some (.slice x.A x.C.length x.a) ∧ W'.cell? ⟨bx, fx + k * 4 + 3, none⟩ = some (.slice x.B x.T.length x.b) ∧ W'.cell? ⟨by_, fy + k * 4, none⟩ = some (.string ⟨y.key.toArray⟩) ∧ W'.cell? ⟨by_, fy + k * 4 + 1, none⟩ = some (.int .i64 y.i) ∧ W'.cell? ⟨by_, fy + k * 4 + 2, none⟩ = some (.slice y.A y.C.length y.a) ∧ W'.cell? ⟨by_, fy + k * 4 + 3, none⟩ = some (.slice y.B y.T.length y.b))) (by kernel_rfl) ?_ (fun hH0 => ?_)
           ·with_reducible exact s0
           refine tk 0 35 hH0 ?_
           refine tk 1 36 hH0 ?_
           refine tk 2 37 hH0 ?_
           refine tk 3 38 hH0 ?_
           refine tk 4 39 hH0 ?_
           refine tk 5 40 hH0 ?_
           refine tk 6 41 hH0 ?_
           refine tk 7 42 hH0 ?_
           refine tk 8 43 hH0 ?_
           refine tk 9 44 hH0 ?_
           refine rdy [10] ?_
           refine an 45 fun K hK => ?_
           go_simp; (
            with_reducible refine kc.mono ?_
            rintro e w3 ⟨rfl, b3⟩
            have y1 := y0.trans b3
            have s1 := HS.out _ y1); go_wp2_with fail
           refine hK.out _ _ (by with_reducible exact s1) fun hH1 => ?_
           clear hK K hH0
           try simp only [pu]
           refine tk 11 46 hH1 ?_
           refine dn ?_ _
           all_goals (refine NoPanic.normal ?_)
           go_wp2
           go_roundw
           case rel => have := KL.out; exact ⟨k + 1, Nat.succ_le_of_lt KL.out, by go_num, HF.out, HB.out.trans (y1.mono HB.out.size)⟩
           case measure => have := KL.out; simp [intOf]; omega
        ·obtain rfl : k = N := Nat.le_antisymm hk (Nat.le_of_not_lt hlt)
         rw [List.drop_eq_nil_of_le (by rw [RL.out.2.2.2.1]; exact Nat.le_refl _), List.drop_eq_nil_of_le (by rw [RL.out.2.2.2.2]; exact Nat.le_refl _)] at hf
         have hf : true = res := hf
         subst hf
         have BB := Lib.hid (B0.out.trans (hb.mono B0.out.size))
         clear hb
         go_wp2
         go_ret
         exact ⟨rfl, BB.out⟩
      ·rw [sameL_len L L' (by rw [hN, hM]; exact hl)]
       have hl1 : ¬ ((N : Int) = (M : Int)) := by omega
       have hl2 : ((N : Int) != (M : Int)) = true := bne_iff_ne.2 hl1
       have hl3 : ((N : Int) == (M : Int)) = false := beq_eq_false_iff_ne.2 hl1
       clear hN hM
       go_enter Tryz.func18, Tryz.ntmps18
       go_wp2_with fail
       refine ks.mono ?_
       rintro e w1 ⟨rfl, b1⟩
       have m1 := (s0.under b1).tail.blk.cell 6
       have m2 := (s0.under b1).blk.cell 6
       have B1 := Lib.hid (B0.out.trans (b1.mono B0.out.size))
       clear b1 ks p0 q0 p1 q1 p2 q2 p3 q3 p4 q4 p5 q5 p6 q6 hW hW0 hs0 s0
       go_wp2
       go_ret
       exact ⟨rfl, B1.out⟩
   ·rw [if_neg hr]
    obtain ⟨W0, hW0⟩ : ∃ W0, w.alloc (.cells #[.string ⟨o.toArray⟩, .int .i64 z, .string ⟨r.toArray⟩, .int .i64 i, .slice A C.length a, .slice B T.length b, .slice X N c] 32) = W0 := ⟨_, rfl⟩
    have hs0 : W0.heap.size = w.heap.size + 1 := by rw [← hW0]; simp
    obtain ⟨W, hW⟩ : ∃ W, W0.alloc (.cells #[.string ⟨o.toArray⟩, .int .i64 z, .string ⟨r'.toArray⟩, .int .i64 i', .slice A' C'.length a', .slice B' T'.length b', .slice X' M c'] 32) = W := ⟨_, rfl⟩
    have s0 := ((St.nil w).alloc 32 #[.string ⟨o.toArray⟩, .int .i64 z, .string ⟨r.toArray⟩, .int .i64 i, .slice A C.length a, .slice B T.length b, .slice X N c]).alloc 32 #[.string ⟨o.toArray⟩, .int .i64 z, .string ⟨r'.toArray⟩, .int .i64 i', .slice A' C'.length a', .slice B' T'.length b', .slice X' M c']
    rw [hW0, hW, hs0] at s0
    have p0 := s0.tail.blk.cell 0
    have q0 := s0.blk.cell 0
    have p1 := s0.tail.blk.cell 1
    have q1 := s0.blk.cell 1
    have p2 := s0.tail.blk.cell 2
    have q2 := s0.blk.cell 2
    have p3 := s0.tail.blk.cell 3
    have q3 := s0.blk.cell 3
    have p4 := s0.tail.blk.cell 4
    have q4 := s0.blk.cell 4
    have p5 := s0.tail.blk.cell 5
    have q5 := s0.blk.cell 5
    have p6 := s0.tail.blk.cell 6
    have q6 := s0.blk.cell 6
    have B0 := Lib.hid s0.below
    clear s0 hx hy h1 h2 hR hR'
    go_enter Tryz.func18, Tryz.ntmps18
    go_wp2
    go_ret
    exact ⟨rfl, B0.out⟩
  ·rw [if_neg hz]
   obtain ⟨W0, hW0⟩ : ∃ W0, w.alloc (.cells #[.string ⟨o.toArray⟩, .int .i64 z, .string ⟨r.toArray⟩, .int .i64 i, .slice A C.length a, .slice B T.length b, .slice X N c] 32) = W0 := ⟨_, rfl⟩
   have hs0 : W0.heap.size = w.heap.size + 1 := by rw [← hW0]; simp
   obtain ⟨W, hW⟩ : ∃ W, W0.alloc (.cells #[.string ⟨o.toArray⟩, .int .i64 z', .string ⟨r'.toArray⟩, .int .i64 i', .slice A' C'.length a', .slice B' T'.length b', .slice X' M c'] 32) = W := ⟨_, rfl⟩
   have s0 := ((St.nil w).alloc 32 #[.string ⟨o.toArray⟩, .int .i64 z, .string ⟨r.toArray⟩, .int .i64 i, .slice A C.length a, .slice B T.length b, .slice X N c]).alloc 32 #[.string ⟨o.toArray⟩, .int .i64 z', .string ⟨r'.toArray⟩, .int .i64 i', .slice A' C'.length a', .slice B' T'.length b', .slice X' M c']
   rw [hW0, hW, hs0] at s0
   have p0 := s0.tail.blk.cell 0
   have q0 := s0.blk.cell 0
   have p1 := s0.tail.blk.cell 1
   have q1 := s0.blk.cell 1
   have p2 := s0.tail.blk.cell 2
   have q2 := s0.blk.cell 2
   have p3 := s0.tail.blk.cell 3
   have q3 := s0.blk.cell 3
   have p4 := s0.tail.blk.cell 4
   have q4 := s0.blk.cell 4
   have p5 := s0.tail.blk.cell 5
   have q5 := s0.blk.cell 5
   have p6 := s0.tail.blk.cell 6
   have q6 := s0.blk.cell 6
   have B0 := Lib.hid s0.below
   clear s0 hx hy h1 h2 hR hR'
   go_enter Tryz.func18, Tryz.ntmps18
   go_wp2
   go_ret
   exact ⟨rfl, B0.out⟩
 ·rw [if_neg ho]
  obtain ⟨W0, hW0⟩ : ∃ W0, w.alloc (.cells #[.string ⟨o.toArray⟩, .int .i64 z, .string ⟨r.toArray⟩, .int .i64 i, .slice A C.length a, .slice B T.length b, .slice X N c] 32) = W0 := ⟨_, rfl⟩
  have hs0 : W0.heap.size = w.heap.size + 1 := by rw [← hW0]; simp
  obtain ⟨W, hW⟩ : ∃ W, W0.alloc (.cells #[.string ⟨o'.toArray⟩, .int .i64 z', .string ⟨r'.toArray⟩, .int .i64 i', .slice A' C'.length a', .slice B' T'.length b', .slice X' M c'] 32) = W := ⟨_, rfl⟩
  have s0 := ((St.nil w).alloc 32 #[.string ⟨o.toArray⟩, .int .i64 z, .string ⟨r.toArray⟩, .int .i64 i, .slice A C.length a, .slice B T.length b, .slice X N c]).alloc 32 #[.string ⟨o'.toArray⟩, .int .i64 z', .string ⟨r'.toArray⟩, .int .i64 i', .slice A' C'.length a', .slice B' T'.length b', .slice X' M c']
  rw [hW0, hW, hs0] at s0
  have p0 := s0.tail.blk.cell 0
  have q0 := s0.blk.cell 0
  have p1 := s0.tail.blk.cell 1
  have q1 := s0.blk.cell 1
  have p2 := s0.tail.blk.cell 2
  have q2 := s0.blk.cell 2
  have p3 := s0.tail.blk.cell 3
  have q3 := s0.blk.cell 3
  have p4 := s0.tail.blk.cell 4
  have q4 := s0.blk.cell 4
  have p5 := s0.tail.blk.cell 5
  have q5 := s0.blk.cell 5
  have p6 := s0.tail.blk.cell 6
  have q6 := s0.blk.cell 6
  have B0 := Lib.hid s0.below
  clear s0 hx hy h1 h2 hR hR'
  go_enter Tryz.func18, Tryz.ntmps18
  go_wp2
  go_ret
  exact ⟨rfl, B0.out⟩
end Go.Proofs.YtjjpdnpbhdcpbaaGreat
