/-
  Checkpoints: whether a checkpoint is small, in the reference. Conditions: signatures of at most 2^40 bytes.
-/
import Derived.Test.YtjjpdnpbhdcpbaaGreatBCkP
import Derived.Test.YtjjpdnpbhdcpbaaGreatBSgS
namespace Go.Proofs.YtjjpdnpbhdcpbaaGreat
set_option linter.unusedVariables false
open Go.RowKit Go.Shelf
attribute [local go_sem] Oper.semAt_some
def fewX (x : SgRow) : Bool := decide (x.key.length ≤ 200) && fewS x.C x.T
def fewL (L : List SgRow) : Bool := L.all fewX
def ckFew (o r : Sg.Str) (C T : List Sg.Str) (L : List SgRow) : Bool := if o.length ≤ 200 then (if r.length ≤ 200 then (if fewS C T = true then (if L.length ≤ 4 then fewL L else false) else false) else false) else false
def RowFew (x : SgRow) : Prop := (x.A = none → x.C.length = 0 ∧ x.a = 0) ∧ (x.B = none → x.T.length = 0 ∧ x.b = 0) ∧ weight x.C + weight x.T ≤ 1099511627776
theorem fewL_drop (L : List SgRow) (k : Nat) (hk : k < L.length) : fewL (L.drop k) = (fewX L[k] && fewL (L.drop (k + 1))) := by
 rw [List.drop_eq_getElem_cons hk]
 rfl
set_option maxRecDepth 20000 in
set_option maxHeartbeats 4000000 in
theorem ckfew_spec (o : Sg.Str) (z : Int) (r : Sg.Str) (si : Int) (sA sB : Option Addr) (sC sT : List Sg.Str) (sa sb : Nat) (X : Option Addr) (L : List SgRow) (c : Nat) (w : World) (hR : RowsR w X L) (hF : ∀ x ∈ L, RowFew x)
 (hC : Rd w sA (strs sC)) (hT : Rd w sB (strs sT)) (hnA : sA = none → sC.length = 0 ∧ sa = 0) (hnB : sB = none → sT.length = 0 ∧ sb = 0) (h1 : sC.length ≤ sa) (h2 : sa ≤ maxLen) (h3 : sT.length ≤ sb) (h4 : sb ≤ maxLen) (hw : weight sC + weight sT ≤ 1099511627776) :
 Calls Tryz.prog 20 #[.agg #[.string ⟨o.toArray⟩, .int .i64 z, .string ⟨r.toArray⟩, .int .i64 si, .slice sA sC.length sa, .slice sB sT.length sb, .slice X L.length c]] w fun e w' => e = .returned (.bool (ckFew o r sC sT L)) ∧ Below w.heap.size w w' := by
 obtain ⟨N, hN⟩ : ∃ N, L.length = N := ⟨_, rfl⟩
 unfold ckFew
 rw [hN]
 have zo := bytes_size o
 have zr := bytes_size r
 have b0 := (Below.refl w.heap.size w).alloc (Nat.le_refl _) (.cells #[.string ⟨o.toArray⟩, .int .i64 z, .string ⟨r.toArray⟩, .int .i64 si, .slice sA sC.length sa, .slice sB sT.length sb, .slice X N c] 32)
 have bk := Blk.new w 32 #[.string ⟨o.toArray⟩, .int .i64 z, .string ⟨r.toArray⟩, .int .i64 si, .slice sA sC.length sa, .slice sB sT.length sb, .slice X N c]
 obtain ⟨W0, hW0⟩ : ∃ W0, w.alloc (.cells #[.string ⟨o.toArray⟩, .int .i64 z, .string ⟨r.toArray⟩, .int .i64 si, .slice sA sC.length sa, .slice sB sT.length sb, .slice X N c] 32) = W0 := ⟨_, rfl⟩
 rw [hW0] at b0 bk
 have q0 := bk.cell 0
 have q2 := bk.cell 2
 have q3 := bk.cell 3
 have q4 := bk.cell 4
 have q5 := bk.cell 5
 have q6 := bk.cell 6
 have ks := rfew_spec si sC sT sA sB sa sb W0 (hC.below b0) (hT.below b0) hnA hnB h1 h2 h3 h4 hw
 have B0 := Lib.hid b0
 have RL := Lib.hid (And.intro hN (And.intro (hR.below b0) (And.intro hF bk)))
 clear hR hF hC hT hnA hnB h1 h2 h3 h4 hw hN
 by_cases c1 : o.length ≤ 200
 ·rw [if_pos c1]
  have c1' : ¬ ((200 : Int) < (o.length : Int)) := by omega
  by_cases c2 : r.length ≤ 200
  ·rw [if_pos c2]
   have c2' : ¬ ((200 : Int) < (r.length : Int)) := by omega
   cases hs : fewS sC sT with
   | false =>
     rw [hs] at ks
     rw [if_neg (by decide)]
     clear hs
     go_enter Tryz.func20, Tryz.ntmps20
     go_wp2_with fail
     refine ks.mono ?_
     rintro e w1 ⟨rfl, b1⟩
     have m6 := (bk.below b1).cell 6
     have B1 := Lib.hid (B0.out.trans (b1.mono B0.out.size))
     clear b1 ks q0 q2 q3 q4 q5 q6 hW0 bk
     go_wp2
     go_ret
     exact ⟨rfl, B1.out⟩
   | true =>
     rw [hs] at ks
     rw [if_pos rfl]
     clear hs
     by_cases hl : N ≤ 4
     ·rw [if_pos hl]
      have hl' : ¬ ((4 : Int) < (N : Int)) := by omega
      obtain ⟨res, hres⟩ : ∃ res, fewL L = res := ⟨_, rfl⟩
      rw [hres]
      have HR := Lib.hid hres
      clear hres
      go_enter Tryz.func20, Tryz.ntmps20
      go_wp2_with fail
      refine ks.mono ?_
      rintro e w1 ⟨rfl, b1⟩
      have m6 := (bk.below b1).cell 6
      have B1 := Lib.hid (B0.out.trans (b1.mono B0.out.size))
      have Z1 := Lib.hid b1
      clear b1 ks q0 q2 q3 q4 q5 q6 hW0
      go_wp2_with fail
      go_loopw [3] (fun i wr => ∃ (k : Nat), k ≤ N ∧ i = .int .i64 k ∧ fewL (L.drop k) = res ∧ Below W0.heap.size W0 wr) (fun i _ => N - (intOf i).toNat)
      case atStart => exact ⟨0, Nat.zero_le _, rfl, HR.out, Z1.out⟩
      case round =>
       clear m6 Z1 B1
       obtain ⟨k, hk, rfl, hf, hb⟩ := hrel
       have n6 := (bk.below hb).cell 6
       by_cases hlt : k < N
       ·have hkL : k < L.length := by rw [RL.out.1]; exact hlt
        obtain ⟨bx, fx, rfl, c0, c1, c2, c3, ok⟩ := (RL.out.2.1.below hb).get hkL
        have hfx := RL.out.2.2.1 _ (List.getElem_mem hkL)
        rw [fewL_drop L k hkL] at hf
        generalize L[k] = x at c0 c1 c2 c3 ok hf hfx
        obtain ⟨ky, i, A, C, a, B, T, b'⟩ := x
        unfold fewX at hf
        unfold RowFew at hfx
        dsimp only at c0 c1 c2 c3 hf hfx
        have zk := bytes_size ky
        have i0 : (0 : Int) ≤ (k : Int) := Int.natCast_nonneg _
        have i1 : (k : Int) < (N : Int) := Int.ofNat_lt.2 hlt
        have KL := Lib.hid hlt
        have HB := Lib.hid hb
        have BB := Lib.hid (B0.out.trans (hb.mono B0.out.size))
        have kx := rfew_spec i C T A B a b' wr ok.1 ok.2.1 hfx.1 hfx.2.1 ok.2.2.1 ok.2.2.2.1 ok.2.2.2.2.1 ok.2.2.2.2.2 hfx.2.2
        clear hfx ok hb hkL
        by_cases hky : ky.length ≤ 200
        ·rw [decide_eq_true hky, Bool.true_and] at hf
         have hky' : ¬ ((200 : Int) < (ky.length : Int)) := by omega
         cases hs : fewS C T with
         | false =>
           rw [hs] at kx
           rw [hs, Bool.false_and] at hf
           subst hf
           clear hs
           go_wp2_with fail
           refine kx.mono ?_
           rintro e w3 ⟨rfl, b3⟩
           have B3 := Lib.hid (BB.out.trans (b3.mono BB.out.size))
           clear b3 kx
           go_wp2
           go_ret
           exact ⟨rfl, B3.out⟩
         | true =>
           rw [hs] at kx
           rw [hs, Bool.true_and] at hf
           have HF := Lib.hid hf
           clear hs hf
           go_wp2_with fail
           refine kx.mono ?_
           rintro e w3 ⟨rfl, b3⟩
           have H3 := Lib.hid (HB.out.trans (b3.mono HB.out.size))
           clear b3 kx
           go_wp2
           go_roundw
           case rel => exact ⟨k + 1, Nat.succ_le_of_lt KL.out, by go_num, HF.out, H3.out⟩
           case measure => have := KL.out; simp [intOf]; omega
        ·rw [decide_eq_false hky, Bool.false_and, Bool.false_and] at hf
         have hky' : (200 : Int) < (ky.length : Int) := by omega
         subst hf
         clear kx
         go_wp2
         go_ret
         exact ⟨rfl, BB.out⟩
       ·obtain rfl : k = N := Nat.le_antisymm hk (Nat.le_of_not_lt hlt)
        rw [List.drop_eq_nil_of_le (by rw [RL.out.1]; exact Nat.le_refl _)] at hf
        have hf : true = res := hf
        subst hf
        have BB := Lib.hid (B0.out.trans (hb.mono B0.out.size))
        clear hb
        go_wp2
        go_ret
        exact ⟨rfl, BB.out⟩
     ·rw [if_neg hl]
      have hl' : (4 : Int) < (N : Int) := by omega
      go_enter Tryz.func20, Tryz.ntmps20
      go_wp2_with fail
      refine ks.mono ?_
      rintro e w1 ⟨rfl, b1⟩
      have m6 := (bk.below b1).cell 6
      have B1 := Lib.hid (B0.out.trans (b1.mono B0.out.size))
      clear b1 ks q0 q2 q3 q4 q5 q6 hW0 bk
      go_wp2
      go_ret
      exact ⟨rfl, B1.out⟩
  ·rw [if_neg c2]
   have c2' : (200 : Int) < (r.length : Int) := by omega
   clear ks
   go_enter Tryz.func20, Tryz.ntmps20
   go_wp2
   go_ret
   exact ⟨rfl, B0.out⟩
 ·rw [if_neg c1]
  have c1' : (200 : Int) < (o.length : Int) := by omega
  clear ks
  go_enter Tryz.func20, Tryz.ntmps20
  go_wp2
  go_ret
  exact ⟨rfl, B0.out⟩
end Go.Proofs.YtjjpdnpbhdcpbaaGreat
