/-
  Checkpoints: for how many keys a cosignature counts, in the reference. Conditions: keys of a number that the model has.
-/
import Derived.Test.YtjjpdnpbhdcpbaaGreatQCkI
import Derived.Test.YtjjpdnpbhdcpbaaGreatQCkH
import Derived.Test.YtjjpdnpbhdcpbaaGreatVPb
import Derived.Test.YtjjpdnpbhdcpbaaGreatQPa
import Derived.Test.YtjjpdnpbhdcpbaaGreatVPa
import Derived.Test.YtjjpdnpbhdcpbaaGreatQBase
import Derived.Maps.OwnSet
namespace Go.Proofs.YtjjpdnpbhdcpbaaGreat
set_option linter.unusedVariables false
open Go.RowKit Go.Shelf
attribute [local go_sem] Oper.semAt_some
theorem cosN_congr (o : Sg.Str) (z : Int) (r : Sg.Str) (L : List SgRow) : ∀ (ks S S' : List Sg.Str), (∀ x, x ∈ S ↔ x ∈ S') → cosN o z r L S ks = cosN o z r L S' ks
 | [], _, _, _ => rfl
 | k :: ks, S, S', h => by
   unfold cosN
   by_cases hk : k ∈ S
   ·rw [if_pos hk, if_pos ((h k).1 hk)]
    exact cosN_congr o z r L ks S S' h
   ·rw [if_neg hk, if_neg (fun hk' => hk ((h k).2 hk'))]
    rw [cosN_congr o z r L ks (k :: S) (k :: S') (fun x => by rw [List.mem_cons, List.mem_cons, h x])]
theorem cntB_nohead (o : Sg.Str) (z : Int) (r key : Sg.Str) (L : List SgRow) (hh : headB o z r = false) : cntB o z r key L = false := by
 unfold cntB
 rw [List.any_eq_false]
 intro x _
 unfold hitB
 rw [hh]
 simp
theorem cosN_nohead (o : Sg.Str) (z : Int) (r : Sg.Str) (L : List SgRow) (hh : headB o z r = false) : ∀ (ks S : List Sg.Str), cosN o z r L S ks = 0
 | [], _ => rfl
 | k :: ks, S => by
   unfold cosN
   split
   ·exact cosN_nohead o z r L hh ks S
   ·rw [cntB_nohead o z r k L hh, if_neg (by decide), cosN_nohead o z r L hh ks]
theorem cos_step (o : Sg.Str) (z : Int) (r : Sg.Str) (L : List SgRow) (K : List Sg.Str) (k : Nat) (hk : k < K.length) :
 cosN o z r L (K.take k) (K.drop k) = (if (!decide (K[k] ∈ K.take k) && cntB o z r K[k] L) = true then 1 else 0) + cosN o z r L (K.take (k + 1)) (K.drop (k + 1)) := by
 have hm : ∀ x, x ∈ K.take (k + 1) ↔ x = K[k] ∨ x ∈ K.take k := fun x => by
  rw [← List.take_append_getElem hk, List.mem_append, List.mem_singleton, Or.comm]
 rw [cos_drop o z r L _ K k hk]
 by_cases h : K[k] ∈ K.take k
 ·rw [if_pos h, decide_eq_true h, if_neg (by simp), Nat.zero_add]
  exact cosN_congr o z r L _ _ _ (fun x => by rw [hm x]; exact ⟨.inr, fun hx => hx.elim (fun e => e ▸ h) id⟩)
 ·rw [if_neg h, decide_eq_false h, Bool.not_false, Bool.true_and]
  rw [cosN_congr o z r L (K.drop (k + 1)) (K[k] :: K.take k) (K.take (k + 1)) (fun x => by rw [hm x, List.mem_cons])]
theorem again_step (K : List Sg.Str) (x : Sg.Str) (j : Nat) (hj : j < K.length) : decide (x ∈ K.take (j + 1)) = (decide (x ∈ K.take j) || (K[j] == x)) := by
 rw [← List.take_append_getElem hj]
 have e : (K[j] == x) = decide (x = K[j]) := by
  by_cases h : K[j] = x
  ·rw [beq_iff_eq.2 h, decide_eq_true h.symm]
  ·rw [beq_eq_false_iff_ne.2 h, decide_eq_false (fun e => h e.symm)]
 rw [e]
 simp only [List.mem_append, List.mem_singleton, Bool.decide_or]
theorem hit_step (f : SgRow → Bool) (L : List SgRow) (j : Nat) (hj : j < L.length) : (L.take (j + 1)).any f = ((L.take j).any f || f L[j]) := by
 rw [← List.take_append_getElem hj, List.any_append]
 simp
set_option maxRecDepth 100000 in
set_option maxHeartbeats 4000000 in
theorem rcosigned_spec (o : Sg.Str) (z : Int) (r : Sg.Str) (si : Int) (sA sB : Option Addr) (sC sT : List Sg.Str) (sa sb : Nat) (X : Option Addr) (L : List SgRow) (c : Nat) (Y : Option Addr) (K : List Sg.Str) (d : Nat) (w : World) (hR : RowsR w X L) (hc1 : L.length ≤ c) (hc2 : c ≤ maxLen)
 (hK : Rd w Y (strs K)) (hK1 : K.length ≤ 1099511627776) :
 Calls Tryz.prog 29 #[.agg #[.string ⟨o.toArray⟩, .int .i64 z, .string ⟨r.toArray⟩, .int .i64 si, .slice sA sC.length sa, .slice sB sT.length sb, .slice X L.length c], .slice Y K.length d] w fun e w' => e = .returned (.int .i64 ((cosN o z r L [] K : Nat) : Int)) ∧ Below w.heap.size w w' := by
 obtain ⟨N, hN⟩ : ∃ N, K.length = N := ⟨_, rfl⟩
 obtain ⟨M, hM⟩ : ∃ M, L.length = M := ⟨_, rfl⟩
 rw [hN] at hK1 ⊢
 rw [hM] at hc1 ⊢
 have hM63 : M ≤ 9223372036854775807 := Nat.le_trans hc1 (Nat.le_trans hc2 (by decide))
 have B0 := Lib.hid ((Below.refl w.heap.size w).alloc (Nat.le_refl _) (.cells #[.string ⟨o.toArray⟩, .int .i64 z, .string ⟨r.toArray⟩, .int .i64 si, .slice sA sC.length sa, .slice sB sT.length sb, .slice X M c] 32))
 have bk := Blk.new w 32 #[.string ⟨o.toArray⟩, .int .i64 z, .string ⟨r.toArray⟩, .int .i64 si, .slice sA sC.length sa, .slice sB sT.length sb, .slice X M c]
 obtain ⟨W0, hW0⟩ : ∃ W0, w.alloc (.cells #[.string ⟨o.toArray⟩, .int .i64 z, .string ⟨r.toArray⟩, .int .i64 si, .slice sA sC.length sa, .slice sB sT.length sb, .slice X M c] 32) = W0 := ⟨_, rfl⟩
 rw [hW0] at B0 bk
 have kh := fun W' => rheaded_spec o z r W'
 have q0 := bk.cell 0
 have q1 := bk.cell 1
 have q2 := bk.cell 2
 cases hh : headB o z r with
 | false =>
   rw [hh] at kh
   rw [cosN_nohead o z r L hh]
   clear hh bk hR hK hN hM
   go_enter Tryz.func29, Tryz.ntmps29
   go_wp2_with fail
   refine (kh _).mono ?_
   rintro e w1 ⟨rfl, b1⟩
   go_wp2
   go_ret
   exact ⟨rfl, B0.out.trans (b1.mono B0.out.size)⟩
 | true =>
   rw [hh] at kh
   obtain ⟨tot, htot⟩ : ∃ tot, cosN o z r L [] K = tot := ⟨_, rfl⟩
   rw [htot]
   have HL := Lib.hid (And.intro hN (And.intro (hK.below B0.out) (And.intro htot (And.intro bk (And.intro (hR.below B0.out) (And.intro hM hM63))))))
   have kb := fun W' => rckbytes_spec o z r W' hh
   have hlen := headS_len hh
   have HH := Lib.hid (And.intro hh hlen)
   clear hN hM hK htot hR bk hc1 hc2 hh hlen hM63
   go_enter Tryz.func29, Tryz.ntmps29
   go_wp2_with fail
   refine (kh _).mono ?_
   rintro e w1 ⟨rfl, b1⟩
   have hb1 := Lib.hid b1
   clear b1 q0 q1 q2 hW0 kh
   go_wp2_with fail
   go_loopw [6, 5] (fun iv nv wr => ∃ (k q : Nat), k ≤ N ∧ iv = .int .i64 k ∧ nv = .int .i64 (q : Int) ∧ q ≤ k ∧ q + cosN o z r L (K.take k) (K.drop k) = tot ∧ Below W0.heap.size W0 wr) (fun iv _ _ => N - (intOf iv).toNat)
   case atStart => exact ⟨0, 0, Nat.zero_le _, rfl, rfl, Nat.le_refl _, by rw [Nat.zero_add]; exact HL.out.2.2.1, hb1.out⟩
   case round =>
    obtain ⟨wa, rfl⟩ : ∃ wa, wa = wr := ⟨_, rfl⟩
    obtain ⟨k, q, hk, rfl, rfl, hq, hf, hb⟩ := hrel
    clear hb1
    by_cases hlt : k < N
    ·have hkL : k < K.length := by rw [HL.out.1]; exact hlt
     obtain ⟨yb, yo, rfl, hcell⟩ : ∃ yb yo, Y = some ⟨yb, yo, none⟩ ∧ ∀ W', Below W0.heap.size W0 W' → ∀ j (hj : j < K.length), W'.cell? ⟨yb, yo + j, none⟩ = some (.string ⟨K[j].toArray⟩) := by
      obtain ⟨yb, yo, hY, _⟩ := HL.out.2.1.str hkL
      refine ⟨yb, yo, hY, fun W' hW' j hj => ?_⟩
      obtain ⟨yb', yo', hY', hc⟩ := (HL.out.2.1.below hW').str hj
      rw [hY] at hY'
      injection hY' with hY'
      injection hY' with e1 e2
      subst e1 e2
      exact hc
     have ck := hcell wa hb k hkL
     rw [cos_step o z r L K k hkL] at hf
     obtain ⟨key, hkey⟩ : ∃ key, K[k] = key := ⟨_, rfl⟩
     rw [hkey] at hf ck
     have i0 : (0 : Int) ≤ (k : Int) := Int.natCast_nonneg _
     have i1 : (k : Int) < (N : Int) := Int.ofNat_lt.2 hlt
     have KL := Lib.hid (And.intro hlt (And.intro hq (And.intro hK1 (And.intro hcell hkey))))
     have HF := Lib.hid hf
     have HB := Lib.hid hb
     clear hf hlt hq hcell hkey hb
     go_wp2_with fail
     go_loopw [9, 7] (fun jv av wj => ∃ (j : Nat) (ag : Bool), j ≤ k ∧ jv = .int .i64 j ∧ av = .bool ag ∧ ag = decide (key ∈ K.take j) ∧ Below wa.heap.size wa wj) (fun jv _ _ => k - (intOf jv).toNat)
     case atStart => exact ⟨0, false, Nat.zero_le _, rfl, rfl, by simp, Below.refl _ _⟩
     case round =>
      obtain ⟨wj, rfl⟩ : ∃ wj, wj = wr := ⟨_, rfl⟩
      obtain ⟨j, ag, hj, rfl, rfl, hag, hbj⟩ := hrel
      have j0 : (0 : Int) ≤ (j : Int) := Int.natCast_nonneg _
      have hbW := HB.out.trans (hbj.mono HB.out.size)
      by_cases hjk : j < k
      ·have j1 : (j : Int) < (k : Int) := Int.ofNat_lt.2 hjk
       have j2 : (j : Int) < (N : Int) := by omega
       have hjL : j < K.length := by have := KL.out.1; rw [HL.out.1]; omega
       have cj := KL.out.2.2.2.1 wj hbW j hjL
       have cy := below_cell hbj ck
       have hst := again_step K key j hjL
       rw [← hag] at hst
       obtain ⟨kj, hkj⟩ : ∃ kj, K[j] = kj := ⟨_, rfl⟩
       rw [hkj] at cj hst
       have HJ := Lib.hid (And.intro hjk (And.intro hst hbj))
       clear hjk hst hag hjL hkj hbj hbW
       have hk62 : (j : Int) + 1 ≤ 9223372036854775807 := by omega
       cases ag with
       | true =>
         go_wp2_with fail
         refine wp_region_noPanic ?_
         refine wp_region_held_drew (S := (fun W' => True)) (by kernel_rfl) ?_ (fun hH0 => ?_)
         ·(trivial)
         refine tk 0 27 hH0 ?_
         refine tk 1 28 hH0 ?_
         refine tu 2 29 hH0 ?_
         refine tu 3 30 hH0 ?_
         refine tu 4 31 hH0 ?_
         refine tu 5 32 hH0 ?_
         refine tu 6 33 hH0 ?_
         refine tu 7 34 hH0 ?_
         refine tu 8 35 hH0 ?_
         refine tu 9 36 hH0 ?_
         refine tu 10 37 hH0 ?_
         refine tk 11 38 hH0 ?_
         refine tk 12 7 hH0 ?_
         refine dn ?_ _
         all_goals (refine NoPanic.normal ?_)
         go_wp2
         go_roundw
         case rel => have := HJ.out.1; exact ⟨j + 1, _, Nat.succ_le_of_lt this, by go_num, rfl, HJ.out.2.1.symm, HJ.out.2.2.drew⟩
         case measure => have := HJ.out.1; simp [intOf]; omega
       | false =>
         go_wp2_with fail
         refine wp_region_noPanic ?_
         refine wp_region_held_drew (S := (fun W' => W'.cell? ⟨yb, yo + j, none⟩ = some (.string ⟨kj.toArray⟩) ∧ W'.cell? ⟨yb, yo + k, none⟩ = some (.string ⟨key.toArray⟩))) (by kernel_rfl) ?_ (fun hH0 => ?_)
         ·(exact ⟨cj, cy⟩)
         refine tk 0 27 hH0 ?_
         refine tk 1 28 hH0 ?_
         refine tk 2 29 hH0 ?_
         refine tk 3 30 hH0 ?_
         refine tk 4 31 hH0 ?_
         refine tk 5 32 hH0 ?_
         refine tk 6 33 hH0 ?_
         refine tk 7 34 hH0 ?_
         refine tk 8 35 hH0 ?_
         refine tk 9 36 hH0 ?_
         refine tk 10 37 hH0 ?_
         refine tk 11 38 hH0 ?_
         refine tk 12 7 hH0 ?_
         refine dn ?_ _
         all_goals (refine NoPanic.normal ?_)
         go_wp2
         go_roundw
         case rel => have := HJ.out.1; exact ⟨j + 1, _, Nat.succ_le_of_lt this, by go_num, rfl, HJ.out.2.1.symm, HJ.out.2.2.drew⟩
         case measure => have := HJ.out.1; simp [intOf]; omega
      ·obtain rfl : k = j := Nat.le_antisymm (Nat.le_of_not_lt hjk) hj
       have HBJ := Lib.hid hbW
       clear hbj hjk hbW hj
       cases ag with
       | true =>
         have hf2 := HF.out
         rw [← hag, if_neg (by simp), Nat.zero_add] at hf2
         have HF2 := Lib.hid hf2
         clear hf2 hag
         go_wp2_with fail
         go_loopw [10, 8] (fun mv cv wm => mv = .int .i64 0 ∧ cv = .bool false ∧ Below W0.heap.size W0 wm) (fun _ _ _ => 0)
         case atStart => exact ⟨rfl, rfl, HBJ.out⟩
         case round =>
          obtain ⟨wm, rfl⟩ : ∃ wm, wm = wr := ⟨_, rfl⟩
          obtain ⟨rfl, rfl, hbm⟩ := hrel
          have q6 := (HL.out.2.2.2.1.below hbm).cell 6
          have HBM := Lib.hid hbm
          clear hbm
          have hM0 : (0 : Int) < (M : Int) ∨ ¬ ((0 : Int) < (M : Int)) := Classical.em _
          rcases hM0 with hM0 | hM0
          all_goals
           go_wp2
           go_roundw
           case rel => have := KL.out; exact ⟨k + 1, q, by omega, by go_num, rfl, by omega, HF2.out, HBM.out⟩
           case measure => have := KL.out; simp [intOf]; omega
       | false =>
         have hf2 := HF.out
         rw [← hag, Bool.not_false, Bool.true_and] at hf2
         have HF2 := Lib.hid hf2
         clear hf2 hag
         go_wp2_with fail
         go_loopw [10, 8] (fun mv cv wm => ∃ (m : Nat) (ct : Bool), m ≤ M ∧ mv = .int .i64 m ∧ cv = .bool ct ∧ ct = (L.take m).any (hitB o z r key) ∧ Below W0.heap.size W0 wm) (fun mv _ _ => M - (intOf mv).toNat)
         case atStart => exact ⟨0, false, Nat.zero_le _, rfl, rfl, rfl, HBJ.out⟩
         case round =>
          obtain ⟨wm, rfl⟩ : ∃ wm, wm = wr := ⟨_, rfl⟩
          obtain ⟨m, ct, hm, rfl, rfl, hct, hbm⟩ := hrel
          have q6 := (HL.out.2.2.2.1.below hbm).cell 6
          have m0 : (0 : Int) ≤ (m : Int) := Int.natCast_nonneg _
          by_cases hmM : m < M
          ·have m1 : (m : Int) < (M : Int) := Int.ofNat_lt.2 hmM
           have hmL : m < L.length := by rw [HL.out.2.2.2.2.2.1]; exact hmM
           obtain ⟨b, off, rfl, c0, c1, c2, c3, ok⟩ := (HL.out.2.2.2.2.1.below hbm).get hmL
           have hst := hit_step (hitB o z r key) L m hmL
           rw [← hct] at hst
           obtain ⟨x, hx⟩ : ∃ x, L[m] = x := ⟨_, rfl⟩
           rw [hx] at c0 c1 c2 c3 ok hst
           obtain ⟨ky, i, A, C, a, B, T, b'⟩ := x
           rw [show hitB o z r key ⟨ky, i, A, C, a, B, T, b'⟩ = ((ky == key) && verB key (Sg.dgs (5 :: headS o z r)) i C T) from by (unfold hitB; rw [HH.out.1]; rfl)] at hst
           dsimp only at c0 c1 c2 c3 hst
           have hm63 : (m : Int) + 1 ≤ 9223372036854775807 := by have := HL.out.2.2.2.2.2.2; omega
           have h0 := (HL.out.2.2.2.1.below hbm).cell 0
           have h1 := (HL.out.2.2.2.1.below hbm).cell 1
           have h2 := (HL.out.2.2.2.1.below hbm).cell 2
           have hky := KL.out.2.2.2.1 wm hbm k (by rw [HL.out.1]; exact KL.out.1)
           rw [KL.out.2.2.2.2] at hky
           have ya := (Below.refl wm.heap.size wm).alloc (Nat.le_refl _) (.cells #[.string ⟨ky.toArray⟩, .int .i64 i, .slice A C.length a, .slice B T.length b'] 64)
           have bw := Blk.new wm 64 #[.string ⟨ky.toArray⟩, .int .i64 i, .slice A C.length a, .slice B T.length b']
           obtain ⟨W1, hW1⟩ : ∃ W1, wm.alloc (.cells #[.string ⟨ky.toArray⟩, .int .i64 i, .slice A C.length a, .slice B T.length b'] 64) = W1 := ⟨_, rfl⟩
           rw [hW1] at ya bw
           have hsz := ya.size
           have hS : ∀ W', Below wm.heap.size wm W' → Below W1.heap.size W1 W' → (W'.cell? ⟨w.heap.size, 0, none⟩ = some (.string ⟨o.toArray⟩) ∧ W'.cell? ⟨w.heap.size, 1, none⟩ = some (.int .i64 z) ∧ W'.cell? ⟨w.heap.size, 2, none⟩ = some (.string ⟨r.toArray⟩) ∧ W'.cell? ⟨wm.heap.size, 0, none⟩ = some (.string ⟨ky.toArray⟩) ∧ W'.cell? ⟨wm.heap.size, 1, none⟩ = some (.int .i64 i) ∧ W'.cell? ⟨wm.heap.size, 2, none⟩ = some (.slice A C.length a) ∧ W'.cell? ⟨wm.heap.size, 3, none⟩ = some (.slice B T.length b') ∧ W'.cell? ⟨yb, yo + k, none⟩ = some (.string ⟨key.toArray⟩)) := fun W' hb hb' => ⟨below_cell hb h0, below_cell hb h1, below_cell hb h2, (bw.below hb').cell 0, (bw.below hb').cell 1, (bw.below hb').cell 2, (bw.below hb').cell 3, below_cell hb hky⟩
           have HS := Lib.hid (show ∀ W', Below W1.heap.size W1 W' → (W'.cell? ⟨w.heap.size, 0, none⟩ = some (.string ⟨o.toArray⟩) ∧ W'.cell? ⟨w.heap.size, 1, none⟩ = some (.int .i64 z) ∧ W'.cell? ⟨w.heap.size, 2, none⟩ = some (.string ⟨r.toArray⟩) ∧ W'.cell? ⟨wm.heap.size, 0, none⟩ = some (.string ⟨ky.toArray⟩) ∧ W'.cell? ⟨wm.heap.size, 1, none⟩ = some (.int .i64 i) ∧ W'.cell? ⟨wm.heap.size, 2, none⟩ = some (.slice A C.length a) ∧ W'.cell? ⟨wm.heap.size, 3, none⟩ = some (.slice B T.length b') ∧ W'.cell? ⟨yb, yo + k, none⟩ = some (.string ⟨key.toArray⟩)) from fun W' hb' => hS W' (ya.trans (hb'.mono hsz)) hb')
           have y0 := (Below.refl W1.heap.size W1).drew
           have YA := Lib.hid ya
           have HB2 := Lib.hid hbm
           have ML := Lib.hid hmM
           clear ya hbm bw hS h0 h1 h2 hky hmM
           cases ct with
           | true =>
             rw [Bool.true_or] at hst
             have HT := Lib.hid hst
             clear ok hst hct
             have s0 := HS.out _ y0
             clear hx hmL
             go_wp2_with fail
             refine wp_region_noPanic ?_
             refine wp_region_held_drew (S := (fun W' => W'.cell? ⟨w.heap.size, 0, none⟩ = some (.string ⟨o.toArray⟩) ∧ W'.cell? ⟨w.heap.size, 1, none⟩ = some (.int .i64 z) ∧ W'.cell? ⟨w.heap.size, 2, none⟩ = some (.string ⟨r.toArray⟩) ∧ W'.cell? ⟨wm.heap.size, 0, none⟩ = some (.string ⟨ky.toArray⟩) ∧ W'.cell? ⟨wm.heap.size, 1, none⟩ = some (.int .i64 i) ∧ W'.cell? ⟨wm.heap.size, 2, none⟩ = some (.slice A C.length a) ∧ W'.cell? ⟨wm.heap.size, 3, none⟩ = some (.slice B T.length b') ∧ W'.cell? ⟨yb, yo + k, none⟩ = some (.string ⟨key.toArray⟩))) (by kernel_rfl) ?_ (fun hH0 => ?_)
             ·with_reducible exact s0
             refine tk 0 55 hH0 ?_
             refine tk 1 56 hH0 ?_
             refine tu 2 57 hH0 ?_
             refine tu 3 58 hH0 ?_
             refine tu 4 59 hH0 ?_
             refine tu 5 60 hH0 ?_
             refine tu 6 61 hH0 ?_
             refine tu 7 62 hH0 ?_
             refine tu 8 63 hH0 ?_
             refine tu 9 64 hH0 ?_
             refine tu 10 65 hH0 ?_
             refine tu 11 66 hH0 ?_
             refine tu 12 67 hH0 ?_
             refine tu 13 68 hH0 ?_
             refine tu 14 69 hH0 ?_
             refine tu 15 70 hH0 ?_
             refine tu 16 71 hH0 ?_
             refine tu 17 72 hH0 ?_
             refine tu 18 73 hH0 ?_
             refine tu 19 74 hH0 ?_
             refine tk 20 75 hH0 ?_
             refine tk 21 8 hH0 ?_
             refine dn ?_ _
             all_goals (refine NoPanic.normal ?_)
             go_wp2
             go_roundw
             case rel => have := ML.out; exact ⟨m + 1, _, Nat.succ_le_of_lt ML.out, by go_num, rfl, HT.out.symm, HB2.out.trans ((YA.out.trans (y0.mono YA.out.size)).mono HB2.out.size)⟩
             case measure => have := ML.out; simp [intOf]; omega
           | false =>
             rw [Bool.false_or] at hst
             cases he : (ky == key) with
             | false =>
               rw [he, Bool.false_and] at hst
               have HT := Lib.hid hst
               clear ok hst hct
               have s0 := HS.out _ y0
               clear hx hmL
               go_wp2_with fail
               refine wp_region_noPanic ?_
               refine wp_region_held_drew (S := (fun W' => W'.cell? ⟨w.heap.size, 0, none⟩ = some (.string ⟨o.toArray⟩) ∧ W'.cell? ⟨w.heap.size, 1, none⟩ = some (.int .i64 z) ∧ W'.cell? ⟨w.heap.size, 2, none⟩ = some (.string ⟨r.toArray⟩) ∧ W'.cell? ⟨wm.heap.size, 0, none⟩ = some (.string ⟨ky.toArray⟩) ∧ W'.cell? ⟨wm.heap.size, 1, none⟩ = some (.int .i64 i) ∧ W'.cell? ⟨wm.heap.size, 2, none⟩ = some (.slice A C.length a) ∧ W'.cell? ⟨wm.heap.size, 3, none⟩ = some (.slice B T.length b') ∧ W'.cell? ⟨yb, yo + k, none⟩ = some (.string ⟨key.toArray⟩))) (by kernel_rfl) ?_ (fun hH0 => ?_)
               ·with_reducible exact s0
               refine tk 0 55 hH0 ?_
               refine tk 1 56 hH0 ?_
               refine tk 2 57 hH0 ?_
               refine tk 3 58 hH0 ?_
               refine tk 4 59 hH0 ?_
               refine tk 5 60 hH0 ?_
               refine tk 6 61 hH0 ?_
               refine tk 7 62 hH0 ?_
               refine tk 8 63 hH0 ?_
               refine tk 9 64 hH0 ?_
               refine tu 10 65 hH0 ?_
               refine tu 11 66 hH0 ?_
               refine tu 12 67 hH0 ?_
               refine tu 13 68 hH0 ?_
               refine tu 14 69 hH0 ?_
               refine tu 15 70 hH0 ?_
               refine tu 16 71 hH0 ?_
               refine tu 17 72 hH0 ?_
               refine tu 18 73 hH0 ?_
               refine tk 19 74 hH0 ?_
               refine tk 20 75 hH0 ?_
               refine tk 21 8 hH0 ?_
               refine dn ?_ _
               all_goals (refine NoPanic.normal ?_)
               go_wp2
               go_roundw
               case rel => have := ML.out; exact ⟨m + 1, _, Nat.succ_le_of_lt ML.out, by go_num, rfl, HT.out.symm, HB2.out.trans ((YA.out.trans (y0.mono YA.out.size)).mono HB2.out.size)⟩
               case measure => have := ML.out; simp [intOf]; omega
             | true =>
               obtain rfl : ky = key := beq_iff_eq.1 he
               rw [he, Bool.true_and] at hst
               have hlen := HH.out.2
               have kv : ∀ W', Below W1.heap.size W1 W' → Calls Tryz.prog 65 #[.string ⟨ky.toArray⟩, .string ⟨((5 : UInt8) :: headS o z r).toArray⟩, .agg #[.int .i64 i, .slice A C.length a, .slice B T.length b']] W' fun e w' => e = .returned (.bool (verB ky (Sg.dgs (5 :: headS o z r)) i C T)) ∧ Below W'.heap.size W' w' := fun W' hb' =>
                have hw := YA.out.trans (hb'.mono hsz)
                rverify_spec ky (5 :: headS o z r) i C T A B a b' W' (by rw [List.length_cons]; omega) (ok.1.below hw) (ok.2.1.below hw) ok.2.2.1 ok.2.2.2.1 ok.2.2.2.2.1 ok.2.2.2.2.2
               have g1 := cons_bytes 5 (headS o z r)
               obtain ⟨f1, f2⟩ := sg_cat [5] (headS o z r) (by rw [List.length_singleton]; omega)
               rw [List.length_singleton] at f1 f2
               generalize verB ky (Sg.dgs (5 :: headS o z r)) i C T = vr at kv hst
               have HT := Lib.hid hst
               clear ok hst hct hlen
               have s0 := HS.out _ y0
               clear hx hmL
               go_wp2_with fail
               refine wp_region_noPanic ?_
               refine wp_region_held_drew (S := (fun W' => W'.cell? ⟨w.heap.size, 0, none⟩ = some (.string ⟨o.toArray⟩) ∧ W'.cell? ⟨w.heap.size, 1, none⟩ = some (.int .i64 z) ∧ W'.cell? ⟨w.heap.size, 2, none⟩ = some (.string ⟨r.toArray⟩) ∧ W'.cell? ⟨wm.heap.size, 0, none⟩ = some (.string ⟨ky.toArray⟩) ∧ W'.cell? ⟨wm.heap.size, 1, none⟩ = some (.int .i64 i) ∧ W'.cell? ⟨wm.heap.size, 2, none⟩ = some (.slice A C.length a) ∧ W'.cell? ⟨wm.heap.size, 3, none⟩ = some (.slice B T.length b') ∧ W'.cell? ⟨yb, yo + k, none⟩ = some (.string ⟨ky.toArray⟩))) (by kernel_rfl) ?_ (fun hH0 => ?_)
               ·with_reducible exact s0
               refine tk 0 55 hH0 ?_
               refine tk 1 56 hH0 ?_
               refine tk 2 57 hH0 ?_
               refine tk 3 58 hH0 ?_
               refine tk 4 59 hH0 ?_
               refine tk 5 60 hH0 ?_
               refine tk 6 61 hH0 ?_
               refine tk 7 62 hH0 ?_
               refine tk 8 63 hH0 ?_
               refine tk 9 64 hH0 ?_
               refine tk 10 65 hH0 ?_
               refine tk 11 66 hH0 ?_
               refine tk 12 67 hH0 ?_
               refine tk 13 68 hH0 ?_
               refine tk 16 71 hH0 ?_
               refine tk 17 72 hH0 ?_
               refine rdy [14] ?_
               refine an 69 fun K hK => ?_
               go_simp; (
                with_reducible refine (kb _).mono ?_
                rintro e v0 ⟨rfl, b0⟩
                have y1 := y0.trans (b0.mono y0.size)
                have s1 := HS.out _ y1); go_wp2_with fail
               refine hK.out _ _ (by with_reducible exact s1) fun hH1 => ?_
               clear hK K hH0
               try simp only [pu]
               refine tk 15 70 hH1 ?_
               refine rdy [18] ?_
               refine an 73 fun K hK => ?_
               go_simp; (
                with_reducible refine (kv _ y1).mono ?_
                rintro e v1 ⟨rfl, b1⟩
                have y2 := y1.trans (b1.mono y1.size)
                have s2 := HS.out _ y2); go_wp2_with fail
               refine hK.out _ _ (by with_reducible exact s2) fun hH2 => ?_
               clear hK K hH1
               try simp only [pu]
               refine tk 19 74 hH2 ?_
               refine tk 20 75 hH2 ?_
               refine tk 21 8 hH2 ?_
               refine dn ?_ _
               all_goals (refine NoPanic.normal ?_)
               go_wp2
               go_roundw
               case rel => have := ML.out; exact ⟨m + 1, _, Nat.succ_le_of_lt ML.out, by go_num, rfl, HT.out.symm, HB2.out.trans ((YA.out.trans (y2.mono YA.out.size)).mono HB2.out.size)⟩
               case measure => have := ML.out; simp [intOf]; omega
          ·obtain rfl : M = m := Nat.le_antisymm (Nat.le_of_not_lt hmM) hm
           rw [List.take_of_length_le (by rw [HL.out.2.2.2.2.2.1]; exact Nat.le_refl _)] at hct
           have hf3 := HF2.out
           unfold cntB at hf3
           rw [← hct] at hf3
           have HBM := Lib.hid hbm
           clear hbm hct hmM
           have hq63 : (q : Int) + 1 ≤ 9223372036854775807 := by have := KL.out; omega
           cases ct with
           | true =>
             rw [if_pos rfl, ← Nat.add_assoc] at hf3
             have HF3 := Lib.hid hf3
             clear hf3
             go_wp2
             go_roundw
             case rel => have := KL.out; exact ⟨k + 1, q + 1, by omega, by go_num, by go_num, by omega, HF3.out, HBM.out⟩
             case measure => have := KL.out; simp [intOf]; omega
           | false =>
             rw [if_neg (by decide), Nat.zero_add] at hf3
             have HF3 := Lib.hid hf3
             clear hf3
             go_wp2
             go_roundw
             case rel => have := KL.out; exact ⟨k + 1, q, by omega, by go_num, rfl, by omega, HF3.out, HBM.out⟩
             case measure => have := KL.out; simp [intOf]; omega
    ·obtain rfl : N = k := Nat.le_antisymm (Nat.le_of_not_lt hlt) hk
     have hf2 := hf
     rw [List.drop_eq_nil_of_le (by rw [HL.out.1]; exact Nat.le_refl _)] at hf2
     have hf2 : q = tot := hf2
     subst hf2
     have HB := Lib.hid hb
     clear hb hf hlt hk
     go_wp2
     go_ret
     exact ⟨rfl, B0.out.trans (HB.out.mono B0.out.size)⟩
end Go.Proofs.YtjjpdnpbhdcpbaaGreat
