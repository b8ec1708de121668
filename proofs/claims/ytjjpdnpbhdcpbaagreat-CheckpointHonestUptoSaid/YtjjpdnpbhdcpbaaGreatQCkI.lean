/-
  Checkpoints: for how many keys a cosignature counts, in the program. Conditions: keys of a length that the model has.
-/
import Derived.Test.YtjjpdnpbhdcpbaaGreatQCkH
import Derived.Test.YtjjpdnpbhdcpbaaGreatQPa
namespace Go.Proofs.YtjjpdnpbhdcpbaaGreat
set_option linter.unusedVariables false
open Go.RowKit Go.Shelf
attribute [local go_sem] Oper.semAt_some
def cosN (o : Sg.Str) (z : Int) (r : Sg.Str) (L : List SgRow) : List Sg.Str → List Sg.Str → Nat
 | _, [] => 0
 | S, k :: ks => if k ∈ S then cosN o z r L S ks else (if cntB o z r k L = true then 1 else 0) + cosN o z r L (k :: S) ks
theorem cos_drop (o : Sg.Str) (z : Int) (r : Sg.Str) (L : List SgRow) (S K : List Sg.Str) (k : Nat) (hk : k < K.length) : cosN o z r L S (K.drop k) = if K[k] ∈ S then cosN o z r L S (K.drop (k + 1)) else (if cntB o z r K[k] L = true then 1 else 0) + cosN o z r L (K[k] :: S) (K.drop (k + 1)) := by
 rw [List.drop_eq_getElem_cons hk]
 rfl
set_option maxRecDepth 20000 in
set_option maxHeartbeats 4000000 in
theorem cosigned_spec (o : Sg.Str) (z : Int) (r : Sg.Str) (si : Int) (sA sB : Option Addr) (sC sT : List Sg.Str) (sa sb : Nat) (X : Option Addr) (L : List SgRow) (c : Nat) (Y : Option Addr) (K : List Sg.Str) (d : Nat) (w : World) (hR : RowsR w X L) (hc1 : L.length ≤ c) (hc2 : c ≤ maxLen)
 (hK : Rd w Y (strs K)) (hK1 : K.length ≤ 1099511627776) (hK2 : ∀ s ∈ K, s.length ≤ maxLen) :
 Calls Tryz.prog 28 #[.agg #[.string ⟨o.toArray⟩, .int .i64 z, .string ⟨r.toArray⟩, .int .i64 si, .slice sA sC.length sa, .slice sB sT.length sb, .slice X L.length c], .slice Y K.length d] w fun e w' => e = .returned (.int .i64 ((cosN o z r L [] K : Nat) : Int)) ∧ Below w.heap.size w w' := by
 obtain ⟨N, hN⟩ : ∃ N, K.length = N := ⟨_, rfl⟩
 rw [hN] at hK1 ⊢
 obtain ⟨tot, htot⟩ : ∃ tot, cosN o z r L [] K = tot := ⟨_, rfl⟩
 rw [htot]
 have y0 := ((St.nil w).alloc 32 #[.string ⟨o.toArray⟩, .int .i64 z, .string ⟨r.toArray⟩, .int .i64 si, .slice sA sC.length sa, .slice sB sT.length sb, .slice X L.length c]).made 9 4
 rw [World.size_alloc] at y0
 have kc := fun (key : Sg.Str) W' (hb : Below w.heap.size w W') => counts_spec o z r si sA sB sC sT sa sb X L c key W' (hR.below hb) hc1 hc2
 have HL := Lib.hid (And.intro hN (And.intro hK (And.intro htot hK2)))
 have Y0 := Lib.hid y0
 have hmm := @run_makeMap Tryz.prog
 clear hN hK htot hK2 y0 hR hc1 hc2
 go_enter Tryz.func28, Tryz.ntmps28
 go_wp2_with fail
 go_loopw [12, 6] (fun i nv wr => ∃ (k q n : Nat) (D : DataW Unit) (S : List Sg.Str), k ≤ N ∧ i = .int .i64 k ∧ nv = .int .i64 (q : Int) ∧ q ≤ k ∧ n ≤ k ∧ q + cosN o z r L S (K.drop k) = tot ∧ SeenOk D S ∧ St w.heap.size w wr [mapR 9 4 (w.heap.size + 1) n D, cellsR w.heap.size 32 #[.string ⟨o.toArray⟩, .int .i64 z, .string ⟨r.toArray⟩, .int .i64 si, .slice sA sC.length sa, .slice sB sT.length sb, .slice X L.length c]]) (fun i _ _ => N - (intOf i).toNat)
 case atStart => exact ⟨0, 0, 0, _, [], Nat.zero_le _, rfl, rfl, Nat.le_refl _, Nat.le_refl _, by rw [Nat.zero_add]; exact HL.out.2.2.1, seen_nil, Y0.out⟩
 case round =>
  obtain ⟨k, q, n, D, S, hk, rfl, rfl, hq, hn, hf, hD, h⟩ := hrel
  by_cases hlt : k < N
  ·have hkL : k < K.length := by rw [HL.out.1]; exact hlt
   obtain ⟨b, off, rfl, c0⟩ := (HL.out.2.1.below h.below).str hkL
   have hx2 := HL.out.2.2.2 _ (List.getElem_mem hkL)
   rw [cos_drop o z r L S K k hkL] at hf
   obtain ⟨x, hx⟩ : ∃ x, K[k] = x := ⟨_, rfl⟩
   rw [hx] at c0 hf hx2
   have i0 : (0 : Int) ≤ (k : Int) := Int.natCast_nonneg _
   have i1 : (k : Int) < (N : Int) := Int.ofNat_lt.2 hlt
   have KL := Lib.hid (And.intro hlt (And.intro hq (And.intro hn hK1)))
   have hlk := seen_look h.map hD x hx2
   by_cases hs : x ∈ S
   ·rw [decide_eq_true hs] at hlk
    rw [if_pos hs] at hf
    have H := Lib.hid (And.intro h (And.intro hf hD))
    clear h hf hD hs hx hkL hx2 hmm hq hn kc
    go_wp2
    go_roundw
    case rel => have := KL.out; exact ⟨k + 1, q, n, D, S, by omega, by go_num, rfl, by omega, by omega, H.out.2.1, H.out.2.2, H.out.1⟩
    case measure => have := KL.out; simp [intOf]; omega
   ·rw [decide_eq_false hs] at hlk
    rw [if_neg hs] at hf
    obtain ⟨w7, hrun, hm7, hg7⟩ := h.map.update key_str Tryz.underlying100 (show n < maxLen by unfold maxLen; omega) (key := .string ⟨x.toArray⟩) (val := .bool true) (key_of x hx2) (plainElem_bool Tryz.underlying4 true)
    have y7 := h.mapped hm7 hg7
    have e0 := y7.tail.blk.cell 0
    have e1 := y7.tail.blk.cell 1
    have e2 := y7.tail.blk.cell 2
    have e3 := y7.tail.blk.cell 3
    have e4 := y7.tail.blk.cell 4
    have e5 := y7.tail.blk.cell 5
    have e6 := y7.tail.blk.cell 6
    have kx := kc x w7 y7.below
    have hD' := hD.put x
    cases hb : cntB o z r x L with
    | false =>
      rw [hb] at kx
      rw [hb, if_neg (by decide), Nat.zero_add] at hf
      have H := Lib.hid (And.intro y7 (And.intro hf hD'))
      clear h hf hD hs hx hkL hx2 hmm hq hn kc y7 hD' hb hm7 hg7
      go_wp2_with fail
      refine kx.mono ?_
      rintro e w8 ⟨rfl, b8⟩
      have Y8 := Lib.hid (H.out.1.under b8)
      clear b8 kx
      go_wp2
      go_roundw
      case rel => have := KL.out; exact ⟨k + 1, q, n + 1, _, _, by omega, by go_num, rfl, by omega, by omega, H.out.2.1, H.out.2.2, Y8.out⟩
      case measure => have := KL.out; simp [intOf]; omega
    | true =>
      rw [hb] at kx
      rw [hb, if_pos rfl, ← Nat.add_assoc] at hf
      have hq1 : (q : Int) + 1 ≤ 9223372036854775807 := by omega
      have H := Lib.hid (And.intro y7 (And.intro hf hD'))
      clear h hf hD hs hx hkL hx2 hmm hq hn kc y7 hD' hb hm7 hg7
      go_wp2_with fail
      refine kx.mono ?_
      rintro e w8 ⟨rfl, b8⟩
      have Y8 := Lib.hid (H.out.1.under b8)
      clear b8 kx
      go_wp2
      go_roundw
      case rel => have := KL.out; exact ⟨k + 1, q + 1, n + 1, _, _, by omega, by go_num, by go_num, by omega, by omega, H.out.2.1, H.out.2.2, Y8.out⟩
      case measure => have := KL.out; simp [intOf]; omega
  ·obtain rfl : k = N := Nat.le_antisymm hk (Nat.le_of_not_lt hlt)
   rw [List.drop_eq_nil_of_le (by rw [HL.out.1]; exact Nat.le_refl _)] at hf
   have hf : q = tot := hf
   subst hf
   have H := Lib.hid h
   clear h hD hmm
   go_wp2
   go_ret
   exact ⟨rfl, H.out.below⟩
end Go.Proofs.YtjjpdnpbhdcpbaaGreat
