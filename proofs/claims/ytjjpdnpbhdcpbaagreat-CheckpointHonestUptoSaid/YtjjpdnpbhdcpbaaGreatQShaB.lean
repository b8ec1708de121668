/-
  The reference's SHA-256: rotations. Conditions: words below 2^32.
-/
import Derived.Test.YtjjpdnpbhdcpbaaGreatQShaA
import Derived.Test.YtjjpdnpbhdcpbaaGreatQBase
import Derived.Laws.CopyRow
import Derived.Laws.IdiomStrings
import Derived.Lib.Bytealg
import Derived.Laws.MakeOwn
namespace Go.Proofs.YtjjpdnpbhdcpbaaGreat
set_option linter.unusedVariables false
open Go.RowKit
theorem rotr_spec (x n : Nat) (hx : x < 4294967296) (h1 : 1 ≤ n) (h2 : n ≤ 31) (w : World) :
 Calls Tryz.prog 176 #[.int .u32 x, .int .i64 (n : Int)] w fun e w' => e = .returned (.int .u32 (Sh.rot x n)) ∧ ∃ k, w' = w.drewN k := by
 obtain ⟨m, hm⟩ : ∃ m, 32 - n = m := ⟨_, rfl⟩
 have hm1 : m ≤ 31 := by omega
 have hm0 : (32 : Int) - (n : Int) = (m : Int) := by omega
 have hO : bits .or .u32 ((x / 2 ^ n : Nat) : Int) ((x * 2 ^ m % 4294967296 : Nat) : Int) = ((Sh.rot x n : Nat) : Int) := by
  rw [u32_or_nat _ _ (Nat.lt_of_le_of_lt (Nat.div_le_self _ _) hx) (Nat.mod_lt _ (by decide))]
  unfold Sh.rot
  rw [hm]
 rw [show ((x * 2 ^ m % 4294967296 : Nat) : Int) = (x : Int) * 2 ^ m % 4294967296 from by simp, show ((x / 2 ^ n : Nat) : Int) = (x : Int) / 2 ^ n from by simp] at hO
 generalize Sh.rot x n = r at hO ⊢
 clear hm hx
 go_enter Tryz.func176, Tryz.ntmps176
 go_wp2_with fail
 go_quiet (fail)
 go_wp2
 go_ret
 exact ⟨rfl, _, rfl⟩
theorem be8_next (n k : Nat) (h : k < 8) : (Sh.be8 n).take (k + 1) = (Sh.be8 n).take k ++ [UInt8.ofNat (n / 2 ^ (8 * (7 - k)))] := by
 rcases lt8 h with rfl | rfl | rfl | rfl | rfl | rfl | rfl | rfl <;> simp [Sh.be8]
set_option maxRecDepth 20000 in
set_option maxHeartbeats 2000000 in
theorem rlength_spec (n : Nat) (hn : n ≤ 9223372036854775807) (w : World) : Calls Tryz.prog 173 #[.int .i64 (n : Int)] w fun e w' => e = .returned (.string ⟨(Sh.be8 n).toArray⟩) ∧ Below w.heap.size w w' := by
 have h0 := St.nil w
 go_enter Tryz.func173, Tryz.ntmps173
 go_wp2
 have h1 : St w.heap.size w (w.alloc (.cells #[] 5)) (ownR 5 1 (.slice (some ⟨w.heap.size, 0, none⟩) 0 0) 0 (vals []) :: []) := h0.new_own ((Below.refl _ w).alloc (Nat.le_refl _) _) (World.ownsRow_lit w #[] 0 (Nat.le_refl _) (by decide) rfl)
 clear h0
 generalize w.alloc (.cells #[] 5) = W at h1 ⊢
 go_loopw [3, 4] (fun v i wr => ∃ (k : Nat) (v' : Value), k ≤ 8 ∧ i = .int .i64 (7 - (k : Int)) ∧ v' = v ∧ St w.heap.size w wr (ownR 5 1 v' k (vals ((Sh.be8 n).take k)) :: [])) (fun _ i _ => (intOf i + 1).toNat)
 case atStart => exact ⟨0, _, by omega, by simp, rfl, h1⟩
 case round =>
  clear h1
  obtain ⟨k, v, hk, rfl, rfl, h⟩ := hrel
  by_cases hlt : k < 8
  ·have hge : decide ((7 : Int) - (k : Int) ≥ 0) = true := by simp; omega
   have hk0 : (0 : Int) ≤ 7 - (k : Int) := by omega
   obtain ⟨j, hj⟩ : ∃ j, 8 * (7 - k) = j := ⟨_, rfl⟩
   have hj8 : 8 * (7 - (k : Int)) = (j : Int) := by omega
   have hj56 : j ≤ 56 := by omega
   have hnx := be8_next n k hlt
   rw [hj] at hnx
   have hy : (n : Int) / 2 ^ j % 256 = ((UInt8.ofNat (n / 2 ^ j)).toNat : Int) := by rw [UInt8.toNat_ofNat']; simp
   generalize UInt8.ofNat (n / 2 ^ j) = y at hnx hy
   have HN := Lib.hid hnx
   clear hnx hj
   have hb1 : (k + 1) * 1 ≤ 140737488355328 := by omega
   have hb2 : k + 1 ≤ maxLen := by unfold maxLen; omega
   go_wp2_with (at_builtin; go_must (refine appendO 76 (u := .int .u8 (y.toNat : Int)) h Tryz.underlying76 info_u8 rfl rfl _ _ rfl rfl rfl rfl hb2 hb1 (fun v2 w5 h8 => ?_)))
   go_roundw
   case rel =>
    refine ⟨k + 1, v2, by omega, by congr 1; omega, rfl, ?_⟩
    rw [HN.out, vals_append]
    exact h8
   case measure => simp [intOf]; omega
  ·have hk8 : k = 8 := by omega
   have hge : decide ((7 : Int) - (k : Int) ≥ 0) = false := by simp; omega
   have hfull : (Sh.be8 n).take k = Sh.be8 n := by rw [hk8]; rfl
   rw [hfull] at h
   have hcv := conv_own (P := Tryz.prog) 76 9 5 Tryz.underlying76 Tryz.underlying5 Tryz.underlying9 wr 0 v k (Sh.be8 n) h.own
   have HH := Lib.hid h.below
   clear h hfull hk8
   obtain ⟨Z, hZ⟩ : ∃ Z, Sh.be8 n = Z := ⟨_, rfl⟩
   rw [hZ] at hcv
   have HZ := Lib.hid hZ
   clear hZ
   go_wp2
   go_ret
   exact ⟨by rw [HZ.out]; rfl, HH.out⟩
end Go.Proofs.YtjjpdnpbhdcpbaaGreat
namespace Go.Proofs.YtjjpdnpbhdcpbaaGreat
set_option linter.unusedVariables false
open Go.RowKit
theorem info_u32 : (Tryz.prog.info? 166).map (fun i => (i.zero, i.size, i.bytes)) = some (some (.int .u32 0), 1, 4) := by kernel_rfl
theorem u32s_append (a b : List Nat) : u32s (a ++ b) = u32s a ++ u32s b := by simp [u32s]
theorem or4 (a b c d : UInt8) : bits .or .u32 (bits .or .u32 (bits .or .u32 ((a.toNat : Int) * 16777216) ((b.toNat : Int) * 65536)) ((c.toNat : Int) * 256)) (d.toNat : Int) = ((Sh.word a.toNat b.toNat c.toNat d.toNat : Nat) : Int) := by
 have h1 := a.toNat_lt
 have h2 := b.toNat_lt
 have h3 := c.toNat_lt
 have h4 := d.toNat_lt
 generalize a.toNat = x at *
 generalize b.toNat = y at *
 generalize c.toNat = z at *
 generalize d.toNat = t at *
 have e1 : (x : Int) * 16777216 = ((x * 16777216 : Nat) : Int) := by omega
 have e2 : (y : Int) * 65536 = ((y * 65536 : Nat) : Int) := by omega
 have e3 : (z : Int) * 256 = ((z * 256 : Nat) : Int) := by omega
 have o1 : x * 16777216 ||| y * 65536 = x * 16777216 + y * 65536 := by
  have := Nat.two_pow_add_eq_or_of_lt (i := 24) (b := y * 65536) (by omega) x
  rw [show 2 ^ 24 * x = x * 16777216 by omega] at this
  exact this.symm
 have o2 : x * 16777216 + y * 65536 ||| z * 256 = x * 16777216 + y * 65536 + z * 256 := by
  have := Nat.two_pow_add_eq_or_of_lt (i := 16) (b := z * 256) (by omega) (x * 256 + y)
  rw [show 2 ^ 16 * (x * 256 + y) = x * 16777216 + y * 65536 by omega] at this
  exact this.symm
 have o3 : x * 16777216 + y * 65536 + z * 256 ||| t = x * 16777216 + y * 65536 + z * 256 + t := by
  have := Nat.two_pow_add_eq_or_of_lt (i := 8) (b := t) (by omega) (x * 65536 + y * 256 + z)
  rw [show 2 ^ 8 * (x * 65536 + y * 256 + z) = x * 16777216 + y * 65536 + z * 256 by omega] at this
  exact this.symm
 rw [e1, e2, e3, u32_or_nat _ _ (by omega) (by omega), o1, u32_or_nat _ _ (by omega) (by omega), o2, u32_or_nat _ _ (by omega) (by omega), o3]
 have hw : x * 16777216 + y * 65536 + z * 256 + t = Sh.word x y z t := by unfold Sh.word; omega
 rw [hw]
set_option maxRecDepth 20000 in
set_option maxHeartbeats 4000000 in
theorem rschedule_spec (b : Sh.Str) (hb : b.length = 64) (w : World) : Calls Tryz.prog 174 #[.string ⟨b.toArray⟩] w fun e w' => ∃ v, e = .returned v ∧ St w.heap.size w w' [ownR 166 1 v 64 (u32s (Sh.sched b))] := by
 have HB := Lib.hid hb
 clear hb
 have h1 : St w.heap.size w (w.alloc (.cells #[] 166)) (ownR 166 1 (.slice (some ⟨w.heap.size, 0, none⟩) 0 0) 0 (u32s []) :: []) := (St.nil w).new_own ((Below.refl _ w).alloc (Nat.le_refl _) _) (World.ownsRow_lit w #[] 0 (Nat.le_refl _) (by decide) rfl)
 go_enter Tryz.func174, Tryz.ntmps174
 go_wp2
 generalize w.alloc (.cells #[] 166) = W at h1 ⊢
 go_loopw [3, 4] (fun v i wr => ∃ (k : Nat) (v' : Value), k ≤ 16 ∧ i = .int .i64 (4 * (k : Int)) ∧ v' = v ∧ St w.heap.size w wr (ownR 166 1 v' k (u32s (Sh.words b k)) :: [])) (fun _ i _ => (64 - intOf i).toNat)
 case atStart => exact ⟨0, _, by omega, by simp, rfl, h1⟩
 case round =>
  clear h1
  obtain ⟨k, v, hk, hi, rfl, h⟩ := hrel
  by_cases hlt : k < 16
  ·subst hi
   have hl4 : 4 * (k : Int) < 64 := by omega
   obtain ⟨x0, hx0⟩ : ∃ x : UInt8, ∀ h, (⟨b.toArray⟩ : ByteArray)[4 * k]'h = x := ⟨b[4 * k]'(by rw [HB.out]; omega), fun h => rfl⟩
   have hg0 : b.getD (4 * k) 0 = x0 := by
    have hh : 4 * k < b.length := by rw [HB.out]; omega
    rw [← hx0 (by show 4 * k < b.toArray.size; simpa using hh)]
    simp [hh]
    rfl
   have ha0 : (0 : Int) ≤ 4 * (k : Int) := by omega
   have hb0 : 4 * (k : Int) < (b.length : Int) := by rw [HB.out]; omega
   have hc0 : (4 * (k : Int)).toNat = 4 * k := by omega
   have hd0 : 4 * k < b.length := by rw [HB.out]; omega
   obtain ⟨x1, hx1⟩ : ∃ x : UInt8, ∀ h, (⟨b.toArray⟩ : ByteArray)[4 * k + 1]'h = x := ⟨b[4 * k + 1]'(by rw [HB.out]; omega), fun h => rfl⟩
   have hg1 : b.getD (4 * k + 1) 0 = x1 := by
    have hh : 4 * k + 1 < b.length := by rw [HB.out]; omega
    rw [← hx1 (by show 4 * k + 1 < b.toArray.size; simpa using hh)]
    simp [hh]
    rfl
   have ha1 : (0 : Int) ≤ 4 * (k : Int) + 1 := by omega
   have hb1 : 4 * (k : Int) + 1 < (b.length : Int) := by rw [HB.out]; omega
   have hc1 : (4 * (k : Int) + 1).toNat = 4 * k + 1 := by omega
   have hd1 : 4 * k + 1 < b.length := by rw [HB.out]; omega
   obtain ⟨x2, hx2⟩ : ∃ x : UInt8, ∀ h, (⟨b.toArray⟩ : ByteArray)[4 * k + 2]'h = x := ⟨b[4 * k + 2]'(by rw [HB.out]; omega), fun h => rfl⟩
   have hg2 : b.getD (4 * k + 2) 0 = x2 := by
    have hh : 4 * k + 2 < b.length := by rw [HB.out]; omega
    rw [← hx2 (by show 4 * k + 2 < b.toArray.size; simpa using hh)]
    simp [hh]
    rfl
   have ha2 : (0 : Int) ≤ 4 * (k : Int) + 2 := by omega
   have hb2 : 4 * (k : Int) + 2 < (b.length : Int) := by rw [HB.out]; omega
   have hc2 : (4 * (k : Int) + 2).toNat = 4 * k + 2 := by omega
   have hd2 : 4 * k + 2 < b.length := by rw [HB.out]; omega
   obtain ⟨x3, hx3⟩ : ∃ x : UInt8, ∀ h, (⟨b.toArray⟩ : ByteArray)[4 * k + 3]'h = x := ⟨b[4 * k + 3]'(by rw [HB.out]; omega), fun h => rfl⟩
   have hg3 : b.getD (4 * k + 3) 0 = x3 := by
    have hh : 4 * k + 3 < b.length := by rw [HB.out]; omega
    rw [← hx3 (by show 4 * k + 3 < b.toArray.size; simpa using hh)]
    simp [hh]
    rfl
   have ha3 : (0 : Int) ≤ 4 * (k : Int) + 3 := by omega
   have hb3 : 4 * (k : Int) + 3 < (b.length : Int) := by rw [HB.out]; omega
   have hc3 : (4 * (k : Int) + 3).toNat = 4 * k + 3 := by omega
   have hd3 : 4 * k + 3 < b.length := by rw [HB.out]; omega
   have hw := Sh.words_succ b k
   rw [hg0, hg1, hg2, hg3] at hw
   have ho := or4 x0 x1 x2 x3
   obtain ⟨y, hy⟩ : ∃ y, Sh.word x0.toNat x1.toNat x2.toNat x3.toNat = y := ⟨_, rfl⟩
   rw [hy] at hw ho
   have HW := Lib.hid hw
   clear hw hy hg0 hg1 hg2 hg3
   obtain ⟨i1, hi1, hy0, hy1, hy2⟩ := info_parts info_u32
   have hrow := h.own
   have q1 : (k + 1) * 4 ≤ 140737488355328 := by omega
   have q2 : k + 1 ≤ maxLen := by unfold maxLen; omega
   have t0 := x0.toNat_lt
   have t1 := x1.toNat_lt
   have t2 := x2.toNat_lt
   have t3 := x3.toNat_lt
   have g0 : IntKind.u32.wrap (x0.toNat : Int) = (x0.toNat : Int) := by rw [IntKind.wrap_u32']; omega
   have g1 : IntKind.u32.wrap (x1.toNat : Int) = (x1.toNat : Int) := by rw [IntKind.wrap_u32']; omega
   have g2 : IntKind.u32.wrap (x2.toNat : Int) = (x2.toNat : Int) := by rw [IntKind.wrap_u32']; omega
   have g3 : IntKind.u32.wrap (x3.toNat : Int) = (x3.toNat : Int) := by rw [IntKind.wrap_u32']; omega
   have g4 : IntKind.u32.wrap ((x0.toNat : Int) * 16777216) = (x0.toNat : Int) * 16777216 := by rw [IntKind.wrap_u32']; omega
   have g5 : IntKind.u32.wrap ((x1.toNat : Int) * 65536) = (x1.toNat : Int) * 65536 := by rw [IntKind.wrap_u32']; omega
   have g6 : IntKind.u32.wrap ((x2.toNat : Int) * 256) = (x2.toNat : Int) * 256 := by rw [IntKind.wrap_u32']; omega
   have w1' : IntKind.i64.wrap (4 * (k : Int) + 1) = 4 * (k : Int) + 1 := by rw [IntWalk.i64_left, IntWalk.wrap64_in _ (by omega)]
   have w2' : IntKind.i64.wrap (4 * (k : Int) + 2) = 4 * (k : Int) + 2 := by rw [IntWalk.i64_left, IntWalk.wrap64_in _ (by omega)]
   have w3' : IntKind.i64.wrap (4 * (k : Int) + 3) = 4 * (k : Int) + 3 := by rw [IntWalk.i64_left, IntWalk.wrap64_in _ (by omega)]
   clear t0 t1 t2 t3
   clear hrow
   go_wp2_with fail
   refine wp_region_noPanic ?_
   refine wp_region_held_drew (S := fun w' => w.heap.size ≤ w'.heap.size) (by kernel_rfl) h.size (fun hHeld => ?_)
   refine tk 0 15 hHeld ?_
   refine tk 1 16 hHeld ?_
   refine tk 2 17 hHeld ?_
   refine tk 3 18 hHeld ?_
   refine tk 4 19 hHeld ?_
   refine tk 5 20 hHeld ?_
   refine tk 6 21 hHeld ?_
   refine tk 7 22 hHeld ?_
   refine tk 8 23 hHeld ?_
   refine tk 9 24 hHeld ?_
   refine tk 10 25 hHeld ?_
   refine tk 11 26 hHeld ?_
   refine tk 12 27 hHeld ?_
   refine tk 13 28 hHeld ?_
   refine tk 14 29 hHeld ?_
   refine tk 15 30 hHeld ?_
   refine tk 16 31 hHeld ?_
   refine tk 17 32 hHeld ?_
   refine tk 18 33 hHeld ?_
   refine tk 19 34 hHeld ?_
   refine tk 20 35 hHeld ?_
   refine tk 21 36 hHeld ?_
   refine tk 22 37 hHeld ?_
   refine tk 23 38 hHeld ?_
   refine tk 24 39 hHeld ?_
   refine tk 25 40 hHeld ?_
   refine rdy [26] ?_
   refine an 41 fun K hK => ?_
   go_simp
   refine hK.out _ _ (h.alloc0 _).size (fun hHeld => ?_)
   clear hK K
   try simp only [pu]
   refine rdy [27] ?_
   refine an 42 fun K hK => ?_
   refine stepO 167 (te := 166) (u := .int .u32 (y : Int)) h Tryz.underlying167 info_u32 rfl _ _ (by rfl) (by rfl) (by rfl) (by rfl) rfl q2 q1 ?_
   intro gg cap w5 h8 _
   refine hK.out _ _ h8.size (fun hHeld => ?_)
   clear hK K
   try simp only [pu]
   refine tk 28 3 hHeld ?_
   refine dn ?_ _
   refine NoPanic.normal ?_
   go_wp2
   go_roundw
   case rel =>
    refine ⟨k + 1, _, by omega, by congr 1 <;> omega, rfl, ?_⟩
    rw [HW.out, u32s_append]
    exact h8
   case measure => simp [intOf]; omega
  ·obtain rfl : k = 16 := by omega
   have hi2 := hi.trans (show Value.int .i64 (4 * ((16 : Nat) : Int)) = .int .i64 64 from rfl)
   subst hi2
   clear hi
   have h0 : St w.heap.size w wr [ownR 166 1 v 16 (u32s (Sh.extend 0 (Sh.words b 16)))] := h
   clear h
   go_wp2
   clear hlt hk
   go_loopw [3, 5] (fun v i wr => ∃ (k : Nat) (v' : Value), k ≤ 48 ∧ i = .int .i64 (16 + (k : Int)) ∧ v' = v ∧ St w.heap.size w wr (ownR 166 1 v' (16 + k) (u32s (Sh.extend k (Sh.words b 16))) :: [])) (fun _ i _ => (64 - intOf i).toNat)
   case atStart => exact ⟨0, _, by omega, by simp, rfl, h0⟩
   case round =>
    clear h0
    obtain ⟨k, v, hk, hi, rfl, h⟩ := hrel
    by_cases hlt : k < 48
    ·subst hi
     have hl4 : 16 + (k : Int) < 64 := by omega
     have hel : (Sh.extend k (Sh.words b 16)).length = 16 + k := by rw [Sh.extend_length, Sh.words_length]
     have hlt4 : ∀ j, j < 16 + k → (Sh.extend k (Sh.words b 16)).getD j 0 < 4294967296 := fun j hj => by
      have hjl : j < (Sh.extend k (Sh.words b 16)).length := by omega
      rw [List.getD_eq_getElem?_getD, List.getElem?_eq_getElem hjl]
      exact Sh.extend_lt k _ (Sh.words_lt b 16) _ (List.getElem_mem hjl)
     obtain ⟨g, cap, rfl, _, _⟩ := h.own.form (by omega)
     have hxs : ∀ j, j < 16 + k → (u32s (Sh.extend k (Sh.words b 16)))[j]? = some (.int .u32 (((Sh.extend k (Sh.words b 16)).getD j 0 : Nat) : Int)) := fun j hj => by simp [u32s, hel, hj, List.getD_eq_getElem?_getD]
     have hc : ∀ j, j < 16 + k → wr.cell? ⟨g, j, none⟩ = some (.int .u32 (((Sh.extend k (Sh.words b 16)).getD j 0 : Nat) : Int)) := fun j hj => by
      have := h.own.cells (g := g) rfl j (.int .u32 (((Sh.extend k (Sh.words b 16)).getD j 0 : Nat) : Int)) (hxs j hj)
      rw [Addr.add_lit] at this
      simpa using this
     have hnx : Sh.extend (k + 1) (Sh.words b 16) = Sh.extend k (Sh.words b 16) ++ [Sh.nextW (Sh.extend k (Sh.words b 16))] := Sh.extend_succ _ _
     unfold Sh.nextW at hnx
     rw [hel] at hnx
     have c2 := hc (16 + k - 2) (by omega)
     have c7 := hc (16 + k - 7) (by omega)
     have c15 := hc (16 + k - 15) (by omega)
     have c16 := hc (16 + k - 16) (by omega)
     have X7 := hxs (16 + k - 7) (by omega)
     have X16 := hxs (16 + k - 16) (by omega)
     clear hxs
     have l2 := hlt4 (16 + k - 2) (by omega)
     have l7 := hlt4 (16 + k - 7) (by omega)
     have l15 := hlt4 (16 + k - 15) (by omega)
     have l16 := hlt4 (16 + k - 16) (by omega)
     clear hc hlt4 hel
     generalize (Sh.extend k (Sh.words b 16)).getD (16 + k - 2) 0 = x2 at c2 l2 hnx
     generalize (Sh.extend k (Sh.words b 16)).getD (16 + k - 7) 0 = x7 at c7 l7 hnx X7
     generalize (Sh.extend k (Sh.words b 16)).getD (16 + k - 15) 0 = x15 at c15 l15 hnx
     generalize (Sh.extend k (Sh.words b 16)).getD (16 + k - 16) 0 = x16 at c16 l16 hnx X16
     have k1 : ∀ n : Nat, 1 ≤ n → n ≤ 31 → ∀ X, Calls Tryz.prog 176 #[.int .u32 (x15 : Int), .int .i64 (n : Int)] X fun e w' => e = .returned (.int .u32 (Sh.rot x15 n)) ∧ ∃ k, w' = X.drewN k := fun n h1 h2 X => rotr_spec x15 n l15 h1 h2 X
     have k2 : ∀ n : Nat, 1 ≤ n → n ≤ 31 → ∀ X, Calls Tryz.prog 176 #[.int .u32 (x2 : Int), .int .i64 (n : Int)] X fun e w' => e = .returned (.int .u32 (Sh.rot x2 n)) ∧ ∃ k, w' = X.drewN k := fun n h1 h2 X => rotr_spec x2 n l2 h1 h2 X
     have r1 : ∀ X, Calls Tryz.prog 176 #[.int .u32 (x15 : Int), .int .i64 7] X fun e w' => e = .returned (.int .u32 (Sh.rot x15 7)) ∧ ∃ k, w' = X.drewN k := fun X => k1 7 (by decide) (by decide) X
     have r2 : ∀ X, Calls Tryz.prog 176 #[.int .u32 (x15 : Int), .int .i64 18] X fun e w' => e = .returned (.int .u32 (Sh.rot x15 18)) ∧ ∃ k, w' = X.drewN k := fun X => k1 18 (by decide) (by decide) X
     have r3 : ∀ X, Calls Tryz.prog 176 #[.int .u32 (x2 : Int), .int .i64 17] X fun e w' => e = .returned (.int .u32 (Sh.rot x2 17)) ∧ ∃ k, w' = X.drewN k := fun X => k2 17 (by decide) (by decide) X
     have r4 : ∀ X, Calls Tryz.prog 176 #[.int .u32 (x2 : Int), .int .i64 19] X fun e w' => e = .returned (.int .u32 (Sh.rot x2 19)) ∧ ∃ k, w' = X.drewN k := fun X => k2 19 (by decide) (by decide) X
     have o1 : bits .xor .u32 (bits .xor .u32 (Sh.rot x15 7 : Int) (Sh.rot x15 18 : Int)) ((x15 : Int) / 8) = ((Sh.ss0 x15 : Nat) : Int) := by
      have := rot2s x15 7 18 3 l15
      rw [show ((x15 / 2 ^ 3 : Nat) : Int) = (x15 : Int) / 8 from by simp] at this
      exact this
     have o2 : bits .xor .u32 (bits .xor .u32 (Sh.rot x2 17 : Int) (Sh.rot x2 19 : Int)) ((x2 : Int) / 1024) = ((Sh.ss1 x2 : Nat) : Int) := by
      have := rot2s x2 17 19 10 l2
      rw [show ((x2 / 2 ^ 10 : Nat) : Int) = (x2 : Int) / 1024 from by simp] at this
      exact this
     clear k1 k2
     generalize Sh.rot x15 7 = q1 at r1 o1
     generalize Sh.rot x15 18 = q2 at r2 o1
     generalize Sh.rot x2 17 = q3 at r3 o2
     generalize Sh.rot x2 19 = q4 at r4 o2
     generalize Sh.ss0 x15 = y15 at hnx o1
     generalize Sh.ss1 x2 = y2 at hnx o2
     have hv : IntKind.u32.wrap (IntKind.u32.wrap (IntKind.u32.wrap ((y2 : Int) + x7) + y15) + x16) = ((y2 + x7 + y15 + x16) % 4294967296 : Nat) := by rw [IntKind.wrap_u32', IntKind.wrap_u32', IntKind.wrap_u32']; omega
     obtain ⟨v, hvv⟩ : ∃ v, (y2 + x7 + y15 + x16) % 4294967296 = v := ⟨_, rfl⟩
     rw [hvv] at hv hnx
     have HW := Lib.hid hnx
     clear hnx hvv
     obtain ⟨p2, hp2⟩ : ∃ p, 16 + k - 2 = p := ⟨_, rfl⟩
     have e2 : 16 + (k : Int) - 2 = (p2 : Int) := by omega
     have f2 : IntKind.i64.wrap (p2 : Int) = (p2 : Int) := by rw [IntWalk.i64_left, IntWalk.wrap64_in _ (by omega)]
     have m2 : (p2 : Int) < 16 + (k : Int) := by omega
     have j2 : (0 : Int) ≤ (p2 : Int) := by omega
     rw [hp2] at c2
     clear hp2
     obtain ⟨p7, hp7⟩ : ∃ p, 16 + k - 7 = p := ⟨_, rfl⟩
     have e7 : 16 + (k : Int) - 7 = (p7 : Int) := by omega
     have f7 : IntKind.i64.wrap (p7 : Int) = (p7 : Int) := by rw [IntWalk.i64_left, IntWalk.wrap64_in _ (by omega)]
     have m7 : (p7 : Int) < 16 + (k : Int) := by omega
     have j7 : (0 : Int) ≤ (p7 : Int) := by omega
     rw [hp7] at c7 X7
     clear hp7
     obtain ⟨p15, hp15⟩ : ∃ p, 16 + k - 15 = p := ⟨_, rfl⟩
     have e15 : 16 + (k : Int) - 15 = (p15 : Int) := by omega
     have f15 : IntKind.i64.wrap (p15 : Int) = (p15 : Int) := by rw [IntWalk.i64_left, IntWalk.wrap64_in _ (by omega)]
     have m15 : (p15 : Int) < 16 + (k : Int) := by omega
     have j15 : (0 : Int) ≤ (p15 : Int) := by omega
     rw [hp15] at c15
     clear hp15
     obtain ⟨p16, hp16⟩ : ∃ p, 16 + k - 16 = p := ⟨_, rfl⟩
     have e16 : 16 + (k : Int) - 16 = (p16 : Int) := by omega
     have f16 : IntKind.i64.wrap (p16 : Int) = (p16 : Int) := by rw [IntWalk.i64_left, IntWalk.wrap64_in _ (by omega)]
     have m16 : (p16 : Int) < 16 + (k : Int) := by omega
     have j16 : (0 : Int) ≤ (p16 : Int) := by omega
     rw [hp16] at c16 X16
     clear hp16
     have z1 : (16 + k + 1) * 4 ≤ 140737488355328 := by omega
     have z2 : 16 + k + 1 ≤ maxLen := by unfold maxLen; omega
     have HX := Lib.hid (And.intro X7 X16)
     clear X7 X16
     go_wp2_with fail
     go_quiet (fail)
     have h3 := h.drewN nq
     have d7 : (wr.drewN nq).cell? ⟨g, p7, none⟩ = some (.int .u32 (x7 : Int)) := c7
     have d16 : (wr.drewN nq).cell? ⟨g, p16, none⟩ = some (.int .u32 (x16 : Int)) := c16
     clear h c2 c7 c15 c16
     generalize wr.drewN nq = W3 at h3 d7 d16 ⊢
     go_wp2_with (first
      | ((with_reducible refine (r1 _).mono ?_); rintro e w5 ⟨rfl, n5, rfl⟩)
      | ((with_reducible refine (r2 _).mono ?_); rintro e w5 ⟨rfl, n6, rfl⟩)
      | ((with_reducible refine (r3 _).mono ?_); rintro e w5 ⟨rfl, n7, rfl⟩)
      | ((with_reducible refine (r4 _).mono ?_); rintro e w5 ⟨rfl, n8, rfl⟩)
      | fail)
     have h4 := h3.drewN (n5 + n6 + n7 + n8)
     have d7' : (W3.drewN (n5 + n6 + n7 + n8)).drew.cell? ⟨g, p7, none⟩ = some (.int .u32 (x7 : Int)) := d7
     have d16' : (W3.drewN (n5 + n6 + n7 + n8)).drew.cell? ⟨g, p16, none⟩ = some (.int .u32 (x16 : Int)) := d16
     clear d7 d16 h3
     refine wp_region_noPanic ?_
     refine wp_region_held_drew (S := fun w' => w'.cell? ⟨g, p7, none⟩ = some (.int .u32 (x7 : Int)) ∧ w'.cell? ⟨g, p16, none⟩ = some (.int .u32 (x16 : Int))) (by kernel_rfl) ⟨d7', d16'⟩ (fun hHeld => ?_)
     refine tk 0 73 hHeld ?_
     refine tk 1 74 hHeld ?_
     refine tk 2 75 hHeld ?_
     refine tk 3 76 hHeld ?_
     refine tk 4 77 hHeld ?_
     refine tk 5 78 hHeld ?_
     refine tk 6 79 hHeld ?_
     refine tk 7 80 hHeld ?_
     refine tk 8 81 hHeld ?_
     refine tk 9 82 hHeld ?_
     refine tk 10 83 hHeld ?_
     refine tk 11 84 hHeld ?_
     refine tk 12 85 hHeld ?_
     refine tk 13 86 hHeld ?_
     refine tk 14 87 hHeld ?_
     refine tk 15 88 hHeld ?_
     refine rdy [16] ?_
     refine an 89 fun K hK => ?_
     go_simp
     refine hK.out _ _ ⟨below_cell ((Below.refl _ _).alloc (Nat.le_refl _) _) d7', below_cell ((Below.refl _ _).alloc (Nat.le_refl _) _) d16'⟩ (fun hHeld2 => ?_)
     clear hK K
     try simp only [pu]
     refine rdy [17] ?_
     refine an 90 fun K hK => ?_
     refine stepO 167 (te := 166) (u := .int .u32 (v : Int)) h4 Tryz.underlying167 info_u32 rfl _ _ (by rfl) (by rfl) (by rfl) (by rfl) rfl z2 z1 ?_
     intro gg cap2 w9 h8 hold
     refine hK.out _ _ ⟨hold g cap rfl p7 _ HX.out.1, hold g cap rfl p16 _ HX.out.2⟩ (fun hHeld3 => ?_)
     clear hK K
     try simp only [pu]
     refine tk 18 3 hHeld3 ?_
     refine dn ?_ _
     refine NoPanic.normal ?_
     go_wp2
     go_roundw
     case rel =>
      refine ⟨k + 1, _, by omega, by congr 1 <;> omega, rfl, ?_⟩
      rw [HW.out, u32s_append]
      exact h8
     case measure => simp [intOf]; omega
    ·obtain rfl : k = 48 := by omega
     have hi2 := hi.trans (show Value.int .i64 (16 + ((48 : Nat) : Int)) = .int .i64 64 from rfl)
     subst hi2
     clear hi
     have H9 := Lib.hid h
     clear h
     go_wp2
     go_ret
     exact ⟨_, rfl, H9.out⟩
end Go.Proofs.YtjjpdnpbhdcpbaaGreat
namespace Go.Proofs.YtjjpdnpbhdcpbaaGreat
set_option linter.unusedVariables false
open Go.RowKit
theorem St.join {lo : Nat} {w0 w w' : World} {Rs Ps : List Res} (h : St lo w0 w Rs) (h' : St w.heap.size w w' Ps) : St lo w0 w' (Ps ++ Rs) := by
 have hs := h.size
 refine ⟨h.below.trans (h'.below.mono hs), h.base, ?_⟩
 refine Held.append (F := fun k => w.heap.size ≤ k) (V := fun k => lo ≤ k ∧ k < w.heap.size) h'.held (h.held.lt.mod (Mod.of_below h'.below (fun _ => False)) (fun _ _ h => h)) (fun k hk => ⟨by show lo ≤ k; omega, fun hv => by omega⟩) (fun k hk => hk.1)
theorem row_u32 {w : World} {t : TypeId} {v : Value} {n : Nat} {L : List Nat} (h : w.ownsRow 0 t 1 v n (u32s L)) (hn : 0 < n) :
 ∃ g cap, v = .slice (some ⟨g, 0, none⟩) n cap ∧ g < w.heap.size ∧ ∀ j, j < n → w.cell? ⟨g, j, none⟩ = some (.int .u32 ((L.getD j 0 : Nat) : Int)) := by
 obtain ⟨g, cap, rfl, _, hg⟩ := h.form hn
 have hl : L.length = n := by have := h.1; rw [u32s_length] at this; omega
 refine ⟨g, cap, rfl, hg, fun j hj => ?_⟩
 have := h.cells (g := g) rfl j (.int .u32 ((L.getD j 0 : Nat) : Int)) (by simp [u32s, hl, hj, List.getD_eq_getElem?_getD])
 rw [Addr.add_lit, Nat.zero_add] at this
 exact this
set_option maxRecDepth 20000 in
theorem rconstants_spec {lo : Nat} {w0 w : World} {Rs : List Res} (h : St lo w0 w Rs) : Calls Tryz.prog 175 #[] w fun e w' => ∃ v, e = .returned v ∧ St lo w0 w' (ownR 166 1 v 64 (u32s Sh.ks) :: Rs) := by
 have h1 : St lo w0 (w.alloc (.cells (arr Sh.ks) 166)) (ownR 166 1 (.slice (some ⟨w.heap.size, 0, none⟩) 64 64) 64 (u32s Sh.ks) :: Rs) := h.new_own ((Below.refl _ w).alloc (Nat.le_refl _) _) (World.ownsRow_lit w (arr Sh.ks) 64 (Nat.le_refl _) (by decide) (arr_size _))
 go_enter Tryz.func175, Tryz.ntmps175
 go_wp2
 go_ret
 exact ⟨_, rfl, h1⟩
end Go.Proofs.YtjjpdnpbhdcpbaaGreat
namespace Go.Proofs.YtjjpdnpbhdcpbaaGreat
set_option linter.unusedVariables false
open Go.RowKit
set_option maxRecDepth 20000 in
set_option maxHeartbeats 4000000 in
theorem compress_spec {lo : Nat} {w0 w : World} {Rs : List Res} {v : Value} {s : Sh.W8} (h : St lo w0 w (ownR 166 1 v 8 (u32s s.list) :: Rs)) (hs : s.Ok) (b : Sh.Str) (hb : b.length = 64) :
 Calls Tryz.prog 146 #[v, .string ⟨b.toArray⟩] w fun e w' => ∃ v', e = .returned v' ∧ St lo w0 w' (ownR 166 1 v' 8 (u32s (Sh.block s b).list) :: ownR 166 1 v 8 (u32s s.list) :: Rs) := by
 have HS := Lib.hid (And.intro hs hb)
 clear hs hb
 go_enter Tryz.func146, Tryz.ntmps146
 go_wp2_with fail
 refine (rschedule_spec b HS.out.2 w).mono ?_
 rintro e w1 ⟨vw, rfl, h1⟩
 have h2 := h.join h1
 clear h h1
 go_wp2_with fail
 refine (rconstants_spec h2).mono ?_
 rintro e w2 ⟨vk, rfl, h3⟩
 clear h2
 replace h3 : St lo w0 w2 (ownR 166 1 vk 64 (u32s Sh.ks) :: ownR 166 1 vw 64 (u32s (Sh.sched b)) :: ownR 166 1 v 8 (u32s s.list) :: Rs) := h3
 obtain ⟨gv, cv, hv, _, cs⟩ := row_u32 ((h3.front 2 (by simp)).own) (by decide)
 obtain ⟨gk, ck, hvk, lk, kk⟩ := row_u32 h3.own (by decide)
 obtain ⟨gw, cw, hvw, lw, kw⟩ := row_u32 ((h3.front 1 (by simp)).own) (by decide)
 subst hv hvk hvw
 have q0 : w2.cell? ⟨gv, 0, none⟩ = some (.int .u32 (s.a : Int)) := cs 0 (by decide)
 have q1 : w2.cell? ⟨gv, 1, none⟩ = some (.int .u32 (s.b : Int)) := cs 1 (by decide)
 have q2 : w2.cell? ⟨gv, 2, none⟩ = some (.int .u32 (s.c : Int)) := cs 2 (by decide)
 have q3 : w2.cell? ⟨gv, 3, none⟩ = some (.int .u32 (s.d : Int)) := cs 3 (by decide)
 have q4 : w2.cell? ⟨gv, 4, none⟩ = some (.int .u32 (s.e : Int)) := cs 4 (by decide)
 have q5 : w2.cell? ⟨gv, 5, none⟩ = some (.int .u32 (s.f : Int)) := cs 5 (by decide)
 have q6 : w2.cell? ⟨gv, 6, none⟩ = some (.int .u32 (s.g : Int)) := cs 6 (by decide)
 have q7 : w2.cell? ⟨gv, 7, none⟩ = some (.int .u32 (s.h : Int)) := cs 7 (by decide)
 obtain ⟨L, hL⟩ : ∃ L, Sh.sched b = L := ⟨_, rfl⟩
 obtain ⟨K, hK⟩ : ∃ K, Sh.ks = K := ⟨_, rfl⟩
 rw [hL] at kw
 rw [hK] at kk
 have H3 := Lib.hid h3
 have HA := Lib.hid (And.intro cs (And.intro kk kw))
 have HL := Lib.hid (And.intro (And.intro hL hK) (And.intro (show L.length = 64 by rw [← hL, Sh.sched_length]) (show K.length = 64 by rw [← hK]; rfl)))
 clear cs kk kw hL hK h3
 go_wp2_with fail
 go_quiet (fail)
 go_wp2
 clear q0 q1 q2 q3 q4 q5 q6 q7
 have H4 := Lib.hid (H3.out.drewN nq)
 have HB := Lib.hid (show (∀ j, j < 64 → (w2.drewN nq).cell? ⟨gk, j, none⟩ = some (.int .u32 ((K.getD j 0 : Nat) : Int))) ∧ (∀ j, j < 64 → (w2.drewN nq).cell? ⟨gw, j, none⟩ = some (.int .u32 ((L.getD j 0 : Nat) : Int))) ∧ (∀ j, j < 8 → (w2.drewN nq).cell? ⟨gv, j, none⟩ = some (.int .u32 ((s.list.getD j 0 : Nat) : Int))) from ⟨HA.out.2.1, HA.out.2.2, HA.out.1⟩)
 clear H3 HA
 generalize w2.drewN nq = w3 at H4 HB ⊢
 go_loopw [7, 8, 9, 10, 11, 12, 13, 14, 15] (fun xa xb xc xd xe xf xg xh i wr => ∃ (k m : Nat), k ≤ 64 ∧ i = .int .i64 k ∧ wr = w3.drewN m ∧ xa = .int .u32 ((Sh.rounds s ((K.zip L).take k)).a : Int) ∧ xb = .int .u32 ((Sh.rounds s ((K.zip L).take k)).b : Int) ∧ xc = .int .u32 ((Sh.rounds s ((K.zip L).take k)).c : Int) ∧ xd = .int .u32 ((Sh.rounds s ((K.zip L).take k)).d : Int) ∧ xe = .int .u32 ((Sh.rounds s ((K.zip L).take k)).e : Int) ∧ xf = .int .u32 ((Sh.rounds s ((K.zip L).take k)).f : Int) ∧ xg = .int .u32 ((Sh.rounds s ((K.zip L).take k)).g : Int) ∧ xh = .int .u32 ((Sh.rounds s ((K.zip L).take k)).h : Int)) (fun _ _ _ _ _ _ _ _ i _ => 64 - (intOf i).toNat)
 case atStart => exact ⟨0, 0, by omega, rfl, rfl, rfl, rfl, rfl, rfl, rfl, rfl, rfl, rfl⟩
 case round =>
  obtain ⟨n, m, hn, rfl, hw, rfl, rfl, rfl, rfl, rfl, rfl, rfl, rfl⟩ := hrel
  by_cases hlt : n < 64
  ·have hk1 : (n : Int) < 64 := by omega
   have hk0 : (0 : Int) ≤ (n : Int) := by omega
   have hT := Sh.rounds_ok ((K.zip L).take n) HS.out.1
   have hKl : K.length = 64 := HL.out.2.2
   have hLl : L.length = 64 := HL.out.2.1
   have hst : Sh.rounds s ((K.zip L).take (n + 1)) = Sh.rnd (Sh.rounds s ((K.zip L).take n)) (K.getD n 0) (L.getD n 0) := by
    have hz : n < (K.zip L).length := by rw [List.length_zip]; omega
    rw [List.take_add_one, List.getElem?_eq_getElem hz]
    show Sh.rounds s (_ ++ [(K.zip L)[n]]) = _
    rw [Sh.rounds_snoc, List.getElem_zip]
    simp [hKl, hLl, hlt]
   have cK : wr.cell? ⟨gk, n, none⟩ = some (.int .u32 ((K.getD n 0 : Nat) : Int)) := by rw [hw]; exact HB.out.1 n hlt
   have cL : wr.cell? ⟨gw, n, none⟩ = some (.int .u32 ((L.getD n 0 : Nat) : Int)) := by rw [hw]; exact HB.out.2.1 n hlt
   have lK : K.getD n 0 < 4294967296 := by
    have hm : K.getD n 0 ∈ K := by rw [List.getD_eq_getElem?_getD, List.getElem?_eq_getElem (by omega)]; exact List.getElem_mem _
    rw [← HL.out.1.2] at hm ⊢
    exact Sh.ks_lt _ hm
   have lL : L.getD n 0 < 4294967296 := by
    have hm : L.getD n 0 ∈ L := by rw [List.getD_eq_getElem?_getD, List.getElem?_eq_getElem (by omega)]; exact List.getElem_mem _
    rw [← HL.out.1.1] at hm ⊢
    exact Sh.sched_lt _ _ hm
   generalize K.getD n 0 = kn at cK lK hst
   generalize L.getD n 0 = wn at cL lL hst
   have HW := Lib.hid hw
   clear hw hKl hLl
   generalize Sh.rounds s ((K.zip L).take n) = T at hst hT ⊢
   obtain ⟨a, b', c, d, e, f, gg, hh⟩ := T
   obtain ⟨la, lb, lc, ld, le, lf, lg, lh⟩ := hT
   simp only at la lb lc ld le lf lg lh
   have k1 : ∀ n : Nat, 1 ≤ n → n ≤ 31 → ∀ X, Calls Tryz.prog 176 #[.int .u32 (e : Int), .int .i64 (n : Int)] X fun e' w' => e' = .returned (.int .u32 (Sh.rot e n)) ∧ ∃ k, w' = X.drewN k := fun n h1 h2 X => rotr_spec e n le h1 h2 X
   have k2 : ∀ n : Nat, 1 ≤ n → n ≤ 31 → ∀ X, Calls Tryz.prog 176 #[.int .u32 (a : Int), .int .i64 (n : Int)] X fun e' w' => e' = .returned (.int .u32 (Sh.rot a n)) ∧ ∃ k, w' = X.drewN k := fun n h1 h2 X => rotr_spec a n la h1 h2 X
   have r1 : ∀ X, Calls Tryz.prog 176 #[.int .u32 (e : Int), .int .i64 6] X fun e' w' => e' = .returned (.int .u32 (Sh.rot e 6)) ∧ ∃ k, w' = X.drewN k := fun X => k1 6 (by decide) (by decide) X
   have r2 : ∀ X, Calls Tryz.prog 176 #[.int .u32 (e : Int), .int .i64 11] X fun e' w' => e' = .returned (.int .u32 (Sh.rot e 11)) ∧ ∃ k, w' = X.drewN k := fun X => k1 11 (by decide) (by decide) X
   have r3 : ∀ X, Calls Tryz.prog 176 #[.int .u32 (e : Int), .int .i64 25] X fun e' w' => e' = .returned (.int .u32 (Sh.rot e 25)) ∧ ∃ k, w' = X.drewN k := fun X => k1 25 (by decide) (by decide) X
   have r4 : ∀ X, Calls Tryz.prog 176 #[.int .u32 (a : Int), .int .i64 2] X fun e' w' => e' = .returned (.int .u32 (Sh.rot a 2)) ∧ ∃ k, w' = X.drewN k := fun X => k2 2 (by decide) (by decide) X
   have r5 : ∀ X, Calls Tryz.prog 176 #[.int .u32 (a : Int), .int .i64 13] X fun e' w' => e' = .returned (.int .u32 (Sh.rot a 13)) ∧ ∃ k, w' = X.drewN k := fun X => k2 13 (by decide) (by decide) X
   have r6 : ∀ X, Calls Tryz.prog 176 #[.int .u32 (a : Int), .int .i64 22] X fun e' w' => e' = .returned (.int .u32 (Sh.rot a 22)) ∧ ∃ k, w' = X.drewN k := fun X => k2 22 (by decide) (by decide) X
   have u1 : bits .xor .u32 (bits .xor .u32 (Sh.rot e 6 : Int) (Sh.rot e 11 : Int)) (Sh.rot e 25 : Int) = ((Sh.bS1 e : Nat) : Int) := rot3 e 6 11 25 le
   have u2 : bits .xor .u32 (bits .xor .u32 (Sh.rot a 2 : Int) (Sh.rot a 13 : Int)) (Sh.rot a 22 : Int) = ((Sh.bS0 a : Nat) : Int) := rot3 a 2 13 22 la
   clear k1 k2
   generalize Sh.rot e 6 = g1 at r1 u1
   generalize Sh.rot e 11 = g2 at r2 u1
   generalize Sh.rot e 25 = g3 at r3 u1
   generalize Sh.rot a 2 = g4 at r4 u2
   generalize Sh.rot a 13 = g5 at r5 u2
   generalize Sh.rot a 22 = g6 at r6 u2
   have o1 := u32_and_nat e f le lf
   have o2 : bits .xor .u32 IntKind.u32.max (e : Int) = ((4294967295 ^^^ e : Nat) : Int) := u32_xor_nat 4294967295 e (by decide) le
   have o3 := u32_and_nat (4294967295 ^^^ e) gg (Sh.xor_lt (by decide) le) lg
   have o4 := u32_xor_nat (e &&& f) ((4294967295 ^^^ e) &&& gg) (Sh.and_lt le) (Sh.and_lt (Sh.xor_lt (by decide) le))
   have p1 := u32_and_nat a b' la lb
   have p2 := u32_and_nat a c la lc
   have p3 := u32_and_nat b' c lb lc
   have p4 := u32_xor_nat (a &&& b') (a &&& c) (Sh.and_lt la) (Sh.and_lt la)
   have p5 := u32_xor_nat ((a &&& b') ^^^ (a &&& c)) (b' &&& c) (Sh.xor_lt (Sh.and_lt la) (Sh.and_lt la)) (Sh.and_lt lb)
   have t1e : Sh.t1 ⟨a, b', c, d, e, f, gg, hh⟩ kn wn = (hh + Sh.bS1 e + ((e &&& f) ^^^ ((4294967295 ^^^ e) &&& gg)) + kn + wn) % 4294967296 := rfl
   have t2e : Sh.t2 ⟨a, b', c, d, e, f, gg, hh⟩ = (Sh.bS0 a + ((a &&& b') ^^^ (a &&& c) ^^^ (b' &&& c))) % 4294967296 := rfl
   generalize (e &&& f) ^^^ ((4294967295 ^^^ e) &&& gg) = z1 at o4 t1e
   generalize (4294967295 ^^^ e) &&& gg = z2 at o3 o4
   generalize 4294967295 ^^^ e = z3 at o2 o3
   generalize e &&& f = z4 at o1 o4
   generalize (a &&& b') ^^^ (a &&& c) ^^^ (b' &&& c) = y1 at p5 t2e
   generalize (a &&& b') ^^^ (a &&& c) = y2 at p4 p5
   generalize a &&& b' = y3 at p1 p4
   generalize a &&& c = y4 at p2 p4
   generalize b' &&& c = y5 at p3 p5
   generalize Sh.bS1 e = m1 at u1 t1e
   generalize Sh.bS0 a = m2 at u2 t2e
   obtain ⟨T1, hT1⟩ : ∃ T1, Sh.t1 ⟨a, b', c, d, e, f, gg, hh⟩ kn wn = T1 := ⟨_, rfl⟩
   obtain ⟨T2, hT2⟩ : ∃ T2, Sh.t2 ⟨a, b', c, d, e, f, gg, hh⟩ = T2 := ⟨_, rfl⟩
   rw [hT1] at t1e
   rw [hT2] at t2e
   have s2 : IntKind.u32.wrap ((m2 : Int) + y1) = (T2 : Int) := by rw [t2e, IntKind.wrap_u32']; omega
   obtain ⟨N1, hN1⟩ : ∃ N1, (T1 + T2) % 4294967296 = N1 := ⟨_, rfl⟩
   obtain ⟨N2, hN2⟩ : ∃ N2, (d + T1) % 4294967296 = N2 := ⟨_, rfl⟩
   have o2' : bits .xor .u32 (if IntKind.u32.signed = true then -1 else IntKind.u32.max) (e : Int) = (z3 : Int) := o2
   have sT : ((hh : Int) + m1 + z1 + kn + wn) % 4294967296 = (T1 : Int) := by rw [t1e]; omega
   have s3 : ((T1 : Int) + T2) % 4294967296 = (N1 : Int) := by rw [← hN1]; omega
   have s4 : ((d : Int) + T1) % 4294967296 = (N2 : Int) := by rw [← hN2]; omega
   have hnew : (Sh.rnd ⟨a, b', c, d, e, f, gg, hh⟩ kn wn) = ⟨N1, a, b', c, N2, e, f, gg⟩ := by
    unfold Sh.rnd
    rw [hT1, hT2]
    simp only [hN1, hN2]
   have HN := Lib.hid (hst.trans hnew)
   clear t1e t2e hT1 hT2 hN1 hN2 hnew la lb lc ld le lf lg lh lK lL hst
   go_wp2_with fail
   go_quiet (first
    | (go_at_call 176; first
        | with_reducible exact Calls.quiet_of (r1 _)
        | with_reducible exact Calls.quiet_of (r2 _)
        | with_reducible exact Calls.quiet_of (r3 _)))
   have cK' : (wr.drewN nq).cell? ⟨gk, n, none⟩ = some (.int .u32 (kn : Int)) := cK
   go_wp2_with (first
    | ((with_reducible refine (r4 _).mono ?_); rintro e w5 ⟨rfl, n5, rfl⟩)
    | ((with_reducible refine (r5 _).mono ?_); rintro e w5 ⟨rfl, n6, rfl⟩)
    | ((with_reducible refine (r6 _).mono ?_); rintro e w5 ⟨rfl, n7, rfl⟩)
    | fail)
   go_roundw
   case rel =>
    refine ⟨n + 1, _, by omega, by go_num, by rw [HW.out, World.drewN_drewN], ?_, ?_, ?_, ?_, ?_, ?_, ?_, ?_⟩
    all_goals (rw [HN.out]; all_goals first | rfl | exact congrArg (Value.int .u32) s3 | exact congrArg (Value.int .u32) s4)
   case measure => simp [intOf]; omega
  ·obtain rfl : n = 64 := by omega
   have hge : decide (((64 : Nat) : Int) < 64) = false := rfl
   have hfull : (K.zip L).take 64 = K.zip L := List.take_of_length_le (by rw [List.length_zip, HL.out.2.1, HL.out.2.2]; omega)
   rw [hfull]
   clear hfull hn
   have H5 := Lib.hid (show St lo w0 wr _ by rw [hw]; exact (H4.out.drewN m))
   have hT := Sh.rounds_ok (K.zip L) HS.out.1
   obtain ⟨T, hTe⟩ : ∃ T, Sh.rounds s (K.zip L) = T := ⟨_, rfl⟩
   rw [hTe] at hT ⊢
   have hbl : Sh.block s b = Sh.add8 s T := by unfold Sh.block; rw [HL.out.1.1, HL.out.1.2, hTe]
   have hsok := HS.out.1
   have q0 : wr.drew.cell? ⟨gv, 0, none⟩ = some (.int .u32 (s.a : Int)) := by rw [hw]; exact HB.out.2.2 0 (by decide)
   have q1 : wr.drew.cell? ⟨gv, 1, none⟩ = some (.int .u32 (s.b : Int)) := by rw [hw]; exact HB.out.2.2 1 (by decide)
   have q2 : wr.drew.cell? ⟨gv, 2, none⟩ = some (.int .u32 (s.c : Int)) := by rw [hw]; exact HB.out.2.2 2 (by decide)
   have q3 : wr.drew.cell? ⟨gv, 3, none⟩ = some (.int .u32 (s.d : Int)) := by rw [hw]; exact HB.out.2.2 3 (by decide)
   have q4 : wr.drew.cell? ⟨gv, 4, none⟩ = some (.int .u32 (s.e : Int)) := by rw [hw]; exact HB.out.2.2 4 (by decide)
   have q5 : wr.drew.cell? ⟨gv, 5, none⟩ = some (.int .u32 (s.f : Int)) := by rw [hw]; exact HB.out.2.2 5 (by decide)
   have q6 : wr.drew.cell? ⟨gv, 6, none⟩ = some (.int .u32 (s.g : Int)) := by rw [hw]; exact HB.out.2.2 6 (by decide)
   have q7 : wr.drew.cell? ⟨gv, 7, none⟩ = some (.int .u32 (s.h : Int)) := by rw [hw]; exact HB.out.2.2 7 (by decide)
   have ea : IntKind.u32.wrap ((s.a : Int) + (T.a : Int)) = (((s.a + T.a) % 4294967296 : Nat) : Int) := by rw [IntKind.wrap_u32']; omega
   generalize hha : (s.a + T.a) % 4294967296 = na at ea
   have eb : IntKind.u32.wrap ((s.b : Int) + (T.b : Int)) = (((s.b + T.b) % 4294967296 : Nat) : Int) := by rw [IntKind.wrap_u32']; omega
   generalize hhb : (s.b + T.b) % 4294967296 = nb at eb
   have ec : IntKind.u32.wrap ((s.c : Int) + (T.c : Int)) = (((s.c + T.c) % 4294967296 : Nat) : Int) := by rw [IntKind.wrap_u32']; omega
   generalize hhc : (s.c + T.c) % 4294967296 = nc at ec
   have ed : IntKind.u32.wrap ((s.d : Int) + (T.d : Int)) = (((s.d + T.d) % 4294967296 : Nat) : Int) := by rw [IntKind.wrap_u32']; omega
   generalize hhd : (s.d + T.d) % 4294967296 = nd at ed
   have ee : IntKind.u32.wrap ((s.e : Int) + (T.e : Int)) = (((s.e + T.e) % 4294967296 : Nat) : Int) := by rw [IntKind.wrap_u32']; omega
   generalize hhe : (s.e + T.e) % 4294967296 = ne at ee
   have ef : IntKind.u32.wrap ((s.f : Int) + (T.f : Int)) = (((s.f + T.f) % 4294967296 : Nat) : Int) := by rw [IntKind.wrap_u32']; omega
   generalize hhf : (s.f + T.f) % 4294967296 = nf at ef
   have eg : IntKind.u32.wrap ((s.g : Int) + (T.g : Int)) = (((s.g + T.g) % 4294967296 : Nat) : Int) := by rw [IntKind.wrap_u32']; omega
   generalize hhg : (s.g + T.g) % 4294967296 = ng at eg
   have eh : IntKind.u32.wrap ((s.h : Int) + (T.h : Int)) = (((s.h + T.h) % 4294967296 : Nat) : Int) := by rw [IntKind.wrap_u32']; omega
   generalize hhh : (s.h + T.h) % 4294967296 = nh at eh
   have hadd : Sh.add8 s T = ⟨na, nb, nc, nd, ne, nf, ng, nh⟩ := by unfold Sh.add8; rw [hha, hhb, hhc, hhd, hhe, hhf, hhg, hhh]
   have HQ := Lib.hid (hbl.trans hadd)
   clear hha hhb hhc hhd hhe hhf hhg hhh hadd hbl hTe hT hsok hw HB
   go_wp2_with fail
   refine wp_region_noPanic ?_
   refine wp_region_held_drew (S := fun w' => w'.cell? ⟨gv, 0, none⟩ = some (.int .u32 (s.a : Int)) ∧ w'.cell? ⟨gv, 1, none⟩ = some (.int .u32 (s.b : Int)) ∧ w'.cell? ⟨gv, 2, none⟩ = some (.int .u32 (s.c : Int)) ∧ w'.cell? ⟨gv, 3, none⟩ = some (.int .u32 (s.d : Int)) ∧ w'.cell? ⟨gv, 4, none⟩ = some (.int .u32 (s.e : Int)) ∧ w'.cell? ⟨gv, 5, none⟩ = some (.int .u32 (s.f : Int)) ∧ w'.cell? ⟨gv, 6, none⟩ = some (.int .u32 (s.g : Int)) ∧ w'.cell? ⟨gv, 7, none⟩ = some (.int .u32 (s.h : Int))) (by kernel_rfl) ⟨q0, q1, q2, q3, q4, q5, q6, q7⟩ (fun hHeld => ?_)
   refine tk 0 110 hHeld ?_
   refine tk 1 111 hHeld ?_
   refine tk 2 112 hHeld ?_
   refine tk 3 113 hHeld ?_
   refine tk 4 114 hHeld ?_
   refine tk 5 115 hHeld ?_
   refine tk 6 116 hHeld ?_
   refine tk 7 117 hHeld ?_
   refine tk 8 118 hHeld ?_
   refine tk 9 119 hHeld ?_
   refine tk 10 120 hHeld ?_
   refine tk 11 121 hHeld ?_
   refine tk 12 122 hHeld ?_
   refine tk 13 123 hHeld ?_
   refine tk 14 124 hHeld ?_
   refine tk 15 125 hHeld ?_
   refine tk 16 126 hHeld ?_
   refine tk 17 127 hHeld ?_
   refine tk 18 128 hHeld ?_
   refine tk 19 129 hHeld ?_
   refine tk 20 130 hHeld ?_
   refine tk 21 131 hHeld ?_
   refine tk 22 132 hHeld ?_
   refine tk 23 133 hHeld ?_
   refine tk 24 134 hHeld ?_
   refine tk 25 135 hHeld ?_
   refine tk 26 136 hHeld ?_
   refine tk 27 137 hHeld ?_
   refine tk 28 138 hHeld ?_
   refine tk 29 139 hHeld ?_
   refine tk 30 140 hHeld ?_
   refine tk 31 141 hHeld ?_
   refine tk 32 142 hHeld ?_
   refine tk 33 143 hHeld ?_
   refine tk 34 144 hHeld ?_
   refine tk 35 145 hHeld ?_
   refine tk 36 146 hHeld ?_
   refine tk 37 147 hHeld ?_
   refine tk 38 148 hHeld ?_
   refine tk 39 149 hHeld ?_
   refine rdy [40] ?_
   refine an 150 fun K hK => ?_
   go_simp
   have HB2 := (H5.out.drew).new_own (e := 166) (size := 1) ((Below.refl _ wr.drew).alloc (Nat.le_refl _) (.cells (arr [na, nb, nc, nd, ne, nf, ng, nh]) 166)) (World.ownsRow_lit wr.drew (arr [na, nb, nc, nd, ne, nf, ng, nh]) 8 (Nat.le_refl _) (by decide) rfl)
   have BA := (Below.refl wr.drew.heap.size wr.drew).alloc (Nat.le_refl _) (.cells (arr [na, nb, nc, nd, ne, nf, ng, nh]) 166)
   refine hK.out _ _ ⟨below_cell BA q0, below_cell BA q1, below_cell BA q2, below_cell BA q3, below_cell BA q4, below_cell BA q5, below_cell BA q6, below_cell BA q7⟩ (fun hHeld2 => ?_)
   clear hK K BA
   have HB3 := Lib.hid (HB2.swap.tail.swap.tail)
   try simp only [pu]
   refine tk 41 4 hHeld2 ?_
   refine dn ?_ _
   refine NoPanic.normal ?_
   clear hHeld hHeld2 q0 q1 q2 q3 q4 q5 q6 q7
   go_wp2
   go_ret
   refine ⟨_, rfl, ?_⟩
   rw [HQ.out]
   exact HB3.out
end Go.Proofs.YtjjpdnpbhdcpbaaGreat
namespace Go.Proofs.YtjjpdnpbhdcpbaaGreat
set_option linter.unusedVariables false
open Go.RowKit
def Calm (fr : Nat × Nat) (n : Nat) : Prop := ∀ j, j < n → ¬ (fr.1 ≤ j ∧ j < fr.2)
theorem calm_frozen {w : World} {g : Nat} {cur : Array Value} {t : TypeId} {fr : Nat × Nat} (hg : w.heap[g]? = some (.cells cur t fr)) (hc : Calm fr cur.size) (j : Nat) (hj : j < cur.size) : w.frozen? ⟨g, j, none⟩ = false := by
 obtain ⟨lo, hi⟩ := fr
 have := hc j hj
 simp only [World.frozen?, hg]
 simp only at this
 by_cases h1 : lo ≤ j
 ·have h2 : ¬ j < hi := fun h => this ⟨h1, h⟩
  simp [h2]
 ·simp [h1]
theorem store_calm (P : Program) (g : Nat) (t : TypeId) (fr : Nat × Nat) : ∀ (news : List Value) (o k : Nat) (cur : Array Value) (w : World), w.heap[g]? = some (.cells cur t fr) → Calm fr cur.size → o + k + news.length ≤ cur.size → (∀ v ∈ news, v.oneCell' = true) →
 (storeCells ⟨g, o, none⟩ news k).run P w = .ok () (w.setRow g (cur.toList.take (o + k) ++ news ++ cur.toList.drop (o + k + news.length)).toArray) := by
 intro news
 induction news with
 | nil =>
   intro o k cur w hg _ _ _
   have h0 : (cur.toList.take (o + k) ++ [] ++ cur.toList.drop (o + k + ([] : List Value).length)).toArray = cur := by simp
   rw [h0, setRow_self w g cur t fr hg]
   rfl
 | cons x rest ih =>
   intro o k cur w hg hc hl h1
   have hlen : o + k < cur.size := by simp at hl; omega
   have ha : (⟨g, o, none⟩ : Addr).add k = ⟨g, o + k, none⟩ := Addr.add_lit g o k
   have hcell : w.cell? ⟨g, o + k, none⟩ = some cur[o + k] := by simp [World.cell?, hg, hlen]
   have hset := setRow_heap w g cur (cur.setIfInBounds (o + k) x) t fr hg
   have hs : (store ((⟨g, o, none⟩ : Addr).add k) x).run P w = .ok () (w.setRow g (cur.setIfInBounds (o + k) x)) := by
    rw [ha, run_store P w _ x _ (h1 x (by simp)), hcell]
    simp [calm_frozen hg hc (o + k) hlen, setCell_eq_setRow w g (o + k) cur t fr x hg]
   have hi := ih o (k + 1) (cur.setIfInBounds (o + k) x) _ hset (by rwa [Array.size_setIfInBounds]) (by simp at hl ⊢; omega) (fun y hy => h1 y (by simp [hy]))
   simp only [storeCells, Sem.run_bind, hs, Result.andThen_ok, hi, setRow_setRow]
   congr 3
   have e := list_seg_step cur.toList (o + k) x rest (by simp at hl ⊢; omega)
   simpa [Array.toList_setIfInBounds, Nat.add_assoc] using e
def OwnsM (w : World) (e : TypeId) (size : Nat) (v : Value) (n : Nat) (xs : List Value) : Prop :=
 xs.length = n * size ∧ ((v = .slice none 0 0 ∧ n = 0) ∨ ∃ g cap cur fr, v = .slice (some ⟨g, 0, none⟩) n cap ∧ w.heap[g]? = some (.cells cur e fr) ∧ Calm fr cur.size ∧ n ≤ cap ∧ cap ≤ maxLen ∧ cur.size = cap * size ∧ cur.toList.take (n * size) = xs)
section
variable {w w' : World} {e : TypeId} {size : Nat} {v : Value} {n : Nat} {xs : List Value}
theorem OwnsM.of (h : w.ownsRow 0 e size v n xs) : OwnsM w e size v n xs := by
 refine ⟨h.1, ?_⟩
 rcases h.2 with h2 | ⟨g, cap, cur, hv, _, hg, r⟩
 ·exact .inl h2
 ·exact .inr ⟨g, cap, cur, (0, 0), hv, hg, fun j _ h => by have := h.2; simp at this, r⟩
theorem OwnsM.lt (h : OwnsM w e size v n xs) : ∀ k, v.ownBlock = some k → k < w.heap.size := by
 intro k hk
 rcases h.2 with ⟨rfl, _⟩ | ⟨g, cap, cur, fr, rfl, hg, _⟩
 ·simp [Value.ownBlock] at hk
 ·simp [Value.ownBlock] at hk
  subst hk
  exact (Array.getElem?_eq_some_iff.1 hg).1
theorem OwnsM.mod {S : Nat → Prop} (h : OwnsM w e size v n xs) (hm : Mod S w w') (hv : ∀ k, v.ownBlock = some k → ¬ S k) : OwnsM w' e size v n xs := by
 refine ⟨h.1, ?_⟩
 have hlt := h.lt
 rcases h.2 with h2 | ⟨g, cap, cur, fr, rfl, hg, r⟩
 ·exact .inl h2
 ·exact .inr ⟨g, cap, cur, fr, rfl, (hm.block g (hlt g rfl) (hv g rfl)).trans hg, r⟩
theorem OwnsM.cells (h : OwnsM w e size v n xs) {g : Nat} (hg : v.ownBlock = some g) : ∀ j u, xs[j]? = some u → w.cell? ⟨g, j, none⟩ = some u := by
 intro j u hu
 rcases h.2 with ⟨rfl, _⟩ | ⟨g', cap, cur, fr, rfl, hh, _, _, _, _, ht⟩
 ·simp [Value.ownBlock] at hg
 ·simp [Value.ownBlock] at hg
  subst hg
  rw [cell_of_row w g' j cur e fr hh]
  rw [← ht, List.getElem?_take] at hu
  split at hu
  ·simpa using hu
  ·cases hu
theorem OwnsM.put {g cap : Nat} (h : OwnsM w e size (.slice (some ⟨g, 0, none⟩) n cap) n xs) (j : Nat) (u : Value) (hj : j < n * size) : OwnsM (w.setCell ⟨g, j, none⟩ u) e size (.slice (some ⟨g, 0, none⟩) n cap) n (xs.set j u) := by
 refine ⟨by rw [List.length_set]; exact h.1, ?_⟩
 rcases h.2 with ⟨he, _⟩ | ⟨g', cap', cur, fr, he, hg, hc, h1, h2, h3, h4⟩
 ·cases he
 ·injection he with e1 e2 e3
  injection e1 with e1
  injection e1 with e1
  subst e1 e3
  refine .inr ⟨g, cap, cur.setIfInBounds j u, fr, rfl, ?_, by rwa [Array.size_setIfInBounds], h1, h2, by rwa [Array.size_setIfInBounds], ?_⟩
  ·rw [setCell_eq_setRow w g j cur e fr u hg]
   exact setRow_heap w g cur _ e fr hg
  ·rw [Array.toList_setIfInBounds, List.take_set, h4]
theorem OwnsM.append {P : Program} (h : OwnsM w e size v n xs) (t ty : TypeId) (i : TypeInfo) (z : Value) (bytes : Nat) (ht : P.underlying t = some (.slice e)) (hi : P.info? e = some i) (hz : i.zero = some z) (hsize : i.size = size) (hby : i.bytes = bytes) (hzs : z.cells.size = size) (hsz : 0 < size)
 (a : Addr) (m c : Nat) (news : List Value) (hl : news.length = m * size) (hnews : ∀ j u, news[j]? = some u → w.cell? (a.add j) = some u) (h1 : ∀ u ∈ news, u.oneCell' = true) (h63 : n + m ≤ maxLen) (hbytes : (n + m) * bytes ≤ 140737488355328) :
 ∃ v' w', (Builtin.append_ #[t, t] ty #[v, .slice (some a) m c]).run P w = .ok v' w' ∧ OwnsM w' e size v' (n + m) (xs ++ news) ∧ w.grownBy w' v.ownBlock ∧ (v'.ownBlock = v.ownBlock ∨ v'.ownBlock = some w.heap.size) := by
 rcases h.2 with ⟨rfl, rfl⟩ | ⟨g, cap, cur, fr, rfl, hg, hc, hnc, hcm, hcs, htk⟩
 ·obtain ⟨v', w', r1, r2, r3, _, r5⟩ := run_append_own_at (P := P) w 0 t ty e i z size bytes ht hi hz hsize hby hzs hsz (.slice none 0 0) 0 xs ⟨h.1, .inl ⟨rfl, rfl⟩⟩ a m c news hl hnews h1 h63 hbytes (Nat.zero_le _)
  exact ⟨v', w', r1, .of r2, r3, r5⟩
 ·subst hsize
  subst hby
  have hlen : (xs ++ news).length = (n + m) * i.size := by rw [List.length_append, h.1, hl, Nat.add_mul]
  have h64 := h63
  unfold maxLen at h64
  by_cases hroom : n + m ≤ cap
  ·have hfit : n * i.size + news.length ≤ cur.size := by rw [hl, hcs, ← Nat.add_mul]; exact Nat.mul_le_mul_right _ hroom
   have hf := run_firstCells_some (P := P) w i.size m a m c news hl hnews
   have hst := store_calm P g e fr news (n * i.size) 0 cur w hg hc (by simpa using hfit) h1
   simp only [Nat.add_zero] at hst
   have hrun : (Builtin.append_ #[t, t] ty #[.slice (some ⟨g, 0, none⟩) n cap, .slice (some a) m c]).run P w = .ok (.slice (some ⟨g, 0, none⟩) (n + m) cap) (w.setRow g (cur.toList.take (n * i.size) ++ news ++ cur.toList.drop (n * i.size + news.length)).toArray) := by
    simp [Builtin.append_, run_underlying ht, sizeOf, typeInfo, hi, Builtin.lenOf, hroom, hf, Addr.add_lit, hst]
   have hsz2 : (cur.toList.take (n * i.size) ++ news ++ cur.toList.drop (n * i.size + news.length)).toArray.size = cur.size := by
    simp only [List.size_toArray, List.length_append, List.length_take, List.length_drop, Array.length_toList]
    omega
   refine ⟨_, _, hrun, ⟨hlen, .inr ⟨g, cap, _, fr, rfl, setRow_heap w g cur _ e fr hg, by rwa [hsz2], hroom, hcm, by rw [hsz2, hcs], ?_⟩⟩, ⟨rfl, rfl, rfl, by simp, fun k _ hk => setRow_other w g k _ (fun e => hk (by simp [Value.ownBlock, e]))⟩, .inl rfl⟩
   rw [htk, ← hlen]
   exact List.take_left
  ·have holds : ∀ j u, xs[j]? = some u → w.cell? ((⟨g, 0, none⟩ : Addr).add j) = some u := fun j u hj => by rw [Addr.add_lit, Nat.zero_add]; exact h.cells (g := g) rfl j u hj
   have hr := run_append_grow (P := P) w t ty e i z ht hi hz ⟨g, 0, none⟩ n cap xs h.1 holds a m c news hl hnews (by omega) (by omega) (growslice_fits (by omega) hbytes)
   have hge := grownCap_ge w (n + m) cap e
   have hcm2 := grownCap_le_maxLen w (n + m) cap e h63
   refine ⟨_, _, hr, .of ⟨hlen, .inr ⟨w.heap.size, _, _, rfl, Nat.zero_le _, heap_alloc_new w.drew _, hge, hcm2, ?_, ?_⟩⟩, ⟨rfl, rfl, rfl, by simp, fun k hk _ => Below.heap_alloc w.drew _ k hk⟩, .inr rfl⟩
   ·simp only [Array.size_append, List.size_toArray, size_zeroCells, hzs, h.1, hl, ← Nat.add_mul]
    congr 1
    omega
   ·simp only [Array.toList_append, List.append_assoc]
    rw [← List.append_assoc, ← hlen]
    exact List.take_left
end
def ownM (e : TypeId) (size : Nat) (v : Value) (n : Nat) (xs : List Value) : Res where
 P w F := OwnsM w e size v n xs ∧ (∀ k, v.ownBlock = some k → F k) ∧ ∀ k, F k → k < w.heap.size
 lt h := h.2.2
 mod h hm hG := ⟨h.1.mod hm (fun k hk => hG k (h.2.1 k hk)), h.2.1, fun k hk => Nat.lt_of_lt_of_le (h.2.2 k hk) hm.size⟩
section
variable {lo : Nat} {w0 w w' : World} {Rs : List Res} {e : TypeId} {v v' : Value} {n size n' : Nat} {xs xs' : List Value}
theorem St.ownM (h : St lo w0 w (ownM e size v n xs :: Rs)) : OwnsM w e size v n xs := by
 obtain ⟨_, _, F, V, h1, _⟩ := h
 exact h1.1
theorem St.shiftM (h : St lo w0 w (Go.Proofs.YtjjpdnpbhdcpbaaGreat.ownM e size v n xs :: Rs)) (ho : OwnsM w' e size v' n' xs') (hg : w.grownBy w' v.ownBlock) (hat : v'.ownBlock = v.ownBlock ∨ v'.ownBlock = some w.heap.size) : St lo w0 w' (Go.Proofs.YtjjpdnpbhdcpbaaGreat.ownM e size v' n' xs' :: Rs) := by
 obtain ⟨F, h1, h2, h3⟩ := h.open
 have hm : Mod F w w' := (Mod.refl F w).grown hg (fun k hk _ => h1.2.1 k hk)
 refine h3 (F' := fun k => (F k ∨ w.heap.size ≤ k) ∧ k < w'.heap.size) _ hm ⟨ho, fun k hk => ⟨?_, ho.lt k hk⟩, fun k hk => hk.2⟩ (fun k hk => hk.1)
 rcases hat with e | e
 ·exact .inl (h1.2.1 k (by rw [← e]; exact hk))
 ·rw [e] at hk
  injection hk with hk
  subst hk
  exact .inr (Nat.le_refl _)
theorem St.newM (h : St lo w0 w Rs) (hb : Below w.heap.size w w') (ho : OwnsM w' e size v n xs) (hn : ∀ k, v.ownBlock = some k → w.heap.size ≤ k) : St lo w0 w' (Go.Proofs.YtjjpdnpbhdcpbaaGreat.ownM e size v n xs :: Rs) :=
 h.new (F := fun k => v.ownBlock = some k) hb ⟨ho, fun k hk => hk, fun k hk => ho.lt k hk⟩ hn
theorem appendOM {P : Program} {ops : Array Oper} {rest : List Oper} {o : Oper} {a : Act} {Q : Exit → Act → World → Prop} (t : TypeId) {z : Value} {bytes : Nat} {w : World} {u : Value} {te : TypeId}
 (h : St lo w0 w (Go.Proofs.YtjjpdnpbhdcpbaaGreat.ownM e 1 v n xs :: Rs)) (ht : P.underlying t = some (.slice e)) (hi : (P.info? e).map (fun i => (i.zero, i.size, i.bytes)) = some (some z, 1, bytes)) (hzs : z.cells.size = 1)
 (hgd : o.guard = none) (s x : Operand) (ho : o.op = .call { callee := .builtin .append, args := #[s, x], argTypes := #[t, t] })
 (hs : a.eval s = v) (hx : a.eval x = .slice (some ⟨w.heap.size, 0, none⟩) 1 1) (hu : u.oneCell' = true) (h63 : n + 1 ≤ maxLen) (hbytes : (n + 1) * bytes ≤ 140737488355328)
 (hk : ∀ v' w', St lo w0 w' (Go.Proofs.YtjjpdnpbhdcpbaaGreat.ownM e 1 v' (n + 1) (xs ++ [u]) :: Rs) → wpList P ops Q rest (a.put o.dst v') w') : wpList P ops Q (o :: rest) a (w.alloc (.cells #[u] te)) := by
 obtain ⟨i, hi', i1, i2, i3⟩ := info_parts hi
 refine wpList_plain hgd fun K hK => ?_
 have h2 := h.alloc0 (.cells #[u] te)
 obtain ⟨v', w', hr, r1, r2, r3⟩ := h2.ownM.append (P := P) t o.type i z bytes ht hi' i1 i2 i3 hzs (by decide) ⟨w.heap.size, 0, none⟩ 1 1 [u] rfl (fun j y hj => by
  match j, hj with
  | 0, hj => simp at hj; subst hj; exact (Blk.new w te #[_]).cell 0) (by intro y hy; simp at hy; subst hy; exact hu) h63 hbytes
 unfold Oper.wp execOp
 simp only [ho, resolve, invoke, builtin, Sem.run_bind, Sem.run_pure, Result.andThen_ok, List.map_toArray, List.map_cons, List.map_nil, hs, hx, hr]
 exact hK _ _ (hk v' w' (h2.shiftM r1 r2 r3))
end
theorem conv_ownM {P : Program} (src dst e : TypeId) (hs : P.underlying src = some (.slice e)) (he : P.underlying e = some (.int .u8)) (hd : P.underlying dst = some .string)
 (w : World) (v : Value) (n : Nat) (l : List UInt8) (hown : OwnsM w e 1 v n (vals l)) : (convert src dst v).run P w = .ok (.string ⟨l.toArray⟩) w := by
 have hl : l.length = n := by simpa [vals] using hown.1
 rcases hown.2 with ⟨rfl, rfl⟩ | ⟨g, cap, cur, fr, rfl, hg, _⟩
 ·have : l = [] := List.eq_nil_of_length_eq_zero hl
  subst this
  exact run_convert_bytes_nil w src e hs he 0 0 dst hd
 ·subst hl
  refine run_convert_bytes_back w src dst e ⟨g, 0, none⟩ cap l hs he hd fun j hj => ?_
  rw [Addr.add_lit, Nat.zero_add]
  exact hown.cells (g := g) rfl j (.int .u8 (l[j].toNat : Int)) (by simp [vals, hj])
theorem bytes_ownM {P : Program} (src dst e : TypeId) (hs : P.underlying src = some .string) (hd : P.underlying dst = some (.slice e)) (he : P.underlying e = some (.int .u8)) {lo : Nat} {w0 w : World} {Rs : List Res} (h : St lo w0 w Rs) (s : List UInt8) (hl : s.length ≤ maxLen) :
 ∃ v w', (convert src dst (.string ⟨s.toArray⟩)).run P w = .ok v w' ∧ (∃ c, v = .slice (some ⟨w.heap.size, 0, none⟩) s.length c) ∧ St lo w0 w' (ownM e 1 v s.length (vals s) :: Rs) := by
 have hr := run_bytes_of_string (P := P) w src dst e ⟨s.toArray⟩ hs hd he
 have hsz : (⟨s.toArray⟩ : ByteArray).size = s.length := bytes_size s
 rw [hsz] at hr
 refine ⟨_, _, hr, ⟨_, rfl⟩, h.newM ((Below.refl _ w).drew.alloc (Nat.le_refl _) _) ⟨by simp [vals], .inr ⟨w.heap.size, _, _, _, rfl, heap_alloc_new w.drew _, ?_, grownCap_ge w _ _ e, grownCap_le_maxLen w _ _ e hl, ?_, ?_⟩⟩ (fun k hk => by simp [Value.ownBlock] at hk; omega)⟩
 ·intro j hj h2
  have := h2.1
  simp only at this
  omega
 ·have hge := grownCap_ge w s.length 0 e
  simp [bytesRow]
  omega
 ·have hge := grownCap_ge w s.length 0 e
  simp [bytesRow, vals]
end Go.Proofs.YtjjpdnpbhdcpbaaGreat
namespace Go.Proofs.YtjjpdnpbhdcpbaaGreat
set_option linter.unusedVariables false
open Go.RowKit
def slLen : Value → Nat
 | .slice _ n _ => n
 | _ => 0
theorem ownM_form {w : World} {e : TypeId} {size : Nat} {v : Value} {n : Nat} {xs : List Value} (h : OwnsM w e size v n xs) : ∃ A c, v = .slice A n c := by
 rcases h.2 with ⟨rfl, rfl⟩ | ⟨g, cap, cur, fr, rfl, _⟩
 ·exact ⟨none, 0, rfl⟩
 ·exact ⟨_, cap, rfl⟩
set_option maxRecDepth 20000 in
set_option maxHeartbeats 2000000 in
theorem padded_spec (s : Sh.Str) (hs : s.length ≤ 549755813888) (w : World) : Calls Tryz.prog 145 #[.string ⟨s.toArray⟩] w fun e w' => e = .returned (.string ⟨(Sh.pad s).toArray⟩) ∧ Below w.heap.size w w' := by
 obtain ⟨v1, w1, hr, ⟨c1, hv1⟩, h1⟩ := bytes_ownM (P := Tryz.prog) 9 76 5 Tryz.underlying9 Tryz.underlying76 Tryz.underlying5 (St.nil w) s (by unfold maxLen; omega)
 subst hv1
 have q2 : s.length + 1 ≤ maxLen := by unfold maxLen; omega
 have q1 : (s.length + 1) * 1 ≤ 140737488355328 := by omega
 have hz : Sh.zeros s.length ≤ 63 := by unfold Sh.zeros; omega
 go_enter Tryz.func145, Tryz.ntmps145
 go_wp2_with (at_builtin; go_must (refine appendOM 76 (u := .int .u8 128) h1 Tryz.underlying76 info_u8 rfl rfl _ _ rfl rfl rfl rfl q2 q1 (fun v2 w5 h2 => ?_)))
 clear hr h1
 go_loopw [3] (fun v wr => ∃ (k : Nat) (A : Option Addr) (c : Nat), k ≤ Sh.zeros s.length ∧ v = .slice A (s.length + 1 + k) c ∧ St w.heap.size w wr (ownM 5 1 v (s.length + 1 + k) (vals (s ++ [128] ++ List.replicate k 0)) :: [])) (fun v _ => s.length + 1 + Sh.zeros s.length - slLen v)
 case atStart =>
  obtain ⟨A, c, hv⟩ := ownM_form h2.ownM
  refine ⟨0, A, c, Nat.zero_le _, hv, ?_⟩
  have : vals (s ++ [128] ++ List.replicate 0 0) = vals s ++ [.int .u8 128] := by simp [vals]
  rw [this]
  exact h2
 case round =>
  clear h2
  obtain ⟨k, A, c, hk, rfl, h⟩ := hrel
  obtain ⟨N, hN⟩ : ∃ N, s.length + 1 + k = N := ⟨_, rfl⟩
  have hN1 : (s.length : Int) + 1 + (k : Int) = (N : Int) := by omega
  rw [hN] at h ⊢
  by_cases hlt : k < Sh.zeros s.length
  ·have e1 : (N : Int).tmod 64 = (N : Int) % 64 := Int.tmod_eq_emod_of_nonneg (by omega)
   have hne : (N : Int) % 64 ≠ 56 := by unfold Sh.zeros at hlt; omega
   have f1 : ((N : Int) % 64 == 56) = false := beq_eq_false_iff_ne.2 hne
   have f2 : ((N : Int) % 64 != 56) = true := by simp [bne, f1]
   have hnx : vals (s ++ [128] ++ List.replicate (k + 1) 0) = vals (s ++ [128] ++ List.replicate k 0) ++ [.int .u8 0] := by simp [vals, List.replicate_succ']
   have HX := Lib.hid (And.intro hnx (And.intro hN hz))
   have q2 : N + 1 ≤ maxLen := by unfold maxLen; unfold Sh.zeros at hlt; omega
   have q1 : (N + 1) * 1 ≤ 140737488355328 := by unfold Sh.zeros at hlt; omega
   clear hnx hN hN1 hne hz
   go_wp2_with (at_builtin; go_must (refine appendOM 76 (u := .int .u8 0) h Tryz.underlying76 info_u8 rfl rfl _ _ rfl rfl rfl rfl q2 q1 (fun v2 w5 h8 => ?_)))
   obtain ⟨A2, c2, hv⟩ := ownM_form h8.ownM
   subst hv
   go_roundw
   case rel =>
    have hn : N + 1 = s.length + 1 + (k + 1) := by have := HX.out.2.1; omega
    refine ⟨k + 1, A2, c2, by omega, by rw [hn], ?_⟩
    rw [← hn, HX.out.1]
    exact h8
   case measure => simp only [slLen]; have := HX.out.2.1; simp; omega
  ·have hkz : k = Sh.zeros s.length := by omega
   have e1 : (N : Int).tmod 64 = (N : Int) % 64 := Int.tmod_eq_emod_of_nonneg (by omega)
   have hne : (N : Int) % 64 = 56 := by unfold Sh.zeros at hkz; omega
   have f1 : ((N : Int) % 64 == 56) = true := by rw [hne]; rfl
   have f2 : ((N : Int) % 64 != 56) = false := by rw [hne]; rfl
   obtain ⟨X, hX⟩ : ∃ X, s ++ [128] ++ List.replicate k 0 = X := ⟨_, rfl⟩
   rw [hX] at h
   have hpad : Sh.pad s = X ++ Sh.be8 (8 * s.length) := by rw [← hX, hkz]; rfl
   have hXl : X.length ≤ 1000000000000 := by rw [← hX]; simp; omega
   have k1 : ∀ W, Calls Tryz.prog 173 #[.int .i64 (8 * (s.length : Int))] W fun e w' => e = .returned (.string ⟨(Sh.be8 (8 * s.length)).toArray⟩) ∧ Below W.heap.size W w' := fun W => by
    have := rlength_spec (8 * s.length) (by omega) W
    rwa [show ((8 * s.length : Nat) : Int) = 8 * (s.length : Int) from by omega] at this
   have hBl : (Sh.be8 (8 * s.length)).length ≤ 8 := Nat.le_refl _
   have HX := Lib.hid (And.intro hpad (And.intro h.below hX))
   have hC : ∀ W, St w.heap.size w W [ownM 5 1 (.slice A N c) N (vals X)] → (convert 76 9 (.slice A N c)).run Tryz.prog W = .ok (.string ⟨X.toArray⟩) W := fun W hW => conv_ownM 76 9 5 Tryz.underlying76 Tryz.underlying5 Tryz.underlying9 W _ N X hW.ownM
   have hC1 := hC _ h.drew
   have hC2 : ∀ W, Below wr.drew.heap.size wr.drew W → (convert 76 9 (.slice A N c)).run Tryz.prog W = .ok (.string ⟨X.toArray⟩) W := fun W hb => hC W (h.drew.under hb)
   have HC := Lib.hid hC2
   obtain ⟨B8, hB8⟩ : ∃ B, Sh.be8 (8 * s.length) = B := ⟨_, rfl⟩
   rw [hB8] at k1 hBl
   have HB := Lib.hid hB8
   clear hX hpad hkz hN hN1 hne hC hC2 hB8 hlt hk hz
   have g1 : ¬ (IntKind.i64.max < (X.length : Int) + (B8.length : Int)) := by show ¬ ((9223372036854775807 : Int) < _); omega
   have g2 : ¬ ((9223372036854775807 : Int) < (X.length : Int) + (B8.length : Int)) := by omega
   have g3 : ¬ (9223372036854775807 < X.length + B8.length) := by omega
   have g4 : IntKind.i64.wrap (8 * (s.length : Int)) = 8 * (s.length : Int) := by rw [IntWalk.i64_left, IntWalk.wrap64_in _ (by omega)]
   have hba := bytes_append X B8
   go_wp2_with fail
   have H := Lib.hid h
   clear h
   go_region_held3 (fun w' => (convert 76 9 (.slice A N c)).run Tryz.prog w' = .ok (.string ⟨X.toArray⟩) w')
    (first
      | with_reducible exact hC1
      | exact HC.out _ b2
      | fail)
    (first
      | (with_reducible refine (k1 _).mono ?_
         rintro e w2 ⟨rfl, b2⟩)
      | fail)
   all_goals
    go_wp2
    go_ret
    exact ⟨by rw [HX.out.1, HB.out]; rfl, (H.out.drew.under b2).below⟩
end Go.Proofs.YtjjpdnpbhdcpbaaGreat
namespace Go.Proofs.YtjjpdnpbhdcpbaaGreat
set_option linter.unusedVariables false
open Go.RowKit
set_option maxRecDepth 20000 in
set_option maxHeartbeats 2000000 in
theorem rsum_spec (s : Sh.Str) (hs : s.length ≤ 549755813888) (w : World) : Calls Tryz.prog 94 #[.string ⟨s.toArray⟩] w fun e w' => e = .returned (.string ⟨(Sh.sha s).toArray⟩) ∧ Below w.heap.size w w' := by
 have h1 : St w.heap.size w (w.alloc (.cells (arr Sh.iv.list) 166)) (ownR 166 1 (.slice (some ⟨w.heap.size, 0, none⟩) 8 8) 8 (u32s Sh.iv.list) :: []) := (St.nil w).new_own ((Below.refl _ w).alloc (Nat.le_refl _) _) (World.ownsRow_lit w (arr Sh.iv.list) 8 (Nat.le_refl _) (by decide) rfl)
 go_enter Tryz.func94, Tryz.ntmps94
 go_wp2_with fail
 refine (padded_spec s hs _).mono ?_
 rintro e w1 ⟨rfl, b1⟩
 have h2 := h1.under b1
 clear h1 b1
 have hsha : Sh.sha s = Sh.out (Sh.blocks Sh.iv (Sh.pad s) ((Sh.pad s).length / 64)) := rfl
 have hp64 := Sh.pad_mod s
 have hpl : (Sh.pad s).length ≤ 1000000000000 := by rw [Sh.pad_length]; unfold Sh.zeros; omega
 obtain ⟨P, hP⟩ : ∃ P, Sh.pad s = P := ⟨_, rfl⟩
 rw [hP] at hsha hp64 hpl ⊢
 have HS := Lib.hid (And.intro hsha hp64)
 clear hsha hp64 hP hs
 go_wp2
 go_loopw [3, 5] (fun v i wr => ∃ (k : Nat) (v' : Value), 64 * k ≤ P.length ∧ i = .int .i64 ((64 * k : Nat) : Int) ∧ v' = v ∧ St w.heap.size w wr (ownR 166 1 v' 8 (u32s (Sh.blocks Sh.iv P k).list) :: [])) (fun _ i _ => P.length - (intOf i).toNat)
 case atStart => exact ⟨0, _, by omega, rfl, rfl, h2⟩
 case round =>
  clear h2
  obtain ⟨k, v, hk, hi, rfl, h⟩ := hrel
  by_cases hlt : 64 * k < P.length
  ·subst hi
   have hp := HS.out.2
   have hnx : Sh.blocks Sh.iv P (k + 1) = Sh.block (Sh.blocks Sh.iv P k) ((P.drop (64 * k)).take 64) := rfl
   have hb64 : ((P.drop (64 * k)).take 64).length = 64 := by rw [List.length_take, List.length_drop]; omega
   obtain ⟨I, hI⟩ : ∃ I, 64 * k = I := ⟨_, rfl⟩
   have hIe : 64 * (k + 1) = I + 64 := by omega
   rw [hI] at hlt hnx hb64 ⊢
   have hcut : (⟨P.toArray⟩ : ByteArray).extract I (I + 64) = ⟨((P.drop I).take 64).toArray⟩ := by rw [bytes_cut, Nat.add_sub_cancel_left]
   have l1 : (I : Int) < (P.length : Int) := by omega
   have l2 : (I : Int) + 64 ≤ (P.length : Int) := by omega
   have l3 : (0 : Int) ≤ (I : Int) := by omega
   have l4 : ((I : Int) + 64).toNat = I + 64 := by omega
   have hok := Sh.blocks_ok Sh.iv_ok P k
   generalize (P.drop I).take 64 = B at hcut hnx hb64
   generalize Sh.blocks Sh.iv P k = T at hnx h hok
   have HX := Lib.hid (And.intro hnx (And.intro hb64 (And.intro hIe hI)))
   clear hnx hb64 hp hk hIe hI
   go_wp2_with fail
   refine (compress_spec h hok B HX.out.2.1).mono ?_
   rintro e w2 ⟨v2, rfl, h3⟩
   have h4 := h3.swap.tail
   rw [← HX.out.1] at h4
   go_wp2
   go_roundw
   case rel => exact ⟨k + 1, v2, by have := HX.out.2.2.1; omega, by rw [HX.out.2.2.1]; go_num, rfl, h4⟩
   case measure => simp [intOf]; omega
  ·have hkk : k = P.length / 64 := by have := HS.out.2; omega
   have hi2 : u5 = .int .i64 (P.length : Int) := by rw [hi]; congr 1; have := HS.out.2; omega
   subst hi2
   have hge : decide ((P.length : Int) < (P.length : Int)) = false := by simp
   have hout : Sh.sha s = Sh.out (Sh.blocks Sh.iv P k) := by rw [hkk]; exact HS.out.1
   have hTok := Sh.blocks_ok Sh.iv_ok P k
   obtain ⟨T, hT⟩ : ∃ T, Sh.blocks Sh.iv P k = T := ⟨_, rfl⟩
   rw [hT] at h hout hTok
   have HT := Lib.hid (And.intro hTok hout)
   clear hTok hout hT hi hkk hk hlt HS
   have hb := (h.alloc0 (.cells #[] 5))
   have h5 : St w.heap.size w (wr.alloc (.cells #[] 5)) (ownR 5 1 (.slice (some ⟨wr.heap.size, 0, none⟩) 0 0) 0 (vals []) :: ownR 166 1 v 8 (u32s T.list) :: []) := h.new_own ((Below.refl _ wr).alloc (Nat.le_refl _) _) (World.ownsRow_lit wr #[] 0 (Nat.le_refl _) (by decide) rfl)
   obtain ⟨gs, cs, hv, _, _⟩ := row_u32 h.own (by decide)
   subst hv
   clear h hb
   go_wp2
   generalize wr.alloc (.cells #[] 5) = W at h5 ⊢
   generalize wr.heap.size = gW at h5 ⊢
   go_loopw [6, 7] (fun v i wr => ∃ (n : Nat) (v' : Value), n ≤ 8 ∧ i = .int .i64 n ∧ v' = v ∧ St w.heap.size w wr (ownR 5 1 v' (4 * n) (vals ((T.list.take n).flatMap Sh.be4)) :: ownR 166 1 (.slice (some ⟨gs, 0, none⟩) 8 cs) 8 (u32s T.list) :: [])) (fun _ i _ => 8 - (intOf i).toNat)
   case atStart => exact ⟨0, _, by omega, rfl, rfl, h5⟩
   case round =>
    clear h5
    obtain ⟨n, v, hn, rfl, rfl, h⟩ := hrel
    by_cases hlt : n < 8
    ·have hk1 : (n : Int) < 8 := by omega
     have hk0 : (0 : Int) ≤ (n : Int) := by omega
     have hnx : (T.list.take (n + 1)).flatMap Sh.be4 = (T.list.take n).flatMap Sh.be4 ++ Sh.be4 (T.list.getD n 0) := by
      rcases lt8 hlt with rfl | rfl | rfl | rfl | rfl | rfl | rfl | rfl <;> rfl
     have hxl : T.list.getD n 0 < 4294967296 := by
      have hok := HT.out.1
      rcases lt8 hlt with rfl | rfl | rfl | rfl | rfl | rfl | rfl | rfl
      ·exact hok.a
      ·exact hok.b
      ·exact hok.c
      ·exact hok.d
      ·exact hok.e
      ·exact hok.f
      ·exact hok.g
      ·exact hok.h
     obtain ⟨gs', cs', hv', _, hcell⟩ := row_u32 ((h.front 1 (by simp)).own) (by decide)
     injection hv' with hv1 hv2 hv3
     injection hv1 with hv1
     injection hv1 with hv1
     subst hv1 hv3
     have cn : wr.drew.cell? ⟨gs, n, none⟩ = some (.int .u32 ((T.list.getD n 0 : Nat) : Int)) := hcell n hlt
     have hkeep : ∀ W2, St w.heap.size w W2 [ownR 166 1 (.slice (some ⟨gs, 0, none⟩) 8 cs) 8 (u32s T.list)] → W2.cell? ⟨gs, n, none⟩ = some (.int .u32 ((T.list.getD n 0 : Nat) : Int)) := fun W2 hW2 => by
      obtain ⟨gs', cs', hv', _, hcell⟩ := row_u32 hW2.own (by decide)
      injection hv' with hv1 hv2 hv3
      injection hv1 with hv1
      injection hv1 with hv1
      subst hv1
      exact hcell n hlt
     clear hcell
     generalize T.list.getD n 0 = x at hnx hxl cn hkeep
     have HK := Lib.hid hkeep
     clear hkeep
     have y0 : IntKind.u8.wrap ((x : Int) / 16777216) = ((UInt8.ofNat (x / 16777216)).toNat : Int) := by rw [UInt8.toNat_ofNat', IntKind.wrap_u8]; omega
     have y1 : IntKind.u8.wrap ((x : Int) / 65536) = ((UInt8.ofNat (x / 65536)).toNat : Int) := by rw [UInt8.toNat_ofNat', IntKind.wrap_u8]; omega
     have y2 : IntKind.u8.wrap ((x : Int) / 256) = ((UInt8.ofNat (x / 256)).toNat : Int) := by rw [UInt8.toNat_ofNat', IntKind.wrap_u8]; omega
     have y3 : IntKind.u8.wrap (x : Int) = ((UInt8.ofNat x).toNat : Int) := by rw [UInt8.toNat_ofNat', IntKind.wrap_u8]; omega
     have hbe : Sh.be4 x = [UInt8.ofNat (x / 16777216), UInt8.ofNat (x / 65536), UInt8.ofNat (x / 256), UInt8.ofNat x] := rfl
     rw [hbe] at hnx
     clear hbe
     generalize UInt8.ofNat (x / 16777216) = z0 at y0 hnx
     generalize UInt8.ofNat (x / 65536) = z1 at y1 hnx
     generalize UInt8.ofNat (x / 256) = z2 at y2 hnx
     generalize UInt8.ofNat x = z3 at y3 hnx
     have HX := Lib.hid hnx
     clear hnx hxl
     have b2 : 4 * n + 4 ≤ maxLen := by unfold maxLen; omega
     have b1 : (4 * n + 4) * 1 ≤ 140737488355328 := by omega
     go_wp2_with fail
     refine wp_region_noPanic ?_
     refine wp_region_held_drew (S := fun w' => w'.cell? ⟨gs, n, none⟩ = some (.int .u32 (x : Int))) (by kernel_rfl) cn (fun hHeld => ?_)
     refine tk 0 29 hHeld ?_
     refine tk 1 30 hHeld ?_
     refine tk 2 31 hHeld ?_
     refine tk 3 32 hHeld ?_
     refine tk 4 33 hHeld ?_
     refine tk 5 34 hHeld ?_
     refine tk 6 35 hHeld ?_
     refine tk 7 36 hHeld ?_
     refine tk 8 37 hHeld ?_
     refine tk 9 38 hHeld ?_
     refine tk 10 39 hHeld ?_
     refine tk 11 40 hHeld ?_
     refine tk 12 41 hHeld ?_
     refine tk 13 42 hHeld ?_
     refine tk 14 43 hHeld ?_
     refine tk 15 44 hHeld ?_
     refine tk 16 45 hHeld ?_
     refine tk 17 46 hHeld ?_
     refine tk 18 47 hHeld ?_
     refine tk 19 48 hHeld ?_
     refine tk 20 49 hHeld ?_
     refine tk 21 50 hHeld ?_
     refine tk 22 51 hHeld ?_
     refine tk 23 52 hHeld ?_
     refine rdy [24] ?_
     refine an 53 fun K hK => ?_
     go_simp
     refine hK.out _ _ (below_cell ((Below.refl _ _).alloc (Nat.le_refl _) _) cn) (fun hHeld2 => ?_)
     clear hK K
     try simp only [pu]
     refine rdy [25] ?_
     refine an 54 fun K hK => ?_
     refine stepN 76 #[.int .u8 (z0.toNat : Int), .int .u8 (z1.toNat : Int), .int .u8 (z2.toNat : Int), .int .u8 (z3.toNat : Int)] h Tryz.underlying76 info_u8 rfl _ _ (by rfl) (by rfl) (by rfl) (by rfl) rfl (Nat.succ_pos 3) (vals_one [z0, z1, z2, z3]) b2 b1 ?_
     intro gg cap w9 h8 _
     refine hK.out _ _ (HK.out _ h8.tail) (fun hHeld3 => ?_)
     clear hK K
     try simp only [pu]
     refine tk 26 6 hHeld3 ?_
     refine dn ?_ _
     refine NoPanic.normal ?_
     clear hHeld hHeld2 hHeld3 cn HK
     go_wp2
     go_roundw
     case rel =>
      refine ⟨n + 1, _, by omega, by go_num, rfl, ?_⟩
      rw [HX.out, vals_append]
      exact h8
     case measure => simp [intOf]; omega
    ·obtain rfl : n = 8 := by omega
     have hfull : (T.list.take 8).flatMap Sh.be4 = Sh.sha s := by rw [HT.out.2]; rfl
     rw [hfull] at h
     have hcv := conv_own (P := Tryz.prog) 76 9 5 Tryz.underlying76 Tryz.underlying5 Tryz.underlying9 wr 0 v (4 * 8) (Sh.sha s) h.own
     have HH := Lib.hid h.below
     clear h hfull hn
     obtain ⟨Z, hZ⟩ : ∃ Z, Sh.sha s = Z := ⟨_, rfl⟩
     rw [hZ] at hcv
     have HZ := Lib.hid hZ
     clear hZ
     go_wp2
     go_ret
     exact ⟨by rw [HZ.out]; rfl, HH.out⟩
end Go.Proofs.YtjjpdnpbhdcpbaaGreat
namespace Go.Proofs.YtjjpdnpbhdcpbaaGreat.Sh
set_option linter.unusedVariables false
def digs : Str := [48, 49, 50, 51, 52, 53, 54, 55, 56, 57, 97, 98, 99, 100, 101, 102]
def hexD (n : Nat) : UInt8 := digs.getD n 0
def hex (s : Str) : Str := s.flatMap fun x => [hexD (x.toNat / 16), hexD (x.toNat % 16)]
def dig (c : UInt8) : Int := Go.Lib.indexByte digs c
theorem hex_take (s : Str) (k : Nat) (h : k < s.length) : hex (s.take (k + 1)) = hex (s.take k) ++ [hexD (s[k].toNat / 16), hexD (s[k].toNat % 16)] := by
 unfold hex
 rw [List.take_succ_eq_append_getElem h, List.flatMap_append]
 simp only [List.flatMap_cons, List.flatMap_nil, List.append_nil]
def dn (s : Str) (i : Nat) : Nat := (dig (s.getD i 0)).toNat
end Go.Proofs.YtjjpdnpbhdcpbaaGreat.Sh
namespace Go.Proofs.YtjjpdnpbhdcpbaaGreat
set_option linter.unusedVariables false
open Go.RowKit
theorem hex_at (n : Nat) (h : n < 16) : ∀ hh, (⟨#[48, 49, 50, 51, 52, 53, 54, 55, 56, 57, 97, 98, 99, 100, 101, 102]⟩ : ByteArray)[n]'hh = Sh.hexD n := by
 intro hh
 have : ∀ m : Fin 16, (⟨#[48, 49, 50, 51, 52, 53, 54, 55, 56, 57, 97, 98, 99, 100, 101, 102]⟩ : ByteArray)[m.val]'(by have := m.isLt; exact this) = Sh.hexD m.val := by decide
 exact this ⟨n, h⟩
theorem at_byte (s : Sh.Str) (k : Nat) (h : k < s.length) : ∀ hh, (⟨s.toArray⟩ : ByteArray)[k]'hh = s[k] := fun _ => rfl
theorem and15 (x : UInt8) : bits .and .u8 (x.toNat : Int) 15 = ((x.toNat % 16 : Nat) : Int) := by
 have := x.toNat_lt
 rw [show (15 : Int) = ((15 : Nat) : Int) from rfl, u8_and_nat _ _ (by omega) (by decide), show (15 : Nat) = 2 ^ 4 - 1 from rfl, Nat.and_two_pow_sub_one_eq_mod]
set_option maxRecDepth 20000 in
set_option maxHeartbeats 2000000 in
theorem hex_spec (s : Sh.Str) (hs : s.length ≤ 1073741824) (w : World) : Calls Tryz.prog 177 #[.string ⟨s.toArray⟩] w fun e w' => e = .returned (.string ⟨(Sh.hex s).toArray⟩) ∧ Below w.heap.size w w' := by
 obtain ⟨i1, hi1, hy0, hy1, hy2⟩ := info_parts info_u8
 obtain ⟨W, hr, ho, hg⟩ := run_make_own (P := Tryz.prog) w w.heap.size 76 5 i1 (.int .u8 0) 1 Tryz.underlying76 hi1 hy0 hy1 .i64 .i64 (2 * s.length) (by rw [hy2]; omega) (by unfold maxLen; omega) (Nat.le_refl _)
 have h1 : St w.heap.size w W (ownR 5 1 (.slice (some ⟨w.heap.size, 0, none⟩) 0 (2 * s.length)) 0 (vals []) :: []) := (St.nil w).new_own ⟨hg.os, hg.tape, hg.output, hg.size, fun k hk => hg.block k hk (by simp)⟩ ho
 rw [show ((2 * s.length : Nat) : Int) = 2 * (s.length : Int) from by omega] at hr
 clear hi1 hy0 hy1 hy2 ho hg
 go_enter Tryz.func177, Tryz.ntmps177
 go_wp2
 clear hr
 go_loopw [3, 11] (fun v i wr => ∃ (k : Nat) (v' : Value), k ≤ s.length ∧ i = .int .i64 k ∧ v' = v ∧ St w.heap.size w wr (ownR 5 1 v' (2 * k) (vals (Sh.hex (s.take k))) :: [])) (fun _ i _ => s.length - (intOf i).toNat)
 case atStart => exact ⟨0, _, by omega, rfl, rfl, h1⟩
 case round =>
  clear h1
  obtain ⟨k, v, hk, rfl, rfl, h⟩ := hrel
  by_cases hlt : k < s.length
  ·have hk1 : (k : Int) < (s.length : Int) := by omega
   have hk0 : (0 : Int) ≤ (k : Int) := by omega
   have hnx := Sh.hex_take s k hlt
   obtain ⟨x, hx⟩ : ∃ x, s[k] = x := ⟨_, rfl⟩
   have hat : ∀ hh, (⟨s.toArray⟩ : ByteArray)[k]'hh = x := fun hh => (at_byte s k hlt hh).trans hx
   rw [hx] at hnx
   have hxl := x.toNat_lt
   obtain ⟨n1, hn1⟩ : ∃ n, x.toNat / 16 = n := ⟨_, rfl⟩
   obtain ⟨n2, hn2⟩ : ∃ n, x.toNat % 16 = n := ⟨_, rfl⟩
   have e1 : (x.toNat : Int) / 16 = (n1 : Int) := by omega
   have e2 : bits .and .u8 (x.toNat : Int) 15 = (n2 : Int) := by rw [and15, hn2]
   have e3 : (x.toNat : Int).tmod 16 = (n2 : Int) := by rw [Int.tmod_eq_emod_of_nonneg (by omega)]; omega
   have e4 : (x.toNat : Int) % 16 = (n2 : Int) := by omega
   have e5 : (x.toNat : Int).tdiv 16 = (n1 : Int) := by rw [Int.tdiv_eq_ediv_of_nonneg (by omega)]; omega
   have m1 : (n1 : Int) < 16 := by omega
   have m2 : (n2 : Int) < 16 := by omega
   have p1 : (0 : Int) ≤ (n1 : Int) := by omega
   have p2 : (0 : Int) ≤ (n2 : Int) := by omega
   have w1 : IntKind.u8.wrap (n1 : Int) = (n1 : Int) := by rw [IntKind.wrap_u8]; omega
   have w2 : IntKind.u8.wrap (n2 : Int) = (n2 : Int) := by rw [IntKind.wrap_u8]; omega
   have d1 := hex_at n1 (by omega)
   have d2 := hex_at n2 (by omega)
   rw [hn1, hn2] at hnx
   generalize Sh.hexD n1 = z1 at d1 hnx
   generalize Sh.hexD n2 = z2 at d2 hnx
   have HX := Lib.hid hnx
   clear hnx hn1 hn2 hx hxl
   have b2 : 2 * k + 2 ≤ maxLen := by unfold maxLen; omega
   have b1 : (2 * k + 2) * 1 ≤ 140737488355328 := by omega
   go_wp2_with fail
   refine wp_region_noPanic ?_
   refine wp_region_held_drew (S := fun w' => w.heap.size ≤ w'.heap.size) (by kernel_rfl) h.size (fun hHeld => ?_)
   refine tk 0 14 hHeld ?_
   refine tk 1 15 hHeld ?_
   refine tk 2 16 hHeld ?_
   refine tk 3 17 hHeld ?_
   refine tk 4 18 hHeld ?_
   refine tk 5 19 hHeld ?_
   refine tk 6 20 hHeld ?_
   refine tk 7 21 hHeld ?_
   refine tk 8 22 hHeld ?_
   refine tk 9 23 hHeld ?_
   refine tk 10 24 hHeld ?_
   refine rdy [11] ?_
   refine an 25 fun K hK => ?_
   go_simp
   refine hK.out _ _ (h.alloc0 _).size (fun hHeld2 => ?_)
   clear hK K
   try simp only [pu]
   refine rdy [12] ?_
   refine an 26 fun K hK => ?_
   refine stepN 76 #[.int .u8 (z1.toNat : Int), .int .u8 (z2.toNat : Int)] h Tryz.underlying76 info_u8 rfl _ _ (by rfl) (by rfl) (by rfl) (by rfl) rfl (Nat.succ_pos 1) (vals_one [z1, z2]) b2 b1 ?_
   intro gg cap w9 h8 _
   refine hK.out _ _ h8.size (fun hHeld3 => ?_)
   clear hK K
   try simp only [pu]
   refine tk 13 3 hHeld3 ?_
   refine dn ?_ _
   refine NoPanic.normal ?_
   clear hHeld hHeld2 hHeld3 hat d1 d2
   go_wp2
   go_roundw
   case rel =>
    refine ⟨k + 1, _, by omega, by go_num, rfl, ?_⟩
    rw [HX.out, vals_append]
    exact h8
   case measure => simp [intOf]; omega
  ·obtain rfl : k = s.length := by omega
   rw [List.take_length] at h
   have hge : decide ((s.length : Int) < (s.length : Int)) = false := by simp
   have hcv := conv_own (P := Tryz.prog) 76 9 5 Tryz.underlying76 Tryz.underlying5 Tryz.underlying9 wr 0 v (2 * s.length) (Sh.hex s) h.own
   have HH := Lib.hid h.below
   clear h
   obtain ⟨Z, hZ⟩ : ∃ Z, Sh.hex s = Z := ⟨_, rfl⟩
   rw [hZ] at hcv
   have HZ := Lib.hid hZ
   clear hZ
   go_wp2
   go_ret
   exact ⟨by rw [HZ.out]; rfl, HH.out⟩
end Go.Proofs.YtjjpdnpbhdcpbaaGreat
namespace Go.Proofs.YtjjpdnpbhdcpbaaGreat.Sh
set_option linter.unusedVariables false
def force {α : Type} (n : Nat) (f : Nat → α) : α := match n with | 0 => f 0 | m + 1 => f (Nat.succ m)
def fS1 (y : Nat) : Nat := Nat.xor (Nat.xor (Nat.shiftRight y 6) (Nat.shiftRight y 11)) (Nat.shiftRight y 25)
def fS0 (y : Nat) : Nat := Nat.xor (Nat.xor (Nat.shiftRight y 2) (Nat.shiftRight y 13)) (Nat.shiftRight y 22)
def fs0 (y x : Nat) : Nat := Nat.xor (Nat.mod (Nat.xor (Nat.shiftRight y 7) (Nat.shiftRight y 18)) 4294967296) (Nat.shiftRight x 3)
def fs1 (y x : Nat) : Nat := Nat.xor (Nat.mod (Nat.xor (Nat.shiftRight y 17) (Nat.shiftRight y 19)) 4294967296) (Nat.shiftRight x 10)
noncomputable def run {α : Type} (K : Nat → Nat → Nat → Nat → Nat → Nat → Nat → Nat → α) (l : List Nat) : Nat → Nat → Nat → Nat → Nat → Nat → Nat → Nat → Nat → Nat → Nat → Nat → Nat → Nat → Nat → Nat → Nat → Nat → Nat → Nat → Nat → Nat → Nat → Nat → α :=
 List.rec (motive := fun _ => Nat → Nat → Nat → Nat → Nat → Nat → Nat → Nat → Nat → Nat → Nat → Nat → Nat → Nat → Nat → Nat → Nat → Nat → Nat → Nat → Nat → Nat → Nat → Nat → α) (fun _ _ _ _ _ _ _ _ _ _ _ _ _ _ _ _ a b c d e f g h => K a b c d e f g h)
  (fun k _ ih => fun w0 w1 w2 w3 w4 w5 w6 w7 w8 w9 w10 w11 w12 w13 w14 w15 a b c d e f g h =>
   force (Nat.add (Nat.add (Nat.add h (Nat.mod (fS1 (Nat.mul e 4294967297)) 4294967296)) (Nat.xor g (Nat.land e (Nat.xor f g)))) (Nat.add k w0)) fun t1 =>
   force (Nat.mod (Nat.add t1 (Nat.add (Nat.mod (fS0 (Nat.mul a 4294967297)) 4294967296) (Nat.xor (Nat.land a (Nat.xor b c)) (Nat.land b c)))) 4294967296) fun a' =>
   force (Nat.mod (Nat.add d t1) 4294967296) fun e' =>
   force (Nat.mod (Nat.add (Nat.add (fs1 (Nat.mul w14 4294967297) w14) w9) (Nat.add (fs0 (Nat.mul w1 4294967297) w1) w0)) 4294967296) fun w16 =>
   ih w1 w2 w3 w4 w5 w6 w7 w8 w9 w10 w11 w12 w13 w14 w15 w16 a' a b c e' e f g) l
end Go.Proofs.YtjjpdnpbhdcpbaaGreat.Sh
