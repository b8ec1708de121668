/-
  The reference's chains, leaves and valid key trees. Conditions: strings of at most 2^30 bytes, heights of at most 6.
-/
import Derived.Test.YtjjpdnpbhdcpbaaGreatQPb
import Derived.Test.YtjjpdnpbhdcpbaaGreatQMkA
import Derived.Test.YtjjpdnpbhdcpbaaGreatQShaB
import Derived.Test.YtjjpdnpbhdcpbaaGreatQCdA
namespace Go.Proofs.YtjjpdnpbhdcpbaaGreat
set_option linter.unusedVariables false
open Go.RowKit Go.Shelf
attribute [local go_sem] Oper.semAt_some
theorem number_ref (n : Nat) (h : n < 9223372036854775808) (w : World) : Calls Tryz.prog 122 #[.int .i64 (n : Int)] w fun e w' => e = .returned (.string ⟨(Cd.uns n).toArray⟩) ∧ Below w.heap.size w w' := by
 have k := ruint_pos n h w
 generalize Cd.uns n = u at k ⊢
 go_enter Tryz.func122, Tryz.ntmps122
 go_wp2_with fail
 refine k.mono ?_
 rintro e w1 ⟨rfl, b1⟩
 go_wp2
 go_ret
 exact ⟨rfl, b1⟩
theorem nums2 (a b : Nat) : Sg.nums [a, b] = Cd.uns a ++ Cd.uns b := by simp [Sg.nums]
theorem nums3 (a b c : Nat) : Sg.nums [a, b, c] = Cd.uns a ++ (Cd.uns b ++ Cd.uns c) := by simp [Sg.nums]
set_option maxRecDepth 20000 in
set_option maxHeartbeats 1000000 in
theorem rsecret_spec (seed : Sg.Str) (i c : Nat) (w : World) (hs : seed.length ≤ 1073741824) (hi : i < 9223372036854775808) (hc : c < 9223372036854775808) :
 Calls Tryz.prog 104 #[.string ⟨seed.toArray⟩, .int .i64 i, .int .i64 c] w fun e w' => e = .returned (.string ⟨(Sg.sec seed i c).toArray⟩) ∧ Below w.heap.size w w' := by
 have k1 := fun W => number_ref i hi W
 have k2 := fun W => number_ref c hc W
 have hm : Sg.sec seed i c = Sh.sha ([2] ++ seed ++ Cd.uns i ++ Cd.uns c) := by
  show Sh.sha (2 :: (seed ++ Sg.nums [i, c])) = _
  rw [nums2]
  simp
 rw [hm]
 clear hm
 have l1 := Cd.uns_len i
 have l2 := Cd.uns_len c
 generalize Cd.uns i = u at *
 generalize Cd.uns c = v at *
 have ha1 := bytes_append [2] seed
 have ha2 := bytes_append ([2] ++ seed) u
 have ha3 := bytes_append ([2] ++ seed ++ u) v
 obtain ⟨f1, f2⟩ := sg_cat [2] seed (by simp; omega)
 obtain ⟨f3, f4⟩ := sg_cat ([2] ++ seed) u (by simp; omega)
 obtain ⟨f5, f6⟩ := sg_cat ([2] ++ seed ++ u) v (by simp; omega)
 have ks := fun W => rsum_spec ([2] ++ seed ++ u ++ v) (by simp; omega) W
 generalize [2] ++ seed = E at *
 generalize E ++ u = F at *
 generalize F ++ v = G at *
 go_enter Tryz.func104, Tryz.ntmps104
 go_wp2_with fail
 refine (k1 _).mono ?_
 rintro e w1 ⟨rfl, b1⟩
 go_wp2_with fail
 refine (k2 _).mono ?_
 rintro e w2 ⟨rfl, b2⟩
 go_wp2_with fail
 refine (ks _).mono ?_
 rintro e w3 ⟨rfl, b3⟩
 go_wp2
 go_ret
 have b12 := b1.trans (b2.mono b1.size)
 exact ⟨rfl, b12.trans (b3.mono b12.size)⟩
set_option maxRecDepth 20000 in
set_option maxHeartbeats 1000000 in
theorem rstep_spec (x : Sg.Str) (i c f n : Nat) (w : World) (hx : x.length ≤ 1073741824) (hi : i < 9223372036854775808) (hc : c < 9223372036854775808) (hn : f + n ≤ 1000) :
 Calls Tryz.prog 103 #[.int .i64 i, .int .i64 c, .int .i64 f, .int .i64 ((f : Int) + n), .string ⟨x.toArray⟩] w fun e w' => e = .returned (.string ⟨(Sg.wlk i c f n x).toArray⟩) ∧ Below w.heap.size w w' := by
 have hle := fun k => Sg.wlk_le i c f 1073741824 (by decide) k x hx
 have k1 := fun W => number_ref i hi W
 have k2 := fun W => number_ref c hc W
 go_enter Tryz.func103, Tryz.ntmps103
 go_wp2
 go_loopw [4, 11] (fun s j wr => ∃ k : Nat, k ≤ n ∧ j = .int .i64 ((f : Int) + k) ∧ s = .string ⟨(Sg.wlk i c f k x).toArray⟩ ∧ Below w.heap.size w wr) (fun _ j _ => f + n - (intOf j).toNat)
 case atStart => exact ⟨0, Nat.zero_le _, by simp, rfl, Below.refl _ _⟩
 case round =>
  obtain ⟨k, hk, rfl, rfl, hbe⟩ := hrel
  by_cases hlt : k < n
  ·have ecast : (((f + k : Nat)) : Int) = (f : Int) + (k : Int) := by omega
   have k3 := fun W => number_ref (f + k) (by omega) W
   rw [ecast] at k3
   have hm : Sg.wlk i c f (k + 1) x = Sh.sha ([3] ++ Cd.uns i ++ Cd.uns c ++ Cd.uns (f + k) ++ Sg.wlk i c f k x) := by
    rw [Sg.wlk_succ]
    unfold Sg.stp
    rw [nums3]
    simp
   have hlk := hle k
   have l1 := Cd.uns_len i
   have l2 := Cd.uns_len c
   have l3 := Cd.uns_len (f + k)
   generalize Sg.wlk i c f k x = y at hm hlk
   generalize Cd.uns i = u1 at *
   generalize Cd.uns c = u2 at *
   generalize Cd.uns (f + k) = u3 at *
   have ha1 := bytes_append [3] u1
   have ha2 := bytes_append ([3] ++ u1) u2
   have ha3 := bytes_append ([3] ++ u1 ++ u2) u3
   have ha4 := bytes_append ([3] ++ u1 ++ u2 ++ u3) y
   obtain ⟨f1, f2⟩ := sg_cat [3] u1 (by simp; omega)
   obtain ⟨f3, f4⟩ := sg_cat ([3] ++ u1) u2 (by simp; omega)
   obtain ⟨f5, f6⟩ := sg_cat ([3] ++ u1 ++ u2) u3 (by simp; omega)
   obtain ⟨f7, f8⟩ := sg_cat ([3] ++ u1 ++ u2 ++ u3) y (by simp; omega)
   have ks := fun W => rsum_spec ([3] ++ u1 ++ u2 ++ u3 ++ y) (by simp; omega) W
   generalize [3] ++ u1 = E at *
   generalize E ++ u2 = F at *
   generalize F ++ u3 = G at *
   generalize G ++ y = D at *
   have HM := Lib.hid hm
   have d1 : decide ((f : Int) + (k : Int) < (f : Int) + (n : Int)) = true := by simp; omega
   have d2 : (f : Int) + (k : Int) < (f : Int) + (n : Int) := by omega
   clear hm hle ecast
   go_wp2_with fail
   refine (k1 _).mono ?_
   rintro e w1 ⟨rfl, b1⟩
   go_wp2_with fail
   refine (k2 _).mono ?_
   rintro e w2 ⟨rfl, b2⟩
   go_wp2_with fail
   refine (k3 _).mono ?_
   rintro e w3 ⟨rfl, b3⟩
   go_wp2_with fail
   refine (ks _).mono ?_
   rintro e w4 ⟨rfl, b4⟩
   have b12 := hbe.trans (b1.mono hbe.size)
   have b13 := b12.trans (b2.mono b12.size)
   have b14 := b13.trans (b3.mono b13.size)
   have b15 := b14.trans (b4.mono b14.size)
   clear k1 k2 k3 ks
   go_wp2
   go_roundw
   case rel => exact ⟨k + 1, by omega, by go_num, by rw [HM.out], b15⟩
   case measure => simp [intOf]; omega
  ·obtain rfl : k = n := by omega
   clear hle k1 k2
   go_wp2
   go_ret
   exact ⟨rfl, hbe⟩
set_option maxRecDepth 20000 in
set_option maxHeartbeats 1000000 in
theorem rotleaf_spec (seed : Sg.Str) (i : Nat) (w : World) (hs : seed.length ≤ 1073741824) (hi : i < 9223372036854775808) :
 Calls Tryz.prog 141 #[.string ⟨seed.toArray⟩, .int .i64 i] w fun e w' => e = .returned (.string ⟨(Sg.otl seed i).toArray⟩) ∧ Below w.heap.size w w' := by
 have htl := Sg.tops_len seed i
 have hm : Sg.otl seed i = Mk.leaf (Sg.tops seed i 67) := rfl
 rw [hm]
 have kl := fun W => rleaf_spec (Sg.tops seed i 67) (by rw [htl]; decide) W
 clear hm
 go_enter Tryz.func141, Tryz.ntmps141
 go_wp2
 go_loopw [5, 6] (fun s j wr => ∃ k : Nat, k ≤ 67 ∧ j = .int .i64 k ∧ s = .string ⟨(Sg.tops seed i k).toArray⟩ ∧ Below w.heap.size w wr) (fun _ j _ => 67 - (intOf j).toNat)
 case atStart => exact ⟨0, by decide, rfl, rfl, Below.refl _ _⟩
 case round =>
  obtain ⟨k, hk, rfl, rfl, hbe⟩ := hrel
  by_cases hlt : k < 67
  ·have ks := fun W => rsecret_spec seed i k W hs hi (by omega)
   have hsl := Sg.sec_len seed i k
   have kw : ∀ W, Calls Tryz.prog 103 #[.int .i64 i, .int .i64 k, .int .i64 0, .int .i64 15, .string ⟨(Sg.sec seed i k).toArray⟩] W fun e w' => e = .returned (.string ⟨(Sg.wlk i k 0 15 (Sg.sec seed i k)).toArray⟩) ∧ Below W.heap.size W w' := fun W => rstep_spec (Sg.sec seed i k) i k 0 15 W (by rw [hsl]; decide) hi (by omega) (by decide)
   have hts := Sg.tops_succ seed i k
   have hl := htl k
   have hwl := Sg.wlk_len i k 0 15 _ hsl
   generalize Sg.wlk i k 0 15 (Sg.sec seed i k) = y at kw hts hwl
   generalize Sg.sec seed i k = x at ks kw
   generalize Sg.tops seed i k = T at hts hl
   have ha := bytes_append T y
   obtain ⟨f1, f2⟩ := sg_cat T y (by omega)
   generalize T ++ y = D at ha hts
   have HT := Lib.hid hts
   have hd : decide ((k : Int) < 67) = true := by simp; omega
   clear hts hsl kl htl
   go_wp2_with fail
   refine (ks _).mono ?_
   rintro e w1 ⟨rfl, b1⟩
   go_wp2_with fail
   refine (kw _).mono ?_
   rintro e w2 ⟨rfl, b2⟩
   have be1 := hbe.trans (b1.mono hbe.size)
   have be2 := be1.trans (b2.mono be1.size)
   clear ks kw
   go_wp2
   go_roundw
   case rel => exact ⟨k + 1, by omega, by go_num, by rw [HT.out], be2⟩
   case measure => simp [intOf]; omega
  ·obtain rfl : k = 67 := by omega
   clear htl
   go_wp2_with fail
   refine (kl _).mono ?_
   rintro e w2 ⟨rfl, b2⟩
   go_wp2
   go_ret
   exact ⟨rfl, hbe.trans (b2.mono hbe.size)⟩
set_option maxRecDepth 20000 in
set_option maxHeartbeats 2000000 in
theorem rleaves_spec (seed : Sg.Str) (h : Nat) (n : Int) (w : World) (hs : seed.length ≤ 1073741824) (hh : h ≤ 6) :
 Calls Tryz.prog 90 #[.agg #[.string ⟨seed.toArray⟩, .int .i64 (h : Int), .int .i64 n]] w (SlR (Sg.lvs seed (2 ^ h)) w) := by
 have hP := pow6 hh
 have hll := Sg.lvs_len seed (2 ^ h)
 unfold SlR
 rw [hll]
 obtain ⟨P, hPe⟩ : ∃ P, 2 ^ h = P := ⟨_, rfl⟩
 obtain ⟨h5, h6⟩ := shl_facts h P hh hPe
 rw [hPe] at hP ⊢
 have s1 := (St.nil w).alloc 23 #[.string ⟨seed.toArray⟩, .int .i64 (h : Int), .int .i64 n]
 have z0 : St w.heap.size w (w.alloc (.cells #[.string ⟨seed.toArray⟩, .int .i64 (h : Int), .int .i64 n] 23)) [ownR 9 1 (.slice none 0 0) 0 (strs (Sg.lvs seed 0)), cellsR w.heap.size 23 #[.string ⟨seed.toArray⟩, .int .i64 (h : Int), .int .i64 n]] := s1.new_own (Below.refl _ _) (World.ownsRow_nil _ _ _ _)
 clear s1 hll hPe
 go_enter Tryz.func90, Tryz.ntmps90
 go_wp2
 go_loopw [3, 4] (fun v j wr => ∃ (k : Nat) (v' : Value), k ≤ P ∧ j = .int .i64 k ∧ v' = v ∧ St w.heap.size w wr [ownR 9 1 v' k (strs (Sg.lvs seed k)), cellsR w.heap.size 23 #[.string ⟨seed.toArray⟩, .int .i64 (h : Int), .int .i64 n]]) (fun _ j _ => P - (intOf j).toNat)
 case atStart => exact ⟨0, _, Nat.zero_le _, rfl, rfl, z0⟩
 case round =>
  clear z0
  obtain ⟨k, v', hk, rfl, rfl, hst⟩ := hrel
  have c0 := hst.swap.blk.cell 0
  have c1 := hst.swap.blk.cell 1
  by_cases hlt : k < P
  ·have kl := fun W => rotleaf_spec seed k W hs (by omega)
   have hls := Sg.lvs_succ seed k
   generalize Sg.otl seed k = y at kl hls
   generalize Sg.lvs seed k = L at hls hst
   have b1 : (k + 1) * 16 ≤ 140737488355328 := by omega
   have b2 : k + 1 ≤ maxLen := by unfold maxLen; omega
   have HL := Lib.hid (And.intro hls hst)
   have hd : decide ((k : Int) < (P : Int)) = true := by simp; omega
   have hd' : (k : Int) < (P : Int) := by omega
   clear hls hst
   go_wp2_with fail
   refine (kl _).mono ?_
   rintro e w5 ⟨rfl, b5⟩
   have h5 := HL.out.2.under b5
   go_wp2_with (at_builtin; go_must (refine appendO 27 (te := 9) (u := .string ⟨y.toArray⟩) h5 Tryz.underlying27 info_str rfl rfl _ _ rfl rfl rfl rfl b2 b1 ?_); intro v8 w8 h8)
   have H8 := Lib.hid h8
   clear h5 h8
   go_roundw
   case rel =>
    exact ⟨k + 1, _, by omega, by go_num, rfl, by rw [HL.out.1, strs_append]; exact H8.out⟩
   case measure => simp [intOf]; omega
  ·obtain rfl : k = P := by omega
   obtain ⟨A1, c1', rfl, hc1, hm1⟩ := own_form hst.own
   have HS := Lib.hid hst
   clear hst
   go_wp2
   go_ret
   exact ⟨A1, c1', rfl, hc1, hm1, ((HS.out.swap).tail)⟩
theorem belowN {B : Nat} {a w : World} (h : Below B a w) (n : Nat) : Below B a (w.drewN n) := h.trans ⟨rfl, rfl, rfl, Nat.le_refl _, fun _ _ => rfl⟩
set_option maxRecDepth 20000 in
set_option maxHeartbeats 2000000 in
theorem kvalid_ref (seed : Sg.Str) (h n : Int) (w : World) :
 Calls Tryz.prog 61 #[.agg #[.string ⟨seed.toArray⟩, .int .i64 h, .int .i64 n]] w fun e w' => e = .returned (.bool (validB seed h n)) ∧ Below w.heap.size w w' := by
 obtain ⟨W, hW⟩ : ∃ W, w.alloc (.cells #[.string ⟨seed.toArray⟩, .int .i64 h, .int .i64 n] 23) = W := ⟨_, rfl⟩
 have b0 : Below w.heap.size w W := by rw [← hW]; exact (Below.refl _ w).alloc (Nat.le_refl _) _
 have bl : Blk W w.heap.size 23 #[.string ⟨seed.toArray⟩, .int .i64 h, .int .i64 n] := by rw [← hW]; exact Blk.new w _ _
 have c0 := bl.cell 0
 have c1 := bl.cell 1
 have c2 := bl.cell 2
 have HB := Lib.hid b0
 clear b0 bl
 unfold validB treeB
 by_cases h1 : seed.length = 32
 ·have g1 : ((seed.length : Int) == 32) = true := by rw [h1]; rfl
  rw [decide_eq_true h1]
  by_cases h2 : 0 ≤ h
  ·rw [decide_eq_true h2]
   have g2 : decide (h ≥ 0) = true := decide_eq_true h2
   by_cases h3 : h ≤ 6
   ·rw [decide_eq_true h3]
    have g3 : decide (h ≤ 6) = true := decide_eq_true h3
    obtain ⟨m, rfl⟩ : ∃ m : Nat, h = (m : Int) := ⟨h.toNat, by omega⟩
    rw [Int.toNat_natCast]
    obtain ⟨P, hP⟩ : ∃ P, 2 ^ m = P := ⟨_, rfl⟩
    obtain ⟨h5, h6⟩ := shl_facts m P (by omega) hP
    have e9 : min m 64 = m := by omega
    rw [hP]
    by_cases h4 : 0 ≤ n
    ·rw [decide_eq_true h4]
     have g4 : decide (n ≥ 0) = true := decide_eq_true h4
     by_cases h7 : n ≤ (P : Int)
     ·rw [decide_eq_true h7]
      have g5 : decide (n ≤ (P : Int)) = true := decide_eq_true h7
      clear h7
      clear h1 h2 h3 h4 hP
      go_enter Tryz.func61, Tryz.ntmps61
      go_wp2
      go_quiet (fail)
      go_wp2
      go_ret
      exact ⟨rfl, belowN HB.out _⟩
     ·rw [decide_eq_false h7]
      have g5 : decide (n ≤ (P : Int)) = false := decide_eq_false h7
      clear h7
      clear h1 h2 h3 h4 hP
      go_enter Tryz.func61, Tryz.ntmps61
      go_wp2
      go_quiet (fail)
      go_wp2
      go_ret
      exact ⟨rfl, belowN HB.out _⟩
    ·rw [decide_eq_false h4]
     have g4 : decide (n ≥ 0) = false := decide_eq_false h4
     clear h1 h2 h3 h4 hP
     go_enter Tryz.func61, Tryz.ntmps61
     go_wp2
     go_quiet (fail)
     go_wp2
     go_ret
     exact ⟨rfl, belowN HB.out _⟩
   ·rw [decide_eq_false h3]
    have g3 : decide (h ≤ 6) = false := decide_eq_false h3
    clear h1 h2 h3
    go_enter Tryz.func61, Tryz.ntmps61
    go_wp2
    go_quiet (fail)
    go_wp2
    go_ret
    exact ⟨rfl, belowN HB.out _⟩
  ·rw [decide_eq_false h2]
   have g2 : decide (h ≥ 0) = false := decide_eq_false h2
   clear h1 h2
   go_enter Tryz.func61, Tryz.ntmps61
   go_wp2
   go_quiet (fail)
   go_wp2
   go_ret
   exact ⟨rfl, belowN HB.out _⟩
 ·have g1 : ((seed.length : Int) == 32) = false := by rw [beq_eq_false_iff_ne]; omega
  rw [decide_eq_false h1]
  clear h1
  go_enter Tryz.func61, Tryz.ntmps61
  go_wp2
  go_quiet (fail)
  go_wp2
  go_ret
  exact ⟨rfl, belowN HB.out _⟩
end Go.Proofs.YtjjpdnpbhdcpbaaGreat
