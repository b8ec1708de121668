/-
  The statements' bound on signatures: it answers. Conditions: signatures of bulk at most 2^40.
-/
import Derived.Test.YtjjpdnpbhdcpbaaGreatOSgP
import Derived.Test.YtjjpdnpbhdcpbaaGreatQPc
import Derived.Test.YtjjpdnpbhdcpbaaGreatOPa
import Derived.Test.YtjjpdnpbhdcpbaaGreatQMkB
namespace Go.Proofs.YtjjpdnpbhdcpbaaGreat
set_option linter.unusedVariables false
open Go.RowKit Go.Shelf
attribute [local go_sem] Oper.semAt_some
theorem tdiv_two (n : Nat) : (n : Int).tdiv 2 = ((n / 2 : Nat) : Int) := by rw [Int.tdiv_eq_ediv_of_nonneg (by omega)]; omega
theorem few_bounds (hf t : Nat) (h : hf ≤ 80) (ht : t ≤ 20) : (0 + hf) * 16 ≤ 140737488355328 ∧ 0 + hf ≤ maxLen ∧ (0 + hf + t) * 16 ≤ 140737488355328 ∧ 0 + hf + t ≤ maxLen :=
 ⟨by omega, Nat.le_trans (m := 80) (by omega) (by decide), by omega, Nat.le_trans (m := 100) (by omega) (by decide)⟩
theorem few_weight (C T : List Sg.Str) (hf : Nat) (hw : weight C + weight T ≤ 1099511627776) : weight (C.take hf ++ T) ≤ 9223372036854775807 := by
 have h9 := weight_take_le C hf
 have h8 : (C.take hf).length ≤ C.length := by rw [List.length_take]; omega
 unfold weight at *
 rw [List.map_append, List.sum_append, List.length_append]
 omega
theorem rd_half {w : World} {ad : Addr} {C : List Sg.Str} (h : Rd w (some ad) (strs C)) (hf cC : Nat) (hl : C.length ≤ cC) : Rd w (if cC = hf then some ad else some (ad.add hf)) (strs (C.drop hf)) := by
 by_cases he : C.length ≤ hf
 ·rw [List.drop_eq_nil_of_le he]
  exact Rd.nil _ _
 ·rw [if_neg (by omega)]
  rcases h with h | ⟨b, off, hA, hc⟩
  ·have : C = [] := by simpa [strs] using h
   subst this
   simp at he
  ·injection hA with hA
   subst hA
   rw [Addr.add_lit]
   exact rd_drop (.inr ⟨b, off, rfl, hc⟩) hf
theorem few_weight2 (C T : List Sg.Str) (hf : Nat) (hw : weight C + weight T ≤ 1099511627776) : weight (C.drop hf) ≤ 9223372036854775807 := by
 have h9 := congrArg (fun l : List Sg.Str => (l.map List.length).sum) (List.take_append_drop hf C)
 have h8 : (C.drop hf).length ≤ C.length := by rw [List.length_drop]; omega
 simp only [List.map_append, List.sum_append] at h9
 unfold weight at *
 omega
def fewS (C T : List Sg.Str) : Bool := if C.length ≤ 80 then (if T.length ≤ 20 then (if fewB (C.take (C.length / 2) ++ T) = true then fewB (C.drop (C.length / 2)) else false) else false) else false
set_option maxRecDepth 20000 in
set_option maxHeartbeats 4000000 in
theorem rfew_spec (i : Int) (C T : List Sg.Str) (A B : Option Addr) (cC cT : Nat) (w : World) (hC : Rd w A (strs C)) (hT : Rd w B (strs T)) (hnA : A = none → C.length = 0 ∧ cC = 0) (hnB : B = none → T.length = 0 ∧ cT = 0) (h1 : C.length ≤ cC) (h2 : cC ≤ maxLen) (h3 : T.length ≤ cT) (h4 : cT ≤ maxLen) (hw : weight C + weight T ≤ 1099511627776) :
 Calls Tryz.prog 23 #[.agg #[.int .i64 i, .slice A C.length cC, .slice B T.length cT]] w fun e w' => e = .returned (.bool (fewS C T)) ∧ Below w.heap.size w w' := by
 obtain ⟨W, hW⟩ : ∃ W, w.alloc (.cells #[.int .i64 i, .slice A C.length cC, .slice B T.length cT] 29) = W := ⟨_, rfl⟩
 have b0 : Below w.heap.size w W := by rw [← hW]; exact (Below.refl _ w).alloc (Nat.le_refl _) _
 have bl : Blk W w.heap.size 29 #[.int .i64 i, .slice A C.length cC, .slice B T.length cT] := by rw [← hW]; exact Blk.new w _ _
 have k1 := bl.cell 1
 have k2 := bl.cell 2
 have HB := Lib.hid b0
 unfold fewS
 by_cases c1 : C.length ≤ 80
 ·rw [if_pos c1]
  have g1 : decide ((C.length : Int) ≤ 80) = true := decide_eq_true (by omega)
  by_cases c2 : T.length ≤ 20
  ·rw [if_pos c2]
   have g2 : decide ((T.length : Int) ≤ 20) = true := decide_eq_true (by omega)
   obtain ⟨hf, hhf⟩ : ∃ hf, C.length / 2 = hf := ⟨_, rfl⟩
   have hf80 : hf ≤ 80 := by rw [← hhf]; exact Nat.le_trans (Nat.div_le_self _ _) c1
   have q1 := tdiv_two C.length
   rw [hhf] at q1 ⊢
   obtain ⟨q2, q3⟩ := wraps_nat hf (Nat.lt_of_le_of_lt hf80 (by decide))
   have p4 : hf ≤ C.length := by rw [← hhf]; exact Nat.div_le_self _ _
   have p3 : hf ≤ cC := Nat.le_trans p4 h1
   have p0 : (0 : Int) ≤ (hf : Int) := Int.natCast_nonneg _
   have p1 : (hf : Int) ≤ (C.length : Int) := Int.ofNat_le.2 p4
   have p2 : (hf : Int) ≤ (cC : Int) := Int.ofNat_le.2 p3
   have p5 : (C.length : Int) ≤ (cC : Int) := Int.ofNat_le.2 h1
   have hT1 : (C.take hf).length = hf := by rw [List.length_take]; exact Nat.min_eq_left p4
   have hD1 : (C.drop hf).length = C.length - hf := by rw [List.length_drop]
   have y0 := (Below.refl W.heap.size W).drew
   cases A with
   | none =>
     obtain ⟨z1, rfl⟩ := hnA rfl
     obtain rfl : C = [] := List.eq_nil_of_length_eq_zero z1
     obtain rfl : hf = 0 := hhf.symm
     have hS : ∀ W', Below W.heap.size W W' → W'.cell? ⟨w.heap.size, 1, none⟩ = some (.slice none 0 0) ∧ W'.cell? ⟨w.heap.size, 2, none⟩ = some (.slice B T.length cT) := fun W' h => ⟨below_cell h k1, below_cell h k2⟩
     have HS := Lib.hid hS
     have y9 := ((Below.refl W.heap.size W).alloc (Nat.le_refl _) (.cells #[] 9)).drew
     have o0 : (W.alloc (.cells #[] 9)).drew.ownsRow W.heap.size 9 1 (.slice (some ⟨W.heap.size, 0, none⟩) 0 0) 0 [] := (World.ownsRow_lit W #[] 0 (Nat.le_refl _) (by decide) rfl).drew
     have r2 : ∀ W', Below W.heap.size W W' → Rd W' B (strs T) := fun W' h => (hT.below b0).below h
     have hl2 : (strs T).length = T.length * 1 := by rw [strs_length, Nat.mul_one]
     obtain ⟨m1, m2, m3, m4⟩ := few_bounds 0 T.length hf80 c2
     have hwt := few_weight [] T 0 hw
     have kF := fun (A' : Option Addr) (c' : Nat) (W' : World) (hR : Rd W' A' (strs T)) => mfew_spec A' T c' W' hR hwt
     have hfe : fewB ([] : List Sg.Str) = true := by decide
     have kG : ∀ W', Calls Tryz.prog 34 #[.slice none 0 0] W' fun e w' => e = .returned (.bool true) ∧ W' = w' := fun W' => by
      have := mfew_spec none ([] : List Sg.Str) 0 W' (Rd.nil _ _) (by decide)
      rw [hfe] at this
      exact this
     have i0 : IntKind.i64.wrap 0 = 0 := by decide
     have k1' : W.cell? ⟨w.heap.size, 1, none⟩ = some (.slice none 0 0) := k1
     have k2' : W.cell? ⟨w.heap.size, 2, none⟩ = some (.slice B T.length cT) := k2
     have hW' : w.alloc (.cells #[.int .i64 i, .slice none 0 0, .slice B T.length cT] 29) = W := hW
     clear bl b0 hS hC hT hw hwt k1 k2 hW
     show Calls _ _ _ _ fun e w' => e = .returned (.bool (if fewB T = true then fewB ([] : List Sg.Str) else false)) ∧ Below w.heap.size w w'
     rw [hfe]
     cases hb1 : fewB T
     ·rw [hb1] at kF
      rw [if_neg (by simp)]
      go_enter Tryz.func23, Tryz.ntmps23
      go_wp2_with fail
      refine wp_region_noPanic ?_
      refine wp_region_held_drew (S := (fun w' => w'.cell? ⟨w.heap.size, 1, none⟩ = some (.slice none 0 0) ∧ w'.cell? ⟨w.heap.size, 2, none⟩ = some (.slice B T.length cT))) (by kernel_rfl) ?_ (fun hH0 => ?_)
      ·exact HS.out _ y0
      refine tk 0 3 hH0 ?_
      refine tk 1 4 hH0 ?_
      refine tk 2 5 hH0 ?_
      refine tk 3 6 hH0 ?_
      refine tk 4 7 hH0 ?_
      refine tk 5 8 hH0 ?_
      refine tk 6 9 hH0 ?_
      refine tk 7 10 hH0 ?_
      refine tk 8 11 hH0 ?_
      refine tk 9 12 hH0 ?_
      refine tk 10 13 hH0 ?_
      refine tk 12 15 hH0 ?_
      refine tk 13 16 hH0 ?_
      refine tk 14 17 hH0 ?_
      refine tk 15 18 hH0 ?_
      refine tk 16 19 hH0 ?_
      refine tk 17 20 hH0 ?_
      refine tk 18 21 hH0 ?_
      refine tk 20 23 hH0 ?_
      refine tk 21 24 hH0 ?_
      refine rdy [11] ?_
      refine an 14 fun K hK => ?_
      go_simp
      refine hK.out _ _ ?_ (fun hH1 => ?_)
      ·exact HS.out _ y9
      clear hK K hH0
      try simp only [pu]
      refine rdy [19] ?_
      refine an 22 fun K hK => ?_
      (
       rw [if_pos (by rfl)]
       refine app_op _ _ _ 27 rfl 9 (.string ⟨#[]⟩) 1 16 W.heap.size Tryz.underlying27 info_strc rfl (by decide) (.slice (some ⟨W.heap.size, 0, none⟩) 0 0) 0 [] none 0 0 [] rfl rfl o0 (fun _ => ⟨rfl, rfl⟩) (Rd.nil _ _) rfl (fun u hu => by cases hu) m1 m2 y9.size ?_
       intro v1 w1 o1 gr1
       have yA := y9.grown gr1 y9.size (fun k e => by cases e; exact Nat.le_refl _))
      refine hK.out _ _ ?_ (fun hH2 => ?_)
      ·exact HS.out _ yA
      clear hK K hH1
      try simp only [pu]
      refine rdy [22] ?_
      refine an 25 fun K hK => ?_
      (
       rw [if_pos (by rfl)]
       refine app_op _ _ _ 27 rfl 9 (.string ⟨#[]⟩) 1 16 W.heap.size Tryz.underlying27 info_strc rfl (by decide) v1 (0 + 0) ([] ++ []) B T.length cT (strs T) rfl rfl o1 hnB (r2 _ yA) hl2 (strs_one _) m3 m4 yA.size ?_
       intro v2 w2 o2 gr2
       simp only [Nat.zero_add, List.nil_append] at o2
       have yB := yA.grown gr2 yA.size (fun k e => (o1.lt k e).1)
       obtain ⟨A', c', rfl, s1, s2⟩ := own_form o2)
      refine hK.out _ _ ?_ (fun hH3 => ?_)
      ·exact HS.out _ yB
      clear hK K hH2
      try simp only [pu]
      refine rdy [23] ?_
      refine an 26 fun K hK => ?_
      go_simp; (
       with_reducible refine (kF A' c' _ (Rd.of_own o2)).mono ?_
       rintro e w3 ⟨rfl, rfl⟩); go_wp2_with fail
      refine hK.out _ _ ?_ (fun hH4 => ?_)
      ·exact HS.out _ yB
      clear hK K hH3
      try simp only [pu]
      refine tk 24 27 hH4 ?_
      refine tk 25 28 hH4 ?_
      refine tu 26 29 hH4 ?_
      refine tu 27 30 hH4 ?_
      refine tu 28 31 hH4 ?_
      refine tu 29 32 hH4 ?_
      refine tu 30 33 hH4 ?_
      refine tu 31 34 hH4 ?_
      refine tu 32 35 hH4 ?_
      refine tu 33 36 hH4 ?_
      refine tk 34 37 hH4 ?_
      refine tk 35 2 hH4 ?_
      refine dn ?_ _
      all_goals (refine NoPanic.normal ?_)
      all_goals
       go_wp2
       go_ret
       exact ⟨rfl, HB.out.trans (yB.mono HB.out.size)⟩
     ·rw [hb1] at kF
      rw [if_pos rfl]
      go_enter Tryz.func23, Tryz.ntmps23
      go_wp2_with fail
      refine wp_region_noPanic ?_
      refine wp_region_held_drew (S := (fun w' => w'.cell? ⟨w.heap.size, 1, none⟩ = some (.slice none 0 0) ∧ w'.cell? ⟨w.heap.size, 2, none⟩ = some (.slice B T.length cT))) (by kernel_rfl) ?_ (fun hH0 => ?_)
      ·exact HS.out _ y0
      refine tk 0 3 hH0 ?_
      refine tk 1 4 hH0 ?_
      refine tk 2 5 hH0 ?_
      refine tk 3 6 hH0 ?_
      refine tk 4 7 hH0 ?_
      refine tk 5 8 hH0 ?_
      refine tk 6 9 hH0 ?_
      refine tk 7 10 hH0 ?_
      refine tk 8 11 hH0 ?_
      refine tk 9 12 hH0 ?_
      refine tk 10 13 hH0 ?_
      refine tk 12 15 hH0 ?_
      refine tk 13 16 hH0 ?_
      refine tk 14 17 hH0 ?_
      refine tk 15 18 hH0 ?_
      refine tk 16 19 hH0 ?_
      refine tk 17 20 hH0 ?_
      refine tk 18 21 hH0 ?_
      refine tk 20 23 hH0 ?_
      refine tk 21 24 hH0 ?_
      refine rdy [11] ?_
      refine an 14 fun K hK => ?_
      go_simp
      refine hK.out _ _ ?_ (fun hH1 => ?_)
      ·exact HS.out _ y9
      clear hK K hH0
      try simp only [pu]
      refine rdy [19] ?_
      refine an 22 fun K hK => ?_
      (
       rw [if_pos (by rfl)]
       refine app_op _ _ _ 27 rfl 9 (.string ⟨#[]⟩) 1 16 W.heap.size Tryz.underlying27 info_strc rfl (by decide) (.slice (some ⟨W.heap.size, 0, none⟩) 0 0) 0 [] none 0 0 [] rfl rfl o0 (fun _ => ⟨rfl, rfl⟩) (Rd.nil _ _) rfl (fun u hu => by cases hu) m1 m2 y9.size ?_
       intro v1 w1 o1 gr1
       have yA := y9.grown gr1 y9.size (fun k e => by cases e; exact Nat.le_refl _))
      refine hK.out _ _ ?_ (fun hH2 => ?_)
      ·exact HS.out _ yA
      clear hK K hH1
      try simp only [pu]
      refine rdy [22] ?_
      refine an 25 fun K hK => ?_
      (
       rw [if_pos (by rfl)]
       refine app_op _ _ _ 27 rfl 9 (.string ⟨#[]⟩) 1 16 W.heap.size Tryz.underlying27 info_strc rfl (by decide) v1 (0 + 0) ([] ++ []) B T.length cT (strs T) rfl rfl o1 hnB (r2 _ yA) hl2 (strs_one _) m3 m4 yA.size ?_
       intro v2 w2 o2 gr2
       simp only [Nat.zero_add, List.nil_append] at o2
       have yB := yA.grown gr2 yA.size (fun k e => (o1.lt k e).1)
       obtain ⟨A', c', rfl, s1, s2⟩ := own_form o2)
      refine hK.out _ _ ?_ (fun hH3 => ?_)
      ·exact HS.out _ yB
      clear hK K hH2
      try simp only [pu]
      refine rdy [23] ?_
      refine an 26 fun K hK => ?_
      go_simp; (
       with_reducible refine (kF A' c' _ (Rd.of_own o2)).mono ?_
       rintro e w3 ⟨rfl, rfl⟩); go_wp2_with fail
      refine hK.out _ _ ?_ (fun hH4 => ?_)
      ·exact HS.out _ yB
      clear hK K hH3
      try simp only [pu]
      refine tk 24 27 hH4 ?_
      refine tk 25 28 hH4 ?_
      refine tk 26 29 hH4 ?_
      refine tk 27 30 hH4 ?_
      refine tk 28 31 hH4 ?_
      refine tk 29 32 hH4 ?_
      refine tk 30 33 hH4 ?_
      refine tk 31 34 hH4 ?_
      refine tk 32 35 hH4 ?_
      refine rdy [33] ?_
      refine an 36 fun K hK => ?_
      go_simp; (
       with_reducible refine (kG _).mono ?_
       rintro e w4 ⟨rfl, rfl⟩); go_wp2_with fail
      refine hK.out _ _ ?_ (fun hH5 => ?_)
      ·exact HS.out _ yB
      clear hK K hH4
      try simp only [pu]
      refine tk 34 37 hH5 ?_
      refine tk 35 2 hH5 ?_
      refine dn ?_ _
      all_goals (refine NoPanic.normal ?_)
      all_goals
       go_wp2
       go_ret
       exact ⟨rfl, HB.out.trans (yB.mono HB.out.size)⟩
   | some ad =>
     have hS : ∀ W', Below W.heap.size W W' → W'.cell? ⟨w.heap.size, 1, none⟩ = some (.slice (some ad) C.length cC) ∧ W'.cell? ⟨w.heap.size, 2, none⟩ = some (.slice B T.length cT) := fun W' h => ⟨below_cell h k1, below_cell h k2⟩
     have HS := Lib.hid hS
     have y9 := ((Below.refl W.heap.size W).alloc (Nat.le_refl _) (.cells #[] 9)).drew
     have o0 : (W.alloc (.cells #[] 9)).drew.ownsRow W.heap.size 9 1 (.slice (some ⟨W.heap.size, 0, none⟩) 0 0) 0 [] := (World.ownsRow_lit W #[] 0 (Nat.le_refl _) (by decide) rfl).drew
     have r1 : ∀ W', Below W.heap.size W W' → Rd W' (some ad) (strs (C.take hf)) := fun W' h => rd_take ((hC.below b0).below h) hf
     have r2 : ∀ W', Below W.heap.size W W' → Rd W' B (strs T) := fun W' h => (hT.below b0).below h
     have hl1 : (strs (C.take hf)).length = hf * 1 := by rw [strs_length, hT1, Nat.mul_one]
     have hl2 : (strs T).length = T.length * 1 := by rw [strs_length, Nat.mul_one]
     obtain ⟨m1, m2, m3, m4⟩ := few_bounds hf T.length hf80 c2
     have hnA' : (some ad : Option Addr) = none → hf = 0 ∧ cC = 0 := fun h => by cases h
     have hwt := few_weight C T hf hw
     have kF := fun (A' : Option Addr) (c' : Nat) (W' : World) (hR : Rd W' A' (strs (C.take hf ++ T))) => mfew_spec A' (C.take hf ++ T) c' W' hR hwt
     have hlen : (C.take hf ++ T).length = hf + T.length := by rw [List.length_append, hT1]
     rw [hlen] at kF
     have happ : strs (C.take hf ++ T) = strs (C.take hf) ++ strs T := by rw [strs_append]
     rw [happ] at kF
     have kG := fun (W' : World) (hb : Below W.heap.size W W') => mfew_spec (if cC = hf then some ad else some (ad.add hf)) (C.drop hf) (cC - hf) W' (rd_half ((hC.below b0).below hb) hf cC h1) (few_weight2 C T hf hw)
     rw [hD1] at kG
     clear bl b0 hS hC hT hw hwt
     cases hb1 : fewB (C.take hf ++ T) with
     | false =>
       rw [hb1] at kF
       rw [if_neg (by simp)]
       go_enter Tryz.func23, Tryz.ntmps23
       go_wp2_with fail
       refine wp_region_noPanic ?_
       refine wp_region_held_drew (S := (fun w' => w'.cell? ⟨w.heap.size, 1, none⟩ = some (.slice (some ad) C.length cC) ∧ w'.cell? ⟨w.heap.size, 2, none⟩ = some (.slice B T.length cT))) (by kernel_rfl) ?_ (fun hH0 => ?_)
       ·exact HS.out _ y0
       refine tk 0 3 hH0 ?_
       refine tk 1 4 hH0 ?_
       refine tk 2 5 hH0 ?_
       refine tk 3 6 hH0 ?_
       refine tk 4 7 hH0 ?_
       refine tk 5 8 hH0 ?_
       refine tk 6 9 hH0 ?_
       refine tk 7 10 hH0 ?_
       refine tk 8 11 hH0 ?_
       refine tk 9 12 hH0 ?_
       refine tk 10 13 hH0 ?_
       refine tk 12 15 hH0 ?_
       refine tk 13 16 hH0 ?_
       refine tk 14 17 hH0 ?_
       refine tk 15 18 hH0 ?_
       refine tk 16 19 hH0 ?_
       refine tk 17 20 hH0 ?_
       refine tk 18 21 hH0 ?_
       refine tk 20 23 hH0 ?_
       refine tk 21 24 hH0 ?_
       refine rdy [11] ?_
       refine an 14 fun K hK => ?_
       go_simp
       refine hK.out _ _ ?_ (fun hH1 => ?_)
       ·exact HS.out _ y9
       clear hK K hH0
       try simp only [pu]
       refine rdy [19] ?_
       refine an 22 fun K hK => ?_
       (
        rw [if_pos (by rfl)]
        refine app_op _ _ _ 27 rfl 9 (.string ⟨#[]⟩) 1 16 W.heap.size Tryz.underlying27 info_strc rfl (by decide) (.slice (some ⟨W.heap.size, 0, none⟩) 0 0) 0 [] (some ad) hf cC (strs (C.take hf)) rfl rfl o0 hnA' (r1 _ y9) hl1 (strs_one _) m1 m2 y9.size ?_
        intro v1 w1 o1 gr1
        have yA := y9.grown gr1 y9.size (fun k e => by cases e; exact Nat.le_refl _))
       refine hK.out _ _ ?_ (fun hH2 => ?_)
       ·exact HS.out _ yA
       clear hK K hH1
       try simp only [pu]
       refine rdy [22] ?_
       refine an 25 fun K hK => ?_
       (
        rw [if_pos (by rfl)]
        refine app_op _ _ _ 27 rfl 9 (.string ⟨#[]⟩) 1 16 W.heap.size Tryz.underlying27 info_strc rfl (by decide) v1 (0 + hf) ([] ++ strs (C.take hf)) B T.length cT (strs T) rfl rfl o1 hnB (r2 _ yA) hl2 (strs_one _) m3 m4 yA.size ?_
        intro v2 w2 o2 gr2
        simp only [Nat.zero_add, List.nil_append] at o2
        have yB := yA.grown gr2 yA.size (fun k e => (o1.lt k e).1)
        obtain ⟨A', c', rfl, s1, s2⟩ := own_form o2)
       refine hK.out _ _ ?_ (fun hH3 => ?_)
       ·exact HS.out _ yB
       clear hK K hH2
       try simp only [pu]
       refine rdy [23] ?_
       refine an 26 fun K hK => ?_
       go_simp; (
        with_reducible refine (kF A' c' _ (Rd.of_own o2)).mono ?_
        rintro e w3 ⟨rfl, rfl⟩); go_wp2_with fail
       refine hK.out _ _ ?_ (fun hH4 => ?_)
       ·exact HS.out _ yB
       clear hK K hH3
       try simp only [pu]
       refine tk 24 27 hH4 ?_
       refine tk 25 28 hH4 ?_
       refine tu 26 29 hH4 ?_
       refine tu 27 30 hH4 ?_
       refine tu 28 31 hH4 ?_
       refine tu 29 32 hH4 ?_
       refine tu 30 33 hH4 ?_
       refine tu 31 34 hH4 ?_
       refine tu 32 35 hH4 ?_
       refine tu 33 36 hH4 ?_
       refine tk 34 37 hH4 ?_
       refine tk 35 2 hH4 ?_
       refine dn ?_ _
       all_goals (refine NoPanic.normal ?_)
       all_goals
        go_wp2
        go_ret
        exact ⟨rfl, HB.out.trans (yB.mono HB.out.size)⟩
     | true =>
       rw [hb1] at kF
       rw [if_pos rfl]
       cases hb2 : fewB (C.drop hf)
       ·rw [hb2] at kG
        go_enter Tryz.func23, Tryz.ntmps23
        go_wp2_with fail
        refine wp_region_noPanic ?_
        refine wp_region_held_drew (S := (fun w' => w'.cell? ⟨w.heap.size, 1, none⟩ = some (.slice (some ad) C.length cC) ∧ w'.cell? ⟨w.heap.size, 2, none⟩ = some (.slice B T.length cT))) (by kernel_rfl) ?_ (fun hH0 => ?_)
        ·exact HS.out _ y0
        refine tk 0 3 hH0 ?_
        refine tk 1 4 hH0 ?_
        refine tk 2 5 hH0 ?_
        refine tk 3 6 hH0 ?_
        refine tk 4 7 hH0 ?_
        refine tk 5 8 hH0 ?_
        refine tk 6 9 hH0 ?_
        refine tk 7 10 hH0 ?_
        refine tk 8 11 hH0 ?_
        refine tk 9 12 hH0 ?_
        refine tk 10 13 hH0 ?_
        refine tk 12 15 hH0 ?_
        refine tk 13 16 hH0 ?_
        refine tk 14 17 hH0 ?_
        refine tk 15 18 hH0 ?_
        refine tk 16 19 hH0 ?_
        refine tk 17 20 hH0 ?_
        refine tk 18 21 hH0 ?_
        refine tk 20 23 hH0 ?_
        refine tk 21 24 hH0 ?_
        refine rdy [11] ?_
        refine an 14 fun K hK => ?_
        go_simp
        refine hK.out _ _ ?_ (fun hH1 => ?_)
        ·exact HS.out _ y9
        clear hK K hH0
        try simp only [pu]
        refine rdy [19] ?_
        refine an 22 fun K hK => ?_
        (
         rw [if_pos (by rfl)]
         refine app_op _ _ _ 27 rfl 9 (.string ⟨#[]⟩) 1 16 W.heap.size Tryz.underlying27 info_strc rfl (by decide) (.slice (some ⟨W.heap.size, 0, none⟩) 0 0) 0 [] (some ad) hf cC (strs (C.take hf)) rfl rfl o0 hnA' (r1 _ y9) hl1 (strs_one _) m1 m2 y9.size ?_
         intro v1 w1 o1 gr1
         have yA := y9.grown gr1 y9.size (fun k e => by cases e; exact Nat.le_refl _))
        refine hK.out _ _ ?_ (fun hH2 => ?_)
        ·exact HS.out _ yA
        clear hK K hH1
        try simp only [pu]
        refine rdy [22] ?_
        refine an 25 fun K hK => ?_
        (
         rw [if_pos (by rfl)]
         refine app_op _ _ _ 27 rfl 9 (.string ⟨#[]⟩) 1 16 W.heap.size Tryz.underlying27 info_strc rfl (by decide) v1 (0 + hf) ([] ++ strs (C.take hf)) B T.length cT (strs T) rfl rfl o1 hnB (r2 _ yA) hl2 (strs_one _) m3 m4 yA.size ?_
         intro v2 w2 o2 gr2
         simp only [Nat.zero_add, List.nil_append] at o2
         have yB := yA.grown gr2 yA.size (fun k e => (o1.lt k e).1)
         obtain ⟨A', c', rfl, s1, s2⟩ := own_form o2)
        refine hK.out _ _ ?_ (fun hH3 => ?_)
        ·exact HS.out _ yB
        clear hK K hH2
        try simp only [pu]
        refine rdy [23] ?_
        refine an 26 fun K hK => ?_
        go_simp; (
         with_reducible refine (kF A' c' _ (Rd.of_own o2)).mono ?_
         rintro e w3 ⟨rfl, rfl⟩); go_wp2_with fail
        refine hK.out _ _ ?_ (fun hH4 => ?_)
        ·exact HS.out _ yB
        clear hK K hH3
        try simp only [pu]
        refine tk 24 27 hH4 ?_
        refine tk 25 28 hH4 ?_
        refine tk 26 29 hH4 ?_
        refine tk 27 30 hH4 ?_
        refine tk 28 31 hH4 ?_
        refine tk 29 32 hH4 ?_
        refine tk 30 33 hH4 ?_
        refine tk 31 34 hH4 ?_
        refine tk 32 35 hH4 ?_
        refine rdy [33] ?_
        refine an 36 fun K hK => ?_
        go_simp; (
         with_reducible refine (kG _ yB).mono ?_
         rintro e w4 ⟨rfl, rfl⟩
         generalize (if cC = hf then some ad else some (ad.add hf)) = G4); go_wp2_with fail
        refine hK.out _ _ ?_ (fun hH5 => ?_)
        ·exact HS.out _ yB
        clear hK K hH4
        try simp only [pu]
        refine tk 34 37 hH5 ?_
        refine tk 35 2 hH5 ?_
        refine dn ?_ _
        all_goals (refine NoPanic.normal ?_)
        all_goals
         go_wp2
         go_ret
         exact ⟨rfl, HB.out.trans (yB.mono HB.out.size)⟩
       ·rw [hb2] at kG
        go_enter Tryz.func23, Tryz.ntmps23
        go_wp2_with fail
        refine wp_region_noPanic ?_
        refine wp_region_held_drew (S := (fun w' => w'.cell? ⟨w.heap.size, 1, none⟩ = some (.slice (some ad) C.length cC) ∧ w'.cell? ⟨w.heap.size, 2, none⟩ = some (.slice B T.length cT))) (by kernel_rfl) ?_ (fun hH0 => ?_)
        ·exact HS.out _ y0
        refine tk 0 3 hH0 ?_
        refine tk 1 4 hH0 ?_
        refine tk 2 5 hH0 ?_
        refine tk 3 6 hH0 ?_
        refine tk 4 7 hH0 ?_
        refine tk 5 8 hH0 ?_
        refine tk 6 9 hH0 ?_
        refine tk 7 10 hH0 ?_
        refine tk 8 11 hH0 ?_
        refine tk 9 12 hH0 ?_
        refine tk 10 13 hH0 ?_
        refine tk 12 15 hH0 ?_
        refine tk 13 16 hH0 ?_
        refine tk 14 17 hH0 ?_
        refine tk 15 18 hH0 ?_
        refine tk 16 19 hH0 ?_
        refine tk 17 20 hH0 ?_
        refine tk 18 21 hH0 ?_
        refine tk 20 23 hH0 ?_
        refine tk 21 24 hH0 ?_
        refine rdy [11] ?_
        refine an 14 fun K hK => ?_
        go_simp
        refine hK.out _ _ ?_ (fun hH1 => ?_)
        ·exact HS.out _ y9
        clear hK K hH0
        try simp only [pu]
        refine rdy [19] ?_
        refine an 22 fun K hK => ?_
        (
         rw [if_pos (by rfl)]
         refine app_op _ _ _ 27 rfl 9 (.string ⟨#[]⟩) 1 16 W.heap.size Tryz.underlying27 info_strc rfl (by decide) (.slice (some ⟨W.heap.size, 0, none⟩) 0 0) 0 [] (some ad) hf cC (strs (C.take hf)) rfl rfl o0 hnA' (r1 _ y9) hl1 (strs_one _) m1 m2 y9.size ?_
         intro v1 w1 o1 gr1
         have yA := y9.grown gr1 y9.size (fun k e => by cases e; exact Nat.le_refl _))
        refine hK.out _ _ ?_ (fun hH2 => ?_)
        ·exact HS.out _ yA
        clear hK K hH1
        try simp only [pu]
        refine rdy [22] ?_
        refine an 25 fun K hK => ?_
        (
         rw [if_pos (by rfl)]
         refine app_op _ _ _ 27 rfl 9 (.string ⟨#[]⟩) 1 16 W.heap.size Tryz.underlying27 info_strc rfl (by decide) v1 (0 + hf) ([] ++ strs (C.take hf)) B T.length cT (strs T) rfl rfl o1 hnB (r2 _ yA) hl2 (strs_one _) m3 m4 yA.size ?_
         intro v2 w2 o2 gr2
         simp only [Nat.zero_add, List.nil_append] at o2
         have yB := yA.grown gr2 yA.size (fun k e => (o1.lt k e).1)
         obtain ⟨A', c', rfl, s1, s2⟩ := own_form o2)
        refine hK.out _ _ ?_ (fun hH3 => ?_)
        ·exact HS.out _ yB
        clear hK K hH2
        try simp only [pu]
        refine rdy [23] ?_
        refine an 26 fun K hK => ?_
        go_simp; (
         with_reducible refine (kF A' c' _ (Rd.of_own o2)).mono ?_
         rintro e w3 ⟨rfl, rfl⟩); go_wp2_with fail
        refine hK.out _ _ ?_ (fun hH4 => ?_)
        ·exact HS.out _ yB
        clear hK K hH3
        try simp only [pu]
        refine tk 24 27 hH4 ?_
        refine tk 25 28 hH4 ?_
        refine tk 26 29 hH4 ?_
        refine tk 27 30 hH4 ?_
        refine tk 28 31 hH4 ?_
        refine tk 29 32 hH4 ?_
        refine tk 30 33 hH4 ?_
        refine tk 31 34 hH4 ?_
        refine tk 32 35 hH4 ?_
        refine rdy [33] ?_
        refine an 36 fun K hK => ?_
        go_simp; (
         with_reducible refine (kG _ yB).mono ?_
         rintro e w4 ⟨rfl, rfl⟩
         generalize (if cC = hf then some ad else some (ad.add hf)) = G4); go_wp2_with fail
        refine hK.out _ _ ?_ (fun hH5 => ?_)
        ·exact HS.out _ yB
        clear hK K hH4
        try simp only [pu]
        refine tk 34 37 hH5 ?_
        refine tk 35 2 hH5 ?_
        refine dn ?_ _
        all_goals (refine NoPanic.normal ?_)
        all_goals
         go_wp2
         go_ret
         exact ⟨rfl, HB.out.trans (yB.mono HB.out.size)⟩
  ·rw [if_neg c2]
   have g2 : decide ((T.length : Int) ≤ 20) = false := decide_eq_false (by omega)
   clear bl b0 hC hT c1 c2 hw hnA hnB
   go_enter Tryz.func23, Tryz.ntmps23
   go_wp2
   go_quiet (fail)
   go_wp2
   go_ret
   exact ⟨rfl, belowN HB.out _⟩
 ·rw [if_neg c1]
  have g1 : decide ((C.length : Int) ≤ 80) = false := decide_eq_false (by omega)
  clear bl b0 hC hT c1 hw hnA hnB
  go_enter Tryz.func23, Tryz.ntmps23
  go_wp2
  go_quiet (fail)
  go_wp2
  go_ret
  exact ⟨rfl, belowN HB.out _⟩
end Go.Proofs.YtjjpdnpbhdcpbaaGreat
