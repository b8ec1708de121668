/-
  The reference's bytes of signatures; signatures compared. Conditions: strings of at most 2^40 bytes.
-/
import Derived.Test.YtnlpakalcckaiaaGreatSgP
import Derived.Test.YtnlpakalcckaiaaGreatCdB
import Derived.Test.YtnlpakalcckaiaaGreatMkB
namespace Go.Proofs.YtnlpakalcckaiaaGreat
set_option linter.unusedVariables false
open Go.RowKit Go.Shelf
attribute [local go_sem] Oper.semAt_some

set_option maxRecDepth 20000 in
set_option maxHeartbeats 4000000 in
theorem rvsig_spec (i : Int) (C T : List Sg.Str) (A B : Option Addr) (cC cT : Nat) (w : World) (hC : Rd w A (strs C)) (hT : Rd w B (strs T)) (h1 : C.length ≤ cC) (h2 : cC ≤ maxLen) (h3 : T.length ≤ cT) (h4 : cT ≤ maxLen) :
    Calls Tryz.prog 58 #[.agg #[.int .i64 i, .slice A C.length cC, .slice B T.length cT]] w fun e w' => e = .returned (.bool (okB i C T)) ∧ Below w.heap.size w w' := by
  have f3 : ¬ (IntKind.i64.max < (C.length : Int)) := by unfold maxLen at h2; show ¬ ((9223372036854775807 : Int) < _); omega
  have f4 : ¬ (IntKind.i64.max < (T.length : Int)) := by unfold maxLen at h4; show ¬ ((9223372036854775807 : Int) < _); omega
  unfold okB
  obtain ⟨W, hW⟩ : ∃ W, w.alloc (.cells #[.int .i64 i, .slice A C.length cC, .slice B T.length cT] 34) = W := ⟨_, rfl⟩
  have b0 : Below w.heap.size w W := by rw [← hW]; exact (Below.refl _ w).alloc (Nat.le_refl _) _
  have bl : Blk W w.heap.size 34 #[.int .i64 i, .slice A C.length cC, .slice B T.length cT] := by rw [← hW]; exact Blk.new w _ _
  have k0 := bl.cell 0
  have k1 := bl.cell 1
  have k2 := bl.cell 2
  have kc := digests_spec A C cC W (hC.below b0) (by unfold maxLen at h2; omega)
  have kt := digests_spec B T cT W (hT.below b0) (by unfold maxLen at h4; omega)
  have HB := Lib.hid b0
  clear bl hC hT b0
  by_cases c1 : 0 ≤ i
  · rw [if_pos c1]
    have c1' : decide (i ≥ 0) = true := decide_eq_true c1
    by_cases c2 : C.length = 67
    · rw [if_pos c2]
      rw [c2] at k1 f3 hW h1 kc ⊢
      by_cases c3 : T.length ≤ 6
      · rw [if_pos c3]
        have c3' : decide ((T.length : Int) ≤ 6) = true := decide_eq_true (by omega)
        have c3'' : (T.length : Int) ≤ 6 := by omega
        cases c4 : vld C with
        | false =>
          rw [c4] at kc
          rw [if_neg (by simp)]
          clear c4
          go_enter Tryz.func58, Tryz.ntmps58
          go_wp2_with fail
          refine kc.mono ?_
          rintro e w1 ⟨rfl, rfl⟩
          go_wp2
          go_ret
          exact ⟨rfl, HB.out⟩
        | true =>
          rw [c4] at kc
          rw [if_pos rfl]
          generalize vld T = q at kt ⊢
          clear c4
          go_enter Tryz.func58, Tryz.ntmps58
          go_wp2_with fail
          refine kc.mono ?_
          rintro e w1 ⟨rfl, rfl⟩
          go_wp2_with fail
          refine kt.mono ?_
          rintro e w1 ⟨rfl, rfl⟩
          go_wp2
          go_ret
          exact ⟨rfl, HB.out⟩
      · rw [if_neg c3]
        have c3' : decide ((T.length : Int) ≤ 6) = false := decide_eq_false (by omega)
        have c3'' : ¬ ((T.length : Int) ≤ 6) := by omega
        go_enter Tryz.func58, Tryz.ntmps58
        go_wp2
        go_ret
        exact ⟨rfl, HB.out⟩
    · rw [if_neg c2]
      have c2' : ¬ ((C.length : Int) = 67) := by omega
      have c2'' : ((C.length : Int) == 67) = false := by rw [beq_eq_false_iff_ne]; exact c2'
      go_enter Tryz.func58, Tryz.ntmps58
      go_wp2
      go_ret
      exact ⟨rfl, HB.out⟩
  · rw [if_neg c1]
    have c1' : decide (i ≥ 0) = false := decide_eq_false (by omega)
    go_enter Tryz.func58, Tryz.ntmps58
    go_wp2
    go_ret
    exact ⟨rfl, HB.out⟩
set_option maxRecDepth 20000 in
set_option maxHeartbeats 4000000 in
theorem rencode_spec (i : Int) (C T : List Sg.Str) (A B : Option Addr) (cC cT : Nat) (w : World) (hi : i < 9223372036854775808) (hC : Rd w A (strs C)) (hT : Rd w B (strs T)) (h1 : C.length ≤ cC) (h2 : cC ≤ maxLen) (h3 : T.length ≤ cT) (h4 : cT ≤ maxLen) :
    Calls Tryz.prog 22 #[.agg #[.int .i64 i, .slice A C.length cC, .slice B T.length cT]] w fun e w' => e = .returned (.tuple #[.string ⟨(encE i C T).1.toArray⟩, .int .i64 (encE i C T).2]) ∧ Below w.heap.size w w' := by
  obtain ⟨W, hW⟩ : ∃ W, w.alloc (.cells #[.int .i64 i, .slice A C.length cC, .slice B T.length cT] 34) = W := ⟨_, rfl⟩
  have b0 : Below w.heap.size w W := by rw [← hW]; exact (Below.refl _ w).alloc (Nat.le_refl _) _
  have bl : Blk W w.heap.size 34 #[.int .i64 i, .slice A C.length cC, .slice B T.length cT] := by rw [← hW]; exact Blk.new w _ _
  have k0 := bl.cell 0
  have k1 := bl.cell 1
  have k2 := bl.cell 2
  have kv := rvsig_spec i C T A B cC cT W (hC.below b0) (hT.below b0) h1 h2 h3 h4
  unfold encE
  cases ho : okB i C T with
  | false =>
    rw [ho] at kv
    rw [if_neg (by simp)]
    clear ho
    go_enter Tryz.func22, Tryz.ntmps22
    go_wp2_with fail
    refine kv.mono ?_
    rintro e w1 ⟨rfl, b1⟩
    go_wp2
    go_ret2
    exact ⟨rfl, b0.trans (b1.mono b0.size)⟩
  | true =>
    rw [ho] at kv
    rw [if_pos rfl]
    obtain ⟨c1, c2, c3, c4, c5⟩ : 0 ≤ i ∧ C.length = 67 ∧ T.length ≤ 6 ∧ vld C = true ∧ vld T = true := by
      unfold okB at ho
      by_cases c1 : 0 ≤ i
      · rw [if_pos c1] at ho
        by_cases c2 : C.length = 67
        · rw [if_pos c2] at ho
          by_cases c3 : T.length ≤ 6
          · rw [if_pos c3] at ho
            by_cases c4 : vld C = true
            · rw [if_pos c4] at ho; exact ⟨c1, c2, c3, c4, ho⟩
            · rw [if_neg c4] at ho; cases ho
          · rw [if_neg c3] at ho; cases ho
        · rw [if_neg c2] at ho; cases ho
      · rw [if_neg c1] at ho; cases ho
    obtain ⟨n, rfl⟩ : ∃ n : Nat, i = (n : Int) := ⟨i.toNat, by omega⟩
    unfold encS
    rw [Int.toNat_natCast]
    have kn := fun W' => number_ref n (by omega) W'
    have hbC := vld_body c4 (by omega)
    have hbT := vld_body c5 (by omega)
    have kC := fun (W' : World) (hh : Below W.heap.size W W') => texts_ref A C cC W' ((hC.below b0).below hh) (by omega) (by omega)
    have kT := fun (W' : World) (hh : Below W.heap.size W W') => texts_ref B T cT W' ((hT.below b0).below hh) (by omega) (by omega)
    have hU := Cd.uns_len n
    have hX : (Cd.texts C).length ≤ 1000000010 := by
      have := Cd.uns_len C.length
      unfold Cd.texts
      rw [List.length_append]
      omega
    have hY : (Cd.texts T).length ≤ 1000000010 := by
      have := Cd.uns_len T.length
      unfold Cd.texts
      rw [List.length_append]
      omega
    generalize Cd.uns n = U at kn hU ⊢
    generalize Cd.texts C = X at kC hX ⊢
    generalize Cd.texts T = Y at kT hY ⊢
    obtain ⟨f5, f6⟩ := sg_cat U X (by omega)
    obtain ⟨f7, f8⟩ := sg_cat (U ++ X) Y (by rw [List.length_append]; omega)
    have ha1 := bytes_append U X
    have ha2 := bytes_append (U ++ X) Y
    generalize U ++ X = V at ha1 ha2 f7 f8 ⊢
    generalize V ++ Y = Z at ha2 ⊢
    have hS : ∀ W', Below W.heap.size W W' → W'.cell? ⟨w.heap.size, 0, none⟩ = some (.int .i64 (n : Int)) ∧ W'.cell? ⟨w.heap.size, 1, none⟩ = some (.slice A C.length cC) ∧ W'.cell? ⟨w.heap.size, 2, none⟩ = some (.slice B T.length cT) := fun W' hh => ⟨below_cell hh k0, below_cell hh k1, below_cell hh k2⟩
    have HS := Lib.hid hS
    have HB := Lib.hid b0
    clear hS c1 c2 c3 c4 c5 hbC hbT bl b0 hC hT ho hi
    go_enter Tryz.func22, Tryz.ntmps22
    go_wp2_with fail
    refine kv.mono ?_
    rintro e w1 ⟨rfl, b1⟩
    have y0 := b1.drew
    clear kv k0 k1 k2
    go_wp2_with fail
    refine wp_region_noPanic ?_
    refine wp_region_held_drew (S := (fun w' => w'.cell? ⟨w.heap.size, 0, none⟩ = some (.int .i64 (n : Int)) ∧ w'.cell? ⟨w.heap.size, 1, none⟩ = some (.slice A C.length cC) ∧ w'.cell? ⟨w.heap.size, 2, none⟩ = some (.slice B T.length cT))) (by kernel_rfl) ?_ (fun hH0 => ?_)
    · (first
        | exact HS.out _ y0
        | exact HS.out _ yn
        | exact HS.out _ yC
        | exact HS.out _ yT
        | fail)
    refine wpAnyH_take (i := 0) (oi := ⟨some 7, _, _, _, _, _⟩) (v := ?_) rfl (by kernel_rfl) (by kernel_rfl) (by kernel_rfl) (fun _ _ _ h => h) (Or.inl ⟨by rfl, ?_⟩) hH0 ?_
    rotate_left 1
    · intro w hSw; (try dsimp only at hSw); go_simp; with_reducible rfl
    try simp only [Act.put, List.setIfInBounds_toArray, List.set_cons_zero, List.set_cons_succ]
    refine wpAnyH_take (i := 1) (oi := ⟨some 8, _, _, _, _, _⟩) (v := ?_) rfl (by kernel_rfl) (by kernel_rfl) (by kernel_rfl) (fun _ _ _ h => h) (Or.inl ⟨by rfl, ?_⟩) hH0 ?_
    rotate_left 1
    · intro w hSw; (try dsimp only at hSw); go_simp; with_reducible rfl
    try simp only [Act.put, List.setIfInBounds_toArray, List.set_cons_zero, List.set_cons_succ]
    refine wpAnyH_take (i := 3) (oi := ⟨some 10, _, _, _, _, _⟩) (v := ?_) rfl (by kernel_rfl) (by kernel_rfl) (by kernel_rfl) (fun _ _ _ h => h) (Or.inl ⟨by rfl, ?_⟩) hH0 ?_
    rotate_left 1
    · intro w hSw; (try dsimp only at hSw); go_simp; with_reducible rfl
    try simp only [Act.put, List.setIfInBounds_toArray, List.set_cons_zero, List.set_cons_succ]
    refine wpAnyH_take (i := 4) (oi := ⟨some 11, _, _, _, _, _⟩) (v := ?_) rfl (by kernel_rfl) (by kernel_rfl) (by kernel_rfl) (fun _ _ _ h => h) (Or.inl ⟨by rfl, ?_⟩) hH0 ?_
    rotate_left 1
    · intro w hSw; (try dsimp only at hSw); go_simp; with_reducible rfl
    try simp only [Act.put, List.setIfInBounds_toArray, List.set_cons_zero, List.set_cons_succ]
    refine wpAnyH_take (i := 7) (oi := ⟨some 14, _, _, _, _, _⟩) (v := ?_) rfl (by kernel_rfl) (by kernel_rfl) (by kernel_rfl) (fun _ _ _ h => h) (Or.inl ⟨by rfl, ?_⟩) hH0 ?_
    rotate_left 1
    · intro w hSw; (try dsimp only at hSw); go_simp; with_reducible rfl
    try simp only [Act.put, List.setIfInBounds_toArray, List.set_cons_zero, List.set_cons_succ]
    refine wpAnyH_take (i := 8) (oi := ⟨some 15, _, _, _, _, _⟩) (v := ?_) rfl (by kernel_rfl) (by kernel_rfl) (by kernel_rfl) (fun _ _ _ h => h) (Or.inl ⟨by rfl, ?_⟩) hH0 ?_
    rotate_left 1
    · intro w hSw; (try dsimp only at hSw); go_simp; with_reducible rfl
    try simp only [Act.put, List.setIfInBounds_toArray, List.set_cons_zero, List.set_cons_succ]
    refine wpAnyH_ready (rs := [2]) (by kernel_rfl) (by simp) ?_
    refine AllReadyH.cons (o := ⟨some 9, _, _, _, _, _⟩) rfl (fun K hK => ?_) AllReadyH.nil
    go_simp; (first
          | (with_reducible refine (kn _).mono ?_
             rintro e v1 ⟨rfl, b1⟩
             have yn := y0.trans (b1.mono y0.size))
          | (with_reducible refine (kC v1 yn).mono ?_
             rintro e v2 ⟨rfl, b2⟩
             have yC := yn.trans (b2.mono yn.size))
          | (with_reducible refine (kT v2 yC).mono ?_
             rintro e v3 ⟨rfl, b3⟩
             have yT := yC.trans (b3.mono yC.size))
          | fail); go_wp2_with fail
    refine hK.out _ _ ?_ (fun hH1 => ?_)
    · (first
        | exact HS.out _ y0
        | exact HS.out _ yn
        | exact HS.out _ yC
        | exact HS.out _ yT
        | fail)
    clear hK K hH0
    try simp only [Act.put, List.setIfInBounds_toArray, List.set_cons_zero, List.set_cons_succ]
    refine wpAnyH_ready (rs := [5]) (by kernel_rfl) (by simp) ?_
    refine AllReadyH.cons (o := ⟨some 12, _, _, _, _, _⟩) rfl (fun K hK => ?_) AllReadyH.nil
    go_simp; (first
          | (with_reducible refine (kn _).mono ?_
             rintro e v1 ⟨rfl, b1⟩
             have yn := y0.trans (b1.mono y0.size))
          | (with_reducible refine (kC v1 yn).mono ?_
             rintro e v2 ⟨rfl, b2⟩
             have yC := yn.trans (b2.mono yn.size))
          | (with_reducible refine (kT v2 yC).mono ?_
             rintro e v3 ⟨rfl, b3⟩
             have yT := yC.trans (b3.mono yC.size))
          | fail); go_wp2_with fail
    refine hK.out _ _ ?_ (fun hH2 => ?_)
    · (first
        | exact HS.out _ y0
        | exact HS.out _ yn
        | exact HS.out _ yC
        | exact HS.out _ yT
        | fail)
    clear hK K hH1
    try simp only [Act.put, List.setIfInBounds_toArray, List.set_cons_zero, List.set_cons_succ]
    refine wpAnyH_take (i := 6) (oi := ⟨some 13, _, _, _, _, _⟩) (v := ?_) rfl (by kernel_rfl) (by kernel_rfl) (by kernel_rfl) (fun _ _ _ h => h) (Or.inl ⟨by rfl, ?_⟩) hH2 ?_
    rotate_left 1
    · intro w hSw; (try dsimp only at hSw); go_simp; with_reducible rfl
    try simp only [Act.put, List.setIfInBounds_toArray, List.set_cons_zero, List.set_cons_succ]
    refine wpAnyH_ready (rs := [9]) (by kernel_rfl) (by simp) ?_
    refine AllReadyH.cons (o := ⟨some 16, _, _, _, _, _⟩) rfl (fun K hK => ?_) AllReadyH.nil
    go_simp; (first
          | (with_reducible refine (kn _).mono ?_
             rintro e v1 ⟨rfl, b1⟩
             have yn := y0.trans (b1.mono y0.size))
          | (with_reducible refine (kC v1 yn).mono ?_
             rintro e v2 ⟨rfl, b2⟩
             have yC := yn.trans (b2.mono yn.size))
          | (with_reducible refine (kT v2 yC).mono ?_
             rintro e v3 ⟨rfl, b3⟩
             have yT := yC.trans (b3.mono yC.size))
          | fail); go_wp2_with fail
    refine hK.out _ _ ?_ (fun hH3 => ?_)
    · (first
        | exact HS.out _ y0
        | exact HS.out _ yn
        | exact HS.out _ yC
        | exact HS.out _ yT
        | fail)
    clear hK K hH2
    try simp only [Act.put, List.setIfInBounds_toArray, List.set_cons_zero, List.set_cons_succ]
    refine wpAnyH_take (i := 10) (oi := ⟨some 17, _, _, _, _, _⟩) (v := ?_) rfl (by kernel_rfl) (by kernel_rfl) (by kernel_rfl) (fun _ _ _ h => h) (Or.inl ⟨by rfl, ?_⟩) hH3 ?_
    rotate_left 1
    · intro w hSw; (try dsimp only at hSw); go_simp; with_reducible rfl
    try simp only [Act.put, List.setIfInBounds_toArray, List.set_cons_zero, List.set_cons_succ]
    refine wpAnyH_take (i := 11) (oi := ⟨some 2, _, _, _, _, _⟩) (v := ?_) rfl (by kernel_rfl) (by kernel_rfl) (by kernel_rfl) (fun _ _ _ h => h) (Or.inl ⟨by rfl, ?_⟩) hH3 ?_
    rotate_left 1
    · intro w hSw; (try dsimp only at hSw); go_simp; with_reducible rfl
    try simp only [Act.put, List.setIfInBounds_toArray, List.set_cons_zero, List.set_cons_succ]
    refine wpAnyH_take (i := 12) (oi := ⟨some 3, _, _, _, _, _⟩) (v := ?_) rfl (by kernel_rfl) (by kernel_rfl) (by kernel_rfl) (fun _ _ _ h => h) (Or.inl ⟨by rfl, ?_⟩) hH3 ?_
    rotate_left 1
    · intro w hSw; (try dsimp only at hSw); go_simp; with_reducible rfl
    try simp only [Act.put, List.setIfInBounds_toArray, List.set_cons_zero, List.set_cons_succ]
    refine wpAnyH_done (by kernel_rfl) ?_ _
    all_goals (refine NoPanic.normal ?_)
    all_goals
      go_wp2
      go_ret2
      exact ⟨rfl, HB.out.trans (yT.mono HB.out.size)⟩
def samB (i : Int) (C T : List Sg.Str) (j : Int) (D U : List Sg.Str) : Bool := if i = j then (if C = D then decide (T = U) else false) else false
set_option maxRecDepth 20000 in
set_option maxHeartbeats 4000000 in
theorem rsame_spec (i : Int) (C T : List Sg.Str) (A B : Option Addr) (cC cT : Nat) (j : Int) (D U : List Sg.Str) (A' B' : Option Addr) (cD cU : Nat) (w : World) (hC : Rd w A (strs C)) (hT : Rd w B (strs T)) (hD : Rd w A' (strs D)) (hU : Rd w B' (strs U)) (h1 : C.length ≤ maxLen) (h2 : T.length ≤ maxLen) (h3 : D.length ≤ maxLen) (h4 : U.length ≤ maxLen) :
    Calls Tryz.prog 17 #[.agg #[.int .i64 i, .slice A C.length cC, .slice B T.length cT], .agg #[.int .i64 j, .slice A' D.length cD, .slice B' U.length cU]] w fun e w' => e = .returned (.bool (samB i C T j D U)) ∧ Below w.heap.size w w' := by
  obtain ⟨W0, hW0⟩ : ∃ W0, w.alloc (.cells #[.int .i64 i, .slice A C.length cC, .slice B T.length cT] 34) = W0 := ⟨_, rfl⟩
  have hs0 : W0.heap.size = w.heap.size + 1 := by rw [← hW0]; simp
  obtain ⟨W, hW⟩ : ∃ W, W0.alloc (.cells #[.int .i64 j, .slice A' D.length cD, .slice B' U.length cU] 34) = W := ⟨_, rfl⟩
  have b0 : Below w.heap.size w W := by rw [← hW, ← hW0]; exact ((Below.refl _ w).alloc (Nat.le_refl _) _).alloc (by simp) _
  have bk : Blk W w.heap.size 34 #[.int .i64 i, .slice A C.length cC, .slice B T.length cT] := by rw [← hW, ← hW0]; exact (Blk.new w _ _).alloc _
  have br : Blk W (w.heap.size + 1) 34 #[.int .i64 j, .slice A' D.length cD, .slice B' U.length cU] := by rw [← hW, ← hs0]; exact Blk.new W0 _ _
  have hm : maxLen ≤ 9223372036854775807 := by decide
  have kc := samestr_spec A A' C D cC cD W (hC.below b0) (hD.below b0) (Nat.le_trans h1 hm) (Nat.le_trans h3 hm)
  have kt := fun n => samestr_spec B B' T U cT cU (W.drewN n) ((hT.below b0).below (belowN (Below.refl _ _) n)) ((hU.below b0).below (belowN (Below.refl _ _) n)) (Nat.le_trans h2 hm) (Nat.le_trans h4 hm)
  have c0 := bk.cell 0
  have c1 := bk.cell 1
  have c2 := bk.cell 2
  have d0 := br.cell 0
  have d1 := br.cell 1
  have d2 := br.cell 2
  have hcn : ∀ n, (W.drewN n).cell? ⟨w.heap.size, 2, none⟩ = some (.slice B T.length cT) ∧ (W.drewN n).cell? ⟨w.heap.size + 1, 2, none⟩ = some (.slice B' U.length cU) := fun n => ⟨c2, d2⟩
  have HB := Lib.hid (And.intro b0 hcn)
  clear b0 bk br hC hT hD hU hcn h1 h2 h3 h4
  unfold samB
  by_cases e1 : i = j
  · subst e1
    rw [if_pos rfl]
    by_cases e2 : C = D
    · rw [if_pos e2]
      have e2' : decide (C = D) = true := decide_eq_true e2
      rw [e2'] at kc
      generalize decide (T = U) = q at kt ⊢
      clear e2 e2'
      go_enter Tryz.func17, Tryz.ntmps17
      go_wp2_with fail
      refine kc.mono ?_
      rintro e w1 ⟨rfl, n, rfl⟩
      obtain ⟨x1, x2⟩ := HB.out.2 n
      clear kc c0 c1 c2 d0 d1 d2
      go_wp2_with fail
      refine (kt n).mono ?_
      rintro e w2 ⟨rfl, m, rfl⟩
      go_wp2
      go_ret
      exact ⟨rfl, belowN HB.out.1 _⟩
    · rw [if_neg e2]
      have e2' : decide (C = D) = false := decide_eq_false e2
      rw [e2'] at kc
      clear e2 e2' kt
      go_enter Tryz.func17, Tryz.ntmps17
      go_wp2_with fail
      refine kc.mono ?_
      rintro e w1 ⟨rfl, n, rfl⟩
      go_wp2
      go_ret
      exact ⟨rfl, belowN HB.out.1 n⟩
  · rw [if_neg e1]
    have e1' : (i == j) = false := by rw [beq_eq_false_iff_ne]; exact e1
    clear kc kt
    go_enter Tryz.func17, Tryz.ntmps17
    go_wp2
    go_ret
    exact ⟨rfl, HB.out.1⟩
theorem results_ctt {P : Program} {fn : Func} {p u v : Tmp} {ty : TypeId} (h : fn.results = #[.cell p ty, .tmp u, .tmp v]) (tmps : Array Value) (w : World) (g : Nat) (t : TypeId) (cs : Array Value) (fr : Nat × Nat) (d : TypeDesc)
    (hp : tmps.getD p undef = .pointer (some ⟨g, 0, none⟩)) (hg : w.heap[g]? = some (.cells cs t fr)) (hu : P.underlying ty = some d) (hd : (match d with | .struct _ | .array _ _ => true | _ => false) = true) (hi : (P.info? ty).map (·.size) = some cs.size) :
    (results fn tmps).run P w = .ok (.tuple #[.agg cs, tmps.getD u undef, tmps.getD v undef]) w := by
  have hp' : tmps[p]?.getD undef = .pointer (some ⟨g, 0, none⟩) := by simpa using hp
  simp [results, h, hp', asAddr, run_loadVar_row w g t ty cs fr d hg hu hd hi]
def sgRd (s : Sg.Str) (at_ : Nat) : Option (Nat × List Sg.Str × List Sg.Str × Nat) :=
  match Cd.readUint s at_ with
  | none => none
  | some (i, a1) => match Cd.readTexts s a1 with
    | none => none
    | some (C, a2) => match Cd.readTexts s a2 with
      | none => none
      | some (T, a3) => if okB i C T = true then some (i, C, T, a3) else none
def RdP (o : Option (Nat × List Sg.Str × List Sg.Str × Nat)) (w : World) (e : Ending) (w' : World) : Prop :=
  match o with
  | some (i, C, T, a) => ∃ x y, e = .returned (.tuple #[.agg #[.int .i64 (i : Int), x, y], .int .i64 (a : Int), .bool true]) ∧ St w.heap.size w w' [ownR 9 1 x C.length (strs C), ownR 9 1 y T.length (strs T)]
  | none => e = .returned (.tuple #[.agg #[.int .i64 0, .slice none 0 0, .slice none 0 0], .int .i64 0, .bool false]) ∧ Below w.heap.size w w'
set_option maxRecDepth 20000 in
set_option maxHeartbeats 4000000 in
theorem sgread_spec (s : Sg.Str) (at_ : Nat) (w : World) (hs : s.length ≤ 1099511627776) (ha : at_ ≤ s.length) :
    Calls Tryz.prog 65 #[.string ⟨s.toArray⟩, .int .i64 (at_ : Int)] w (RdP (sgRd s at_) w) := by
  have h0 := (St.nil w).alloc 34 #[.int .i64 0, .slice none 0 0, .slice none 0 0]
  obtain ⟨W, hW⟩ : ∃ W, w.alloc (.cells #[.int .i64 0, .slice none 0 0, .slice none 0 0] 34) = W := ⟨_, rfl⟩
  rw [hW] at h0
  have ku := readUint_ref s at_ W hs ha
  unfold sgRd
  have hcl : ∀ W' Rs, St w.heap.size w W' (cellsR w.heap.size 34 #[.int .i64 0, .slice none 0 0, .slice none 0 0] :: Rs) → (W'.cell? ⟨w.heap.size, 0, none⟩ = some (.int .i64 0) ∧ W'.cell? ⟨w.heap.size, 1, none⟩ = some (.slice none 0 0) ∧ W'.cell? ⟨w.heap.size, 2, none⟩ = some (.slice none 0 0)) ∧ W'.frozen? ⟨w.heap.size, 0, none⟩ = false ∧ W'.frozen? ⟨w.heap.size, 1, none⟩ = false ∧ W'.frozen? ⟨w.heap.size, 2, none⟩ = false := fun W' Rs h => ⟨⟨h.blk.cell 0, h.blk.cell 1, h.blk.cell 2⟩, h.blk.frozen 0, h.blk.frozen 1, h.blk.frozen 2⟩
  have HC := Lib.hid hcl
  clear hcl
  have H0 := Lib.hid h0
  cases h1 : Cd.readUint s at_ with
  | none =>
    rw [h1] at ku
    obtain ⟨⟨d0, d1, d2⟩, e0, e1, e2⟩ := HC.out _ _ h0
    clear h0 h1
    go_enter Tryz.func65, Tryz.ntmps65
    go_wp2_with fail
    refine ku.mono ?_
    rintro e w1 ⟨rfl, rfl⟩
    go_wp2
    refine bodyPost_ret (results_ctt rfl _ _ _ _ _ _ _ rfl (((H0.out.blk.set_ 0 _).set_ 1 _).set_ 2 _) Tryz.underlying34 rfl size_sig) rfl ?_
    exact ⟨rfl, (((H0.out.set_ 0 _).set_ 1 _).set_ 2 _).below⟩
  | some p =>
    obtain ⟨i, a1⟩ := p
    rw [h1] at ku
    have hle1 := Cd.readUint_le h1 ha
    have kc := readTexts_ref s a1 W hs hle1.2.1
    dsimp only
    cases h2 : Cd.readTexts s a1 with
    | none =>
      rw [h2] at kc
      clear h0 h1 h2
      go_enter Tryz.func65, Tryz.ntmps65
      go_wp2_with fail
      refine ku.mono ?_
      rintro e w1 ⟨rfl, rfl⟩
      go_wp2_with fail
      refine kc.mono ?_
      rintro e w2 ⟨rfl, b2⟩
      have h3 := H0.out.under b2
      obtain ⟨⟨d0, d1, d2⟩, e0, e1, e2⟩ := HC.out _ _ h3
      have H3 := Lib.hid h3
      clear h3 b2
      go_wp2
      refine bodyPost_ret (results_ctt rfl _ _ _ _ _ _ _ rfl (((H3.out.blk.set_ 0 _).set_ 1 _).set_ 2 _) Tryz.underlying34 rfl size_sig) rfl ?_
      exact ⟨rfl, (((H3.out.set_ 0 _).set_ 1 _).set_ 2 _).below⟩
    | some p =>
      obtain ⟨C, a2⟩ := p
      rw [h2] at kc
      have hle2 := Cd.readTexts_le h2 hle1.2.1
      have kt := fun W' => readTexts_ref s a2 W' hs hle2
      dsimp only
      cases h3 : Cd.readTexts s a2 with
      | none =>
        rw [h3] at kt
        clear h0 h1 h2 h3
        go_enter Tryz.func65, Tryz.ntmps65
        go_wp2_with fail
        refine ku.mono ?_
        rintro e w1 ⟨rfl, rfl⟩
        go_wp2_with fail
        refine kc.mono ?_
        rintro e w2 ⟨⟨v1, rfl, o1⟩, b2⟩
        have h3 := H0.out.under b2
        go_wp2_with fail
        refine (kt _).mono ?_
        rintro e w3 ⟨rfl, b3⟩
        have h4 := h3.under b3
        obtain ⟨⟨d0, d1, d2⟩, e0, e1, e2⟩ := HC.out _ _ h4
        have H4 := Lib.hid h4
        clear h3 h4 b2 b3 o1 ku kc kt
        go_wp2
        refine bodyPost_ret (results_ctt rfl _ _ _ _ _ _ _ rfl (((H4.out.blk.set_ 0 _).set_ 1 _).set_ 2 _) Tryz.underlying34 rfl size_sig) rfl ?_
        exact ⟨rfl, (((H4.out.set_ 0 _).set_ 1 _).set_ 2 _).below⟩
      | some p =>
        obtain ⟨T, a3⟩ := p
        rw [h3] at kt
        dsimp only
        have hi := hle1.2.2
        have kv := fun (A B : Option Addr) (a b : Nat) (W : World) (hC : Rd W A (strs C)) (hT : Rd W B (strs T)) (h1 : C.length ≤ a) (h2 : a ≤ maxLen) (h3 : T.length ≤ b) (h4 : b ≤ maxLen) => rvsig_spec (i : Int) C T A B a b W hC hT h1 h2 h3 h4
        obtain ⟨ok, hok⟩ : ∃ ok, okB (i : Int) C T = ok := ⟨_, rfl⟩
        rw [hok] at kv ⊢
        clear h0 h1 h2 h3 hok
        cases ok
        all_goals simp only [Bool.false_eq_true, if_false, if_true]
        all_goals
          go_enter Tryz.func65, Tryz.ntmps65
          go_wp2_with fail
          refine ku.mono ?_
          rintro e w1 ⟨rfl, rfl⟩
          go_wp2_with fail
          refine kc.mono ?_
          rintro e w2 ⟨⟨v1, rfl, o1⟩, b2⟩
          have h3 := H0.out.new_own b2 o1
          obtain ⟨A1, n1, rfl, q1, q2⟩ := own_form h3.own
          go_wp2_with fail
          refine (kt _).mono ?_
          rintro e w3 ⟨⟨v2, rfl, o2⟩, b3⟩
          have h4 := h3.new_own b3 o2
          obtain ⟨A2, n2, rfl, q3, q4⟩ := own_form h4.own
          have h5 := h4.alloc 34 #[.int .i64 (i : Int), .slice A1 C.length n1, .slice A2 T.length n2]
          go_wp2_with fail
          refine (kv A1 A2 n1 n2 _ (Rd.of_own h5.tail.tail.own) (Rd.of_own h5.tail.own) q1 q2 q3 q4).mono ?_
          rintro e w4 ⟨rfl, b4⟩
          have h6 := h5.under b4
          obtain ⟨o, ho⟩ : ∃ o, w3.heap.size = o := ⟨_, rfl⟩
          rw [ho] at h6 ⊢
          obtain ⟨⟨d0, d1, d2⟩, e0, e1, e2⟩ := HC.out _ _ (h6.pick [3] (by decide) (by simp))
          have c0 : w4.cell? ⟨o, 0, none⟩ = some (.int .i64 (i : Int)) := h6.blk.cell 0
          have c1 : w4.cell? ⟨o, 1, none⟩ = some (.slice A1 C.length n1) := h6.blk.cell 1
          have c2 : w4.cell? ⟨o, 2, none⟩ = some (.slice A2 T.length n2) := h6.blk.cell 2
          have H6 := Lib.hid (h6.pick [3, 2, 1] (by decide) (by simp))
          clear h3 h4 h5 h6 b2 b3 b4 o1 o2 ku kc kt kv
          go_wp2
          refine bodyPost_ret (results_ctt rfl _ _ _ _ _ _ _ rfl (((H6.out.blk.set_ 0 _).set_ 1 _).set_ 2 _) Tryz.underlying34 rfl size_sig) rfl ?_
          first
            | exact ⟨_, _, rfl, (((H6.out.set_ 0 _).set_ 1 _).set_ 2 _).tail⟩
            | exact ⟨rfl, (((H6.out.set_ 0 _).set_ 1 _).set_ 2 _).below⟩
def rdcR (s : Sg.Str) : (Int × List Sg.Str × List Sg.Str) × Int :=
  match sgRd s 0 with
  | some (i, C, T, a) => if a = s.length then (((i : Int), C, T), 0) else ((0, [], []), 9)
  | none => ((0, [], []), 9)
theorem sgRd_le {s : Sg.Str} {at_ i a : Nat} {C T : List Sg.Str} (h : sgRd s at_ = some (i, C, T, a)) (ha : at_ ≤ s.length) : a ≤ s.length := by
  unfold sgRd at h
  cases h1 : Cd.readUint s at_ with
  | none => rw [h1] at h; cases h
  | some p =>
    obtain ⟨j, a1⟩ := p
    rw [h1] at h
    dsimp only at h
    cases h2 : Cd.readTexts s a1 with
    | none => rw [h2] at h; cases h
    | some p =>
      obtain ⟨C', a2⟩ := p
      rw [h2] at h
      dsimp only at h
      cases h3 : Cd.readTexts s a2 with
      | none => rw [h3] at h; cases h
      | some p =>
        obtain ⟨T', a3⟩ := p
        rw [h3] at h
        dsimp only at h
        split at h
        · cases h
          exact Cd.readTexts_le h3 (Cd.readTexts_le h2 (Cd.readUint_le h1 ha).2.1)
        · cases h
theorem textsR_err (s : Sg.Str) (a : Nat) : textsR s a 9 = ([], a, 9) := by unfold textsR; rw [if_pos (by decide)]
theorem endR_err (s : Sg.Str) (a : Nat) : endR s a 9 = 9 := by unfold endR; rw [if_neg (fun h => absurd h.1 (by decide))]
/-- both ways of reading agree -/
theorem rdcR_eq (s : Sg.Str) : rdcR s = decR s := by
  unfold rdcR decR sgRd
  cases h1 : Cd.readUint s 0 with
  | none =>
    have e1 : uintR s 0 0 = (0, 0, 9) := by unfold uintR; rw [if_neg (by simp), h1]
    simp only [e1, textsR_err, endR_err]
    rw [if_neg (by decide)]
  | some p =>
    obtain ⟨j, a1⟩ := p
    have e1 : uintR s 0 0 = ((j : Int), a1, 0) := by unfold uintR; rw [if_neg (by simp), h1]
    simp only [e1]
    cases h2 : Cd.readTexts s a1 with
    | none =>
      have e2 : textsR s a1 0 = ([], a1, 9) := by unfold textsR; rw [if_neg (by simp), h2]
      simp only [e2, textsR_err, endR_err]
      rw [if_neg (by decide)]
    | some p =>
      obtain ⟨C, a2⟩ := p
      have e2 : textsR s a1 0 = (C, a2, 0) := by unfold textsR; rw [if_neg (by simp), h2]
      simp only [e2]
      cases h3 : Cd.readTexts s a2 with
      | none =>
        have e3 : textsR s a2 0 = ([], a2, 9) := by unfold textsR; rw [if_neg (by simp), h3]
        simp only [e3, endR_err]
        rw [if_neg (by decide)]
      | some p =>
        obtain ⟨T, a3⟩ := p
        have e3 : textsR s a2 0 = (T, a3, 0) := by unfold textsR; rw [if_neg (by simp), h3]
        have hl : a3 ≤ s.length := Cd.readTexts_le h3 (Cd.readTexts_le h2 (Cd.readUint_le h1 (Nat.zero_le _)).2.1)
        simp only [e3]
        unfold endR
        by_cases ha : a3 = s.length
        · rw [if_neg (c := (0 : Int) = 0 ∧ a3 < s.length) (fun h => by omega), if_pos rfl]
          cases okB (j : Int) C T
          · rfl
          · simp only [if_true]
            rw [if_pos ha]
        · rw [if_pos (c := (0 : Int) = 0 ∧ a3 < s.length) ⟨rfl, by omega⟩]
          cases okB (j : Int) C T <;> simp [ha]
set_option maxRecDepth 20000 in
set_option maxHeartbeats 4000000 in
theorem rdecode_spec (s : Sg.Str) (w : World) (hs : s.length ≤ 1099511627776) :
    Calls Tryz.prog 24 #[.string ⟨s.toArray⟩] w (DcP (decR s) w) := by
  have h0 := (St.nil w).alloc 34 #[.int .i64 0, .slice none 0 0, .slice none 0 0]
  obtain ⟨W, hW⟩ : ∃ W, w.alloc (.cells #[.int .i64 0, .slice none 0 0, .slice none 0 0] 34) = W := ⟨_, rfl⟩
  rw [hW] at h0
  have kr := sgread_spec s 0 W hs (Nat.zero_le _)
  have hp := bytes_size s
  rw [← rdcR_eq]
  unfold rdcR
  have hcl : ∀ W' Rs, St w.heap.size w W' (cellsR w.heap.size 34 #[.int .i64 0, .slice none 0 0, .slice none 0 0] :: Rs) → (W'.cell? ⟨w.heap.size, 0, none⟩ = some (.int .i64 0) ∧ W'.cell? ⟨w.heap.size, 1, none⟩ = some (.slice none 0 0) ∧ W'.cell? ⟨w.heap.size, 2, none⟩ = some (.slice none 0 0)) ∧ W'.frozen? ⟨w.heap.size, 0, none⟩ = false ∧ W'.frozen? ⟨w.heap.size, 1, none⟩ = false ∧ W'.frozen? ⟨w.heap.size, 2, none⟩ = false := fun W' Rs h => ⟨⟨h.blk.cell 0, h.blk.cell 1, h.blk.cell 2⟩, h.blk.frozen 0, h.blk.frozen 1, h.blk.frozen 2⟩
  have HC := Lib.hid hcl
  clear hcl
  cases h1 : sgRd s 0 with
  | none =>
    rw [h1] at kr
    have H0 := Lib.hid h0
    clear h0 h1
    go_enter Tryz.func24, Tryz.ntmps24
    go_wp2_with fail
    refine kr.mono ?_
    rintro e w1 ⟨rfl, b1⟩
    have h2 := H0.out.under b1
    obtain ⟨⟨d0, d1, d2⟩, e0, e1, e2⟩ := HC.out _ _ h2
    obtain ⟨⟨d0', d1', d2'⟩, e0', e1', e2'⟩ := HC.out _ _ (h2.alloc0 (.cells #[.int .i64 0, .slice none 0 0, .slice none 0 0] 34))
    have H2 := Lib.hid (h2.alloc0 (.cells #[.int .i64 0, .slice none 0 0, .slice none 0 0] 34))
    clear h2 b1 kr
    go_wp2
    refine bodyPost_ret (results_ct rfl _ _ _ _ _ _ _ rfl (((H2.out.blk.set_ 0 _).set_ 1 _).set_ 2 _) Tryz.underlying34 rfl size_sig) rfl ?_
    exact ⟨_, _, rfl, ((((((H2.out.set_ 0 _).set_ 1 _).set_ 2 _).tail).new_own (Below.refl _ _) (World.ownsRow_nil _ _ _ _)).new_own (Below.refl _ _) (World.ownsRow_nil _ _ _ _))⟩
  | some p =>
    obtain ⟨i, C, T, a⟩ := p
    rw [h1] at kr
    dsimp only
    have hle := sgRd_le h1 (Nat.zero_le _)
    have H0 := Lib.hid h0
    clear h0 h1
    by_cases ha : a = s.length
    all_goals first | rw [if_pos ha] | rw [if_neg ha]
    all_goals
      have ha' : ((a : Int) = (s.length : Int)) ↔ a = s.length := by omega
      go_enter Tryz.func24, Tryz.ntmps24
      go_wp2_with fail
      refine kr.mono ?_
      rintro e w1 ⟨x, y, rfl, t1⟩
      obtain ⟨A1, n1, rfl, q1, q2⟩ := own_form t1.own
      obtain ⟨A2, n2, rfl, q3, q4⟩ := own_form t1.tail.own
      have h2 := H0.out.join t1
      obtain ⟨⟨d0, d1, d2⟩, e0, e1, e2⟩ := HC.out _ _ (h2.pick [2] (by decide) (by simp))
      have h3 := h2.alloc 34 #[.int .i64 (i : Int), .slice A1 C.length n1, .slice A2 T.length n2]
      obtain ⟨⟨d0', d1', d2'⟩, e0', e1', e2'⟩ := HC.out _ _ (h3.pick [3] (by decide) (by simp))
      have H2 := Lib.hid (h3.pick [3, 1, 2] (by decide) (by simp))
      clear h2 h3 t1 kr
      go_wp2
      refine bodyPost_ret (results_ct rfl _ _ _ _ _ _ _ rfl (((H2.out.blk.set_ 0 _).set_ 1 _).set_ 2 _) Tryz.underlying34 rfl size_sig) rfl ?_
      first
        | exact ⟨_, _, rfl, (((H2.out.set_ 0 _).set_ 1 _).set_ 2 _).tail⟩
        | exact ⟨_, _, rfl, ((((((H2.out.set_ 0 _).set_ 1 _).set_ 2 _).tail.tail.tail).new_own (Below.refl _ _) (World.ownsRow_nil _ _ _ _)).new_own (Below.refl _ _) (World.ownsRow_nil _ _ _ _))⟩
end Go.Proofs.YtnlpakalcckaiaaGreat
