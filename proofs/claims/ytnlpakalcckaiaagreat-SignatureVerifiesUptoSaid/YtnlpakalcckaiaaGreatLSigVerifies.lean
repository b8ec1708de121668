/-
  SignatureVerifies: the walk. Conditions: signatures of bulk at most 2^40.
-/
import Derived.Test.YtnlpakalcckaiaaGreatSgX
import Derived.Test.YtnlpakalcckaiaaGreatSgS
namespace Go.Proofs.YtnlpakalcckaiaaGreat
set_option linter.unusedVariables false
open Go.RowKit Go.Shelf
attribute [local go_sem] Oper.semAt_some

set_option maxRecDepth 20000 in
set_option maxHeartbeats 4000000 in
theorem sigVerifies_walk (pub msg : Sg.Str) (i : Int) (C T : List Sg.Str) (A B : Option Addr) (cC cT : Nat) (w : World) (hC : Rd w A (strs C)) (hT : Rd w B (strs T)) (hnA : A = none → C.length = 0 ∧ cC = 0) (hnB : B = none → T.length = 0 ∧ cT = 0) (h1 : C.length ≤ cC) (h2 : cC ≤ maxLen) (h3 : T.length ≤ cT) (h4 : cT ≤ maxLen) (hw : weight C + weight T ≤ 1099511627776) :
    Calls Tryz.prog 5 #[.string ⟨pub.toArray⟩, .string ⟨msg.toArray⟩, .agg #[.int .i64 i, .slice A C.length cC, .slice B T.length cT]] w fun e w' => e = .returned (.bool true) ∧ Below w.heap.size w w' := by
  have hz := bytes_size pub
  have hzm := bytes_size msg
  obtain ⟨W, hW⟩ : ∃ W, w.alloc (.cells #[.int .i64 i, .slice A C.length cC, .slice B T.length cT] 34) = W := ⟨_, rfl⟩
  have b0 : Below w.heap.size w W := by rw [← hW]; exact (Below.refl _ w).alloc (Nat.le_refl _) _
  have bl : Blk W w.heap.size 34 #[.int .i64 i, .slice A C.length cC, .slice B T.length cT] := by rw [← hW]; exact Blk.new w _ _
  by_cases l1 : pub.length ≤ 200
  · have l1' : ¬ ((200 : Int) < (pub.length : Int)) := by omega
    by_cases l2 : msg.length ≤ 200
    · have l2' : ¬ ((200 : Int) < (msg.length : Int)) := by omega
      have kF := fun (W' : World) (hb : Below W.heap.size W W') => rfew_spec i C T A B cC cT W' ((hC.below b0).below hb) ((hT.below b0).below hb) hnA hnB h1 h2 h3 h4 hw
      have kV := fun (W' : World) (hb : Below W.heap.size W W') => verify_spec pub msg i C T A B cC cT W' (Nat.le_trans l2 (by decide)) ((hC.below b0).below hb) ((hT.below b0).below hb) h1 h2 h3 h4
      have rV := fun (W' : World) (hb : Below W.heap.size W W') => rverify_spec pub msg i C T A B cC cT W' (Nat.le_trans l2 (by decide)) ((hC.below b0).below hb) ((hT.below b0).below hb) h1 h2 h3 h4
      generalize verB pub (Sg.dgs msg) i C T = q at kV rV
      generalize fewS C T = p at kF
      have hS : ∀ W', Below W.heap.size W W' → W'.cell? ⟨w.heap.size, 0, none⟩ = some (.int .i64 i) ∧ W'.cell? ⟨w.heap.size, 1, none⟩ = some (.slice A C.length cC) ∧ W'.cell? ⟨w.heap.size, 2, none⟩ = some (.slice B T.length cT) := fun W' h => ⟨below_cell h (bl.cell 0), below_cell h (bl.cell 1), below_cell h (bl.cell 2)⟩
      have HS := Lib.hid hS
      have HB := Lib.hid b0
      clear hS bl b0 hC hT hw hnA hnB l1 l2
      cases p
      · go_enter Tryz.func5, Tryz.ntmps5
        go_wp2_with fail
        refine (awake_sg _).mono ?_
        rintro e w1 ⟨rfl, b1⟩
        obtain ⟨c0, c1, c2⟩ := HS.out _ b1
        go_wp2_with fail
        refine (kF _ b1).mono ?_
        rintro e w2 ⟨rfl, b2⟩
        go_wp2
        go_ret
        exact ⟨rfl, HB.out.trans ((b1.trans (b2.mono b1.size)).mono HB.out.size)⟩
      · go_enter Tryz.func5, Tryz.ntmps5
        go_wp2_with fail
        refine (awake_sg _).mono ?_
        rintro e w1 ⟨rfl, b1⟩
        obtain ⟨c0, c1, c2⟩ := HS.out _ b1
        go_wp2_with fail
        refine (kF _ b1).mono ?_
        rintro e w2 ⟨rfl, b2⟩
        have y0 := (b1.trans (b2.mono b1.size)).drew
        clear c0 c1 c2
        go_wp2_with fail
        refine wp_region_noPanic ?_
        refine wp_region_held_drew (S := (fun w' => w'.cell? ⟨w.heap.size, 0, none⟩ = some (.int .i64 i) ∧ w'.cell? ⟨w.heap.size, 1, none⟩ = some (.slice A C.length cC) ∧ w'.cell? ⟨w.heap.size, 2, none⟩ = some (.slice B T.length cT))) (by kernel_rfl) ?_ (fun hH0 => ?_)
        · (first
            | exact HS.out _ y0
            | exact HS.out _ y1
            | exact HS.out _ y2
            | fail)
        refine wpAnyH_take (i := 0) (oi := ⟨some 22, _, _, _, _, _⟩) (v := ?_) rfl (by kernel_rfl) (by kernel_rfl) (by kernel_rfl) (fun _ _ _ h => h) (Or.inl ⟨by rfl, ?_⟩) hH0 ?_
        rotate_left 1
        · intro w hSw; (try dsimp only at hSw); go_simp; with_reducible rfl
        try simp only [Act.put, List.setIfInBounds_toArray, List.set_cons_zero, List.set_cons_succ]
        refine wpAnyH_take (i := 1) (oi := ⟨some 23, _, _, _, _, _⟩) (v := ?_) rfl (by kernel_rfl) (by kernel_rfl) (by kernel_rfl) (fun _ _ _ h => h) (Or.inl ⟨by rfl, ?_⟩) hH0 ?_
        rotate_left 1
        · intro w hSw; (try dsimp only at hSw); go_simp; with_reducible rfl
        try simp only [Act.put, List.setIfInBounds_toArray, List.set_cons_zero, List.set_cons_succ]
        refine wpAnyH_take (i := 2) (oi := ⟨some 24, _, _, _, _, _⟩) (v := ?_) rfl (by kernel_rfl) (by kernel_rfl) (by kernel_rfl) (fun _ _ _ h => h) (Or.inl ⟨by rfl, ?_⟩) hH0 ?_
        rotate_left 1
        · intro w hSw; (try dsimp only at hSw); go_simp; with_reducible rfl
        try simp only [Act.put, List.setIfInBounds_toArray, List.set_cons_zero, List.set_cons_succ]
        refine wpAnyH_take (i := 4) (oi := ⟨some 26, _, _, _, _, _⟩) (v := ?_) rfl (by kernel_rfl) (by kernel_rfl) (by kernel_rfl) (fun _ _ _ h => h) (Or.inl ⟨by rfl, ?_⟩) hH0 ?_
        rotate_left 1
        · intro w hSw; (try dsimp only at hSw); go_simp; with_reducible rfl
        try simp only [Act.put, List.setIfInBounds_toArray, List.set_cons_zero, List.set_cons_succ]
        refine wpAnyH_take (i := 5) (oi := ⟨some 27, _, _, _, _, _⟩) (v := ?_) rfl (by kernel_rfl) (by kernel_rfl) (by kernel_rfl) (fun _ _ _ h => h) (Or.inl ⟨by rfl, ?_⟩) hH0 ?_
        rotate_left 1
        · intro w hSw; (try dsimp only at hSw); go_simp; with_reducible rfl
        try simp only [Act.put, List.setIfInBounds_toArray, List.set_cons_zero, List.set_cons_succ]
        refine wpAnyH_take (i := 6) (oi := ⟨some 28, _, _, _, _, _⟩) (v := ?_) rfl (by kernel_rfl) (by kernel_rfl) (by kernel_rfl) (fun _ _ _ h => h) (Or.inl ⟨by rfl, ?_⟩) hH0 ?_
        rotate_left 1
        · intro w hSw; (try dsimp only at hSw); go_simp; with_reducible rfl
        try simp only [Act.put, List.setIfInBounds_toArray, List.set_cons_zero, List.set_cons_succ]
        refine wpAnyH_ready (rs := [3]) (by kernel_rfl) (by simp) ?_
        refine AllReadyH.cons (o := ⟨some 25, _, _, _, _, _⟩) rfl (fun K hK => ?_) AllReadyH.nil
        go_simp; (first
              | (with_reducible refine (kV _ y0).mono ?_
                 rintro e v1 ⟨rfl, b3⟩
                 have y1 := y0.trans (b3.mono y0.size))
              | (with_reducible refine (rV _ y1).mono ?_
                 rintro e v2 ⟨rfl, b4⟩
                 have y2 := y1.trans (b4.mono y1.size))
              | fail); go_wp2_with fail
        refine hK.out _ _ ?_ (fun hH1 => ?_)
        · (first
            | exact HS.out _ y0
            | exact HS.out _ y1
            | exact HS.out _ y2
            | fail)
        clear hK K hH0
        try simp only [Act.put, List.setIfInBounds_toArray, List.set_cons_zero, List.set_cons_succ]
        refine wpAnyH_ready (rs := [7]) (by kernel_rfl) (by simp) ?_
        refine AllReadyH.cons (o := ⟨some 29, _, _, _, _, _⟩) rfl (fun K hK => ?_) AllReadyH.nil
        go_simp; (first
              | (with_reducible refine (kV _ y0).mono ?_
                 rintro e v1 ⟨rfl, b3⟩
                 have y1 := y0.trans (b3.mono y0.size))
              | (with_reducible refine (rV _ y1).mono ?_
                 rintro e v2 ⟨rfl, b4⟩
                 have y2 := y1.trans (b4.mono y1.size))
              | fail); go_wp2_with fail
        refine hK.out _ _ ?_ (fun hH2 => ?_)
        · (first
            | exact HS.out _ y0
            | exact HS.out _ y1
            | exact HS.out _ y2
            | fail)
        clear hK K hH1
        try simp only [Act.put, List.setIfInBounds_toArray, List.set_cons_zero, List.set_cons_succ]
        refine wpAnyH_take (i := 8) (oi := ⟨some 30, _, _, _, _, _⟩) (v := ?_) rfl (by kernel_rfl) (by kernel_rfl) (by kernel_rfl) (fun _ _ _ h => h) (Or.inl ⟨by rfl, ?_⟩) hH2 ?_
        rotate_left 1
        · intro w hSw; (try dsimp only at hSw); go_simp; with_reducible rfl
        try simp only [Act.put, List.setIfInBounds_toArray, List.set_cons_zero, List.set_cons_succ]
        refine wpAnyH_take (i := 9) (oi := ⟨some 6, _, _, _, _, _⟩) (v := ?_) rfl (by kernel_rfl) (by kernel_rfl) (by kernel_rfl) (fun _ _ _ h => h) (Or.inl ⟨by rfl, ?_⟩) hH2 ?_
        rotate_left 1
        · intro w hSw; (try dsimp only at hSw); go_simp; with_reducible rfl
        try simp only [Act.put, List.setIfInBounds_toArray, List.set_cons_zero, List.set_cons_succ]
        refine wpAnyH_done (by kernel_rfl) ?_ _
        all_goals (refine NoPanic.normal ?_)
        have Y2 := Lib.hid y2
        cases q
        all_goals
          go_wp2
          go_ret
          exact ⟨rfl, HB.out.trans (Y2.out.mono HB.out.size)⟩
    · have l2' : (200 : Int) < (msg.length : Int) := by omega
      have HB := Lib.hid b0
      clear bl b0 hC hT
      go_enter Tryz.func5, Tryz.ntmps5
      go_wp2_with fail
      refine (awake_sg _).mono ?_
      rintro e w1 ⟨rfl, b1⟩
      go_wp2
      go_ret
      exact ⟨rfl, HB.out.trans (b1.mono HB.out.size)⟩
  · have l1' : (200 : Int) < (pub.length : Int) := by omega
    have HB := Lib.hid b0
    clear bl b0 hC hT
    go_enter Tryz.func5, Tryz.ntmps5
    go_wp2_with fail
    refine (awake_sg _).mono ?_
    rintro e w1 ⟨rfl, b1⟩
    go_wp2
    go_ret
    exact ⟨rfl, HB.out.trans (b1.mono HB.out.size)⟩
end Go.Proofs.YtnlpakalcckaiaaGreat
