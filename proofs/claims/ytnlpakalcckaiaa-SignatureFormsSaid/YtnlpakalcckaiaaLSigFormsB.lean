/-
  SignatureForms: the walk, an element too many. Conditions: none.
-/
import Derived.Test.YtnlpakalcckaiaaLSigFormsA
namespace Go.Proofs.Ytnlpakalcckaiaa
set_option linter.unusedVariables false
open Go.RowKit Go.Shelf
attribute [local go_sem] Oper.semAt_some
set_option maxRecDepth 20000 in
set_option maxHeartbeats 4000000 in
theorem sigForms_1 (b hh wh : Nat) (msg : Sg.Str) (w : World) (hb : b < 256) (hhh : hh < 256) (hwh : wh < 256) (hl : msg.length ≤ 200) (hj : wh % 7 = 1) :
    Calls Try.prog 5 #[.int .u8 (b : Int), .int .u8 (hh : Int), .string ⟨msg.toArray⟩, .int .u8 (wh : Int)] w fun e w' => e = .returned (.bool true) ∧ Below w.heap.size w w' := by
  have hz := bytes_size msg
  have hl' : ¬ ((200 : Int) < (msg.length : Int)) := by omega
  have hb8 : (UInt8.ofNat b).toNat = b := by rw [UInt8.toNat_ofNat']; omega
  have kse := fun W => seed_spec (UInt8.ofNat b) W
  rw [hb8] at kse
  have hsl : (List.replicate 32 (UInt8.ofNat b)).length = 32 := by simp
  generalize List.replicate 32 (UInt8.ofNat b) = S at kse hsl
  have m1 := sg_tmod hh 3
  have j1 := sg_tmod wh 7
  obtain ⟨m, hm⟩ : ∃ m, hh % 3 = m := ⟨_, rfl⟩
  have hm2 : m ≤ 2 := by omega
  have hm6 : m ≤ 6 := by omega
  have hS30 : S.length ≤ 1073741824 := by rw [hsl]; decide
  have hM30 : msg.length ≤ 1073741824 := Nat.le_trans hl (by decide)
  rw [hm, show (((3 : Nat)) : Int) = 3 from rfl] at m1
  rw [hj, show (((7 : Nat)) : Int) = 7 from rfl, show (((1 : Nat)) : Int) = 1 from rfl] at j1
  have M1 := Lib.hid (And.intro m1 j1)
  clear m1 j1
  obtain ⟨m3, m4, m5⟩ := wraps_u8 m (by omega)
  obtain ⟨s3, s4, s5⟩ := wraps_u8 wh hwh
  have j5 : IntKind.u8.wrap (1 : Int) = 1 := by decide
  obtain ⟨P, hP⟩ : ∃ P, 2 ^ m = P := ⟨_, rfl⟩
  obtain ⟨h5, h6⟩ := shl_facts m P hm6 hP
  have hP0 : 0 < P := by rw [← hP]; exact Nat.two_pow_pos _
  have e9 : min m 64 = m := Nat.min_eq_left (Nat.le_trans hm6 (by decide))
  have kP := fun W => public_spec S (m : Int) 0 W hS30
  rw [pubR_ok S m hsl hm6] at kP
  have kS := fun W => sign_spec S msg (m : Int) 0 W hM30
  have hso := signR_ok S m 0 (Sg.dgs msg) hsl hm6 (by rw [hP]; exact hP0)
  rw [show (((0 : Nat)) : Int) = 0 from rfl, Int.zero_add] at hso
  rw [hso] at kS
  have hcl := Sg.chn_len S 0 (Sg.dgs msg) 67
  have hcd := Sg.chn_dig S 0 (Sg.dgs msg) 67
  have hTl := Nat.le_trans (incl_le S m 0) hm6
  have hVl := pubK_len S m
  have kV := fun (x : Sg.Str) (A B : Option Addr) (a b : Nat) (W : World) => verify_spec (pubK S m) msg 0 ((Sg.chn S 0 (Sg.dgs msg) 67) ++ [x]) (Mk.incl (Sg.lvs S (2 ^ m)) 0) A B a b W hM30
  have hv : ∀ x, verB (pubK S m) (Sg.dgs msg) 0 ((Sg.chn S 0 (Sg.dgs msg) 67) ++ [x]) (Mk.incl (Sg.lvs S (2 ^ m)) 0) = false := fun x => verB_len (by rw [List.length_append, hcl, List.length_singleton]; decide)
  simp only [hv] at kV
  have hcl' : ∀ x, ((Sg.chn S 0 (Sg.dgs msg) 67) ++ [x]).length = 68 := fun x => by rw [List.length_append, hcl]; rfl
  simp only [hcl'] at kV
  clear hcl' hv
  clear hso hS30 hM30 hsl
  generalize Sg.chn S 0 (Sg.dgs msg) 67 = C at *
  generalize Mk.incl (Sg.lvs S (2 ^ m)) 0 = T at *
  generalize pubK S m = V at *
  generalize Sg.dgs msg = dd at *
  obtain ⟨c0', Cs, hC0⟩ : ∃ c0 Cs, C = c0 :: Cs := by
    cases C with
    | nil => cases hcl
    | cons c0 Cs => exact ⟨_, _, rfl⟩
  unfold SgP keyA at kS
  dsimp only at kP kS
  have HP := Lib.hid (And.intro hP0 hP)
  have HCD := Lib.hid hcd
  have HK := Lib.hid kV
  clear hP0 hP hcd kV
  obtain ⟨m1, j1⟩ := M1.out
  go_enter Try.func5, Try.ntmps5
  go_wp2_with fail
  refine (awake_sg _).mono ?_
  rintro e w0 ⟨rfl, b0⟩
  go_wp2_with fail
  refine (kse _).mono ?_
  rintro e w1 ⟨rfl, b1⟩
  have s1 := (((St.nil w).under b0).under b1).alloc 25 #[.string ⟨S.toArray⟩, .int .i64 (m : Int), .int .i64 0]
  obtain ⟨k, hk⟩ : ∃ k, w1.heap.size = k := ⟨_, rfl⟩
  rw [hk] at s1
  clear b0 b1 kse
  go_wp2_with fail
  refine (kP _).mono ?_
  rintro e w2 ⟨rfl, b2⟩
  have s2 := s1.under b2
  clear kP b2 s1
  have d0 := s2.blk.cell 0
  have d1 := s2.blk.cell 1
  have d2 := s2.blk.cell 2
  go_wp2_with fail
  refine (kS _).mono ?_
  rintro e w3 ⟨a, b', rfl, t3⟩
  obtain ⟨A1, n1, rfl, p1, p2⟩ := own_form t3.own
  obtain ⟨A2, n2, rfl, p3, p4⟩ := own_form t3.tail.own
  simp only [hcl] at t3 p1 ⊢
  have h1n := own_none t3.own
  have h2n := own_none t3.tail.own
  have s5 := ((s2.join t3).alloc 33 #[.int .i64 0, .slice A1 67 n1, .slice A2 T.length n2]).alloc 25 #[.string ⟨S.toArray⟩, .int .i64 (m : Int), .int .i64 1]
  rw [World.size_alloc] at s5
  obtain ⟨o, ho⟩ : ∃ o, w3.heap.size = o := ⟨_, rfl⟩
  rw [ho] at s5
  have s5 : St w.heap.size w _ [cellsR (o + 1) 25 #[.string ⟨S.toArray⟩, .int .i64 (m : Int), .int .i64 1], cellsR o 33 #[.int .i64 0, .slice A1 67 n1, .slice A2 T.length n2], ownR 9 1 (.slice A1 67 n1) 67 (strs C), ownR 9 1 (.slice A2 T.length n2) T.length (strs T), cellsR k 25 #[.string ⟨S.toArray⟩, .int .i64 (m : Int), .int .i64 0]] := s5
  clear d0 d1 d2 kS t3 s2
  have S5 := Lib.hid s5
  clear s5
  go_wp2_with fail
  obtain ⟨W5, hW5⟩ : ∃ W5, (w3.alloc (.cells #[.int .i64 0, .slice A1 67 n1, .slice A2 T.length n2] 33)).alloc (.cells #[.string ⟨S.toArray⟩, .int .i64 (m : Int), .int .i64 1] 25) = W5 := ⟨_, rfl⟩
  have s5 := S5.out
  rw [hW5] at s5 ⊢
  clear S5 hW5
  have HS := Lib.hid (show ∀ W, Below W5.heap.size W5 W → (W.cell? ⟨o, 0, none⟩ = some (.int .i64 0) ∧ W.cell? ⟨o, 1, none⟩ = some (.slice A1 67 n1) ∧ W.cell? ⟨o, 2, none⟩ = some (.slice A2 T.length n2)) from fun W hb => ⟨(s5.tail.under hb).blk.cell 0, (s5.tail.under hb).blk.cell 1, (s5.tail.under hb).blk.cell 2⟩)
  have kC : ∀ W, Below W5.heap.size W5 W → Calls Try.prog 14 #[.slice A1 67 n1] W fun e w' => ∃ v, e = .returned v ∧ w'.ownsRow W.heap.size 9 1 v 67 (strs C) ∧ Below W.heap.size W w' := fun W hb => by
    have := clone_spec A1 C n1 W (Rd.of_own (s5.tail.tail.under hb).own) (by rw [hcl]; exact h1n) (by rw [hcl]; decide)
    rw [hcl] at this
    exact this
  have kT : ∀ W, Below W5.heap.size W5 W → Calls Try.prog 14 #[.slice A2 T.length n2] W fun e w' => ∃ v, e = .returned v ∧ w'.ownsRow W.heap.size 9 1 v T.length (strs T) ∧ Below W.heap.size W w' := fun W hb => clone_spec A2 T n2 W (Rd.of_own (s5.tail.tail.tail.under hb).own) h2n (Nat.le_trans hTl (by decide))
  have y0 := (St.nil W5).drew
  have HH := Lib.hid (And.intro h1n (And.intro h2n (And.intro p1 (And.intro p2 (And.intro p3 p4)))))
  have S5 := Lib.hid s5.tail.tail.tail.tail
  clear h1n h2n p1 p2 p3 p4 s5
  refine wp_region_noPanic ?_
  refine wp_region_held_drew (S := (fun w' => w'.cell? ⟨o, 0, none⟩ = some (.int .i64 0) ∧ w'.cell? ⟨o, 1, none⟩ = some (.slice A1 67 n1) ∧ w'.cell? ⟨o, 2, none⟩ = some (.slice A2 T.length n2))) (by kernel_rfl) ?_ (fun hH0 => ?_)
  · (first
      | exact HS.out _ y0.below
      | exact HS.out _ yC.below
      | exact HS.out _ yB.below
      | exact HS.out _ y2.below
      | exact HS.out _ yX.below
      | exact HS.out _ yZ.below
      | exact HS.out _ (y0.alloc0 _).below
      | exact HS.out _ ((St.nil W5).alloc0 _).drew.below
      | exact HS.out _ (yC.alloc0 _).below
      | exact HS.out _ (y2.alloc0 _).below
      | fail)
  refine wpAnyH_take (i := 0) (oi := ⟨some 56, _, _, _, _, _⟩) (v := ?_) rfl (by kernel_rfl) (by kernel_rfl) (by kernel_rfl) (fun _ _ _ h => h) (Or.inl ⟨by rfl, ?_⟩) hH0 ?_
  rotate_left 1
  · intro w hSw; (try dsimp only at hSw); go_simp; with_reducible rfl
  try simp only [Act.put, List.setIfInBounds_toArray, List.set_cons_zero, List.set_cons_succ]
  refine wpAnyH_take (i := 1) (oi := ⟨some 57, _, _, _, _, _⟩) (v := ?_) rfl (by kernel_rfl) (by kernel_rfl) (by kernel_rfl) (fun _ _ _ h => h) (Or.inl ⟨by rfl, ?_⟩) hH0 ?_
  rotate_left 1
  · intro w hSw; (try dsimp only at hSw); go_simp; with_reducible rfl
  try simp only [Act.put, List.setIfInBounds_toArray, List.set_cons_zero, List.set_cons_succ]
  refine wpAnyH_take (i := 2) (oi := ⟨some 58, _, _, _, _, _⟩) (v := ?_) rfl (by kernel_rfl) (by kernel_rfl) (by kernel_rfl) (fun _ _ _ h => h) (Or.inl ⟨by rfl, ?_⟩) hH0 ?_
  rotate_left 1
  · intro w hSw; (try dsimp only at hSw); go_simp; with_reducible rfl
  try simp only [Act.put, List.setIfInBounds_toArray, List.set_cons_zero, List.set_cons_succ]
  refine wpAnyH_take (i := 3) (oi := ⟨some 59, _, _, _, _, _⟩) (v := ?_) rfl (by kernel_rfl) (by kernel_rfl) (by kernel_rfl) (fun _ _ _ h => h) (Or.inl ⟨by rfl, ?_⟩) hH0 ?_
  rotate_left 1
  · intro w hSw; (try dsimp only at hSw); go_simp; with_reducible rfl
  try simp only [Act.put, List.setIfInBounds_toArray, List.set_cons_zero, List.set_cons_succ]
  refine wpAnyH_take (i := 5) (oi := ⟨some 61, _, _, _, _, _⟩) (v := ?_) rfl (by kernel_rfl) (by kernel_rfl) (by kernel_rfl) (fun _ _ _ h => h) (Or.inl ⟨by rfl, ?_⟩) hH0 ?_
  rotate_left 1
  · intro w hSw; (try dsimp only at hSw); go_simp; with_reducible rfl
  try simp only [Act.put, List.setIfInBounds_toArray, List.set_cons_zero, List.set_cons_succ]
  refine wpAnyH_take (i := 6) (oi := ⟨some 62, _, _, _, _, _⟩) (v := ?_) rfl (by kernel_rfl) (by kernel_rfl) (by kernel_rfl) (fun _ _ _ h => h) (Or.inl ⟨by rfl, ?_⟩) hH0 ?_
  rotate_left 1
  · intro w hSw; (try dsimp only at hSw); go_simp; with_reducible rfl
  try simp only [Act.put, List.setIfInBounds_toArray, List.set_cons_zero, List.set_cons_succ]
  refine wpAnyH_ready (rs := [4, 9]) (by kernel_rfl) (by simp) ?_
  refine AllReadyH.cons (o := ⟨some 60, _, _, _, _, _⟩) rfl (fun K hK => ?_) ?_
  go_simp; (first
        | ((with_reducible refine (kC _ y0.below).mono ?_)
           rintro e vC ⟨u1, rfl, o1, b1⟩
           obtain ⟨gC, cC, rfl, r1, r2⟩ := own_some o1 (by decide)
           have yC := y0.new_own b1 o1)
        | ((with_reducible refine (kT _ yC.below).mono ?_)
           rintro e vT ⟨u2, rfl, o2, b2⟩
           obtain ⟨AT, cT, rfl, r3, r4⟩ := own_form o2
           have y2 := (yC.new_own b2 o2).swap)
        | ((with_reducible refine (kT _ (yC.alloc0 _).below).mono ?_)
           rintro e vT ⟨u2, rfl, o2, b2⟩
           obtain ⟨AT, cT, rfl, r3, r4⟩ := own_form o2
           have yX : St W5.heap.size W5 _ [cellsR _ 33 #[.int .i64 0, .slice none 0 0, .slice none 0 0], ownR 9 1 (.slice (some ⟨gC, 0, none⟩) 67 cC) 67 (strs C), ownR 9 1 (.slice AT T.length cT) T.length (strs T)] := ((yC.alloc _ _).new_own b2 o2).pick [1, 2, 0] (by decide) (by simp)
           have bx := yX.blk
           have g0 := bx.cell 0
           have g1 := bx.cell 1
           have g2 := bx.cell 2
           have f0 := bx.frozen 0
           have f1 := bx.frozen 1
           have f2 := bx.frozen 2
           have yZ := ((yX.set_ 0 (.int .i64 0)).set_ 1 (.slice (some ⟨gC, 0, none⟩) 67 cC)).set_ 2 (.slice AT T.length cT))
        | ((with_reducible refine (kC _ ((St.nil W5).alloc0 _).drew.below).mono ?_)
           rintro e vC ⟨u1, rfl, o1, b1⟩
           obtain ⟨gC, cC, rfl, r1, r2⟩ := own_some o1 (by decide)
           have yB := ((St.nil W5).alloc _ _).drew.new_own b1 o1)
        | ((with_reducible refine (kT _ yB.below).mono ?_)
           rintro e vT ⟨u2, rfl, o2, b2⟩
           obtain ⟨AT, cT, rfl, r3, r4⟩ := own_form o2
           have yX : St W5.heap.size W5 _ [cellsR _ 33 #[.int .i64 0, .slice none 0 0, .slice none 0 0], ownR 9 1 (.slice (some ⟨gC, 0, none⟩) 67 cC) 67 (strs C), ownR 9 1 (.slice AT T.length cT) T.length (strs T)] := (yB.new_own b2 o2).pick [2, 1, 0] (by decide) (by simp)
           have bx := yX.blk
           have g0 := bx.cell 0
           have g1 := bx.cell 1
           have g2 := bx.cell 2
           have f0 := bx.frozen 0
           have f1 := bx.frozen 1
           have f2 := bx.frozen 2
           have yZ := ((yX.set_ 0 (.int .i64 0)).set_ 1 (.slice (some ⟨gC, 0, none⟩) 67 cC)).set_ 2 (.slice AT T.length cT))
        | fail); go_wp2_with fail
  refine hK.out _ _ ?_ (fun hH1 => ?_)
  · (first
      | exact HS.out _ y0.below
      | exact HS.out _ yC.below
      | exact HS.out _ yB.below
      | exact HS.out _ y2.below
      | exact HS.out _ yX.below
      | exact HS.out _ yZ.below
      | exact HS.out _ (y0.alloc0 _).below
      | exact HS.out _ ((St.nil W5).alloc0 _).drew.below
      | exact HS.out _ (yC.alloc0 _).below
      | exact HS.out _ (y2.alloc0 _).below
      | fail)
  clear hK K hH0
  try simp only [Act.put, List.setIfInBounds_toArray, List.set_cons_zero, List.set_cons_succ]
  refine wpAnyH_ready (rs := [7, 9]) (by kernel_rfl) (by simp) ?_
  refine AllReadyH.cons (o := ⟨some 63, _, _, _, _, _⟩) rfl (fun K hK => ?_) ?_
  go_simp; (first
        | ((with_reducible refine (kC _ y0.below).mono ?_)
           rintro e vC ⟨u1, rfl, o1, b1⟩
           obtain ⟨gC, cC, rfl, r1, r2⟩ := own_some o1 (by decide)
           have yC := y0.new_own b1 o1)
        | ((with_reducible refine (kT _ yC.below).mono ?_)
           rintro e vT ⟨u2, rfl, o2, b2⟩
           obtain ⟨AT, cT, rfl, r3, r4⟩ := own_form o2
           have y2 := (yC.new_own b2 o2).swap)
        | ((with_reducible refine (kT _ (yC.alloc0 _).below).mono ?_)
           rintro e vT ⟨u2, rfl, o2, b2⟩
           obtain ⟨AT, cT, rfl, r3, r4⟩ := own_form o2
           have yX : St W5.heap.size W5 _ [cellsR _ 33 #[.int .i64 0, .slice none 0 0, .slice none 0 0], ownR 9 1 (.slice (some ⟨gC, 0, none⟩) 67 cC) 67 (strs C), ownR 9 1 (.slice AT T.length cT) T.length (strs T)] := ((yC.alloc _ _).new_own b2 o2).pick [1, 2, 0] (by decide) (by simp)
           have bx := yX.blk
           have g0 := bx.cell 0
           have g1 := bx.cell 1
           have g2 := bx.cell 2
           have f0 := bx.frozen 0
           have f1 := bx.frozen 1
           have f2 := bx.frozen 2
           have yZ := ((yX.set_ 0 (.int .i64 0)).set_ 1 (.slice (some ⟨gC, 0, none⟩) 67 cC)).set_ 2 (.slice AT T.length cT))
        | ((with_reducible refine (kC _ ((St.nil W5).alloc0 _).drew.below).mono ?_)
           rintro e vC ⟨u1, rfl, o1, b1⟩
           obtain ⟨gC, cC, rfl, r1, r2⟩ := own_some o1 (by decide)
           have yB := ((St.nil W5).alloc _ _).drew.new_own b1 o1)
        | ((with_reducible refine (kT _ yB.below).mono ?_)
           rintro e vT ⟨u2, rfl, o2, b2⟩
           obtain ⟨AT, cT, rfl, r3, r4⟩ := own_form o2
           have yX : St W5.heap.size W5 _ [cellsR _ 33 #[.int .i64 0, .slice none 0 0, .slice none 0 0], ownR 9 1 (.slice (some ⟨gC, 0, none⟩) 67 cC) 67 (strs C), ownR 9 1 (.slice AT T.length cT) T.length (strs T)] := (yB.new_own b2 o2).pick [2, 1, 0] (by decide) (by simp)
           have bx := yX.blk
           have g0 := bx.cell 0
           have g1 := bx.cell 1
           have g2 := bx.cell 2
           have f0 := bx.frozen 0
           have f1 := bx.frozen 1
           have f2 := bx.frozen 2
           have yZ := ((yX.set_ 0 (.int .i64 0)).set_ 1 (.slice (some ⟨gC, 0, none⟩) 67 cC)).set_ 2 (.slice AT T.length cT))
        | fail); go_wp2_with fail
  refine hK.out _ _ ?_ (fun hH2 => ?_)
  · (first
      | exact HS.out _ y0.below
      | exact HS.out _ yC.below
      | exact HS.out _ yB.below
      | exact HS.out _ y2.below
      | exact HS.out _ yX.below
      | exact HS.out _ yZ.below
      | exact HS.out _ (y0.alloc0 _).below
      | exact HS.out _ ((St.nil W5).alloc0 _).drew.below
      | exact HS.out _ (yC.alloc0 _).below
      | exact HS.out _ (y2.alloc0 _).below
      | fail)
  clear hK K hH1
  try simp only [Act.put, List.setIfInBounds_toArray, List.set_cons_zero, List.set_cons_succ]
  refine wpAnyH_take (i := 8) (oi := ⟨some 64, _, _, _, _, _⟩) (v := ?_) rfl (by kernel_rfl) (by kernel_rfl) (by kernel_rfl) (fun _ _ _ h => h) (Or.inl ⟨by rfl, ?_⟩) hH2 ?_
  rotate_left 1
  · intro w hSw; (try dsimp only at hSw); go_simp; with_reducible rfl
  try simp only [Act.put, List.setIfInBounds_toArray, List.set_cons_zero, List.set_cons_succ]
  refine wpAnyH_ready (rs := [9]) (by kernel_rfl) (by simp) ?_
  refine AllReadyH.cons (o := ⟨some 15, _, _, _, _, _⟩) rfl (fun K hK => ?_) AllReadyH.nil
  go_simp
  refine hK.out _ _ ?_ (fun hH3 => ?_)
  · (first
      | exact HS.out _ y0.below
      | exact HS.out _ yC.below
      | exact HS.out _ yB.below
      | exact HS.out _ y2.below
      | exact HS.out _ yX.below
      | exact HS.out _ yZ.below
      | exact HS.out _ (y0.alloc0 _).below
      | exact HS.out _ ((St.nil W5).alloc0 _).drew.below
      | exact HS.out _ (yC.alloc0 _).below
      | exact HS.out _ (y2.alloc0 _).below
      | fail)
  clear hK K hH2
  try simp only [Act.put, List.setIfInBounds_toArray, List.set_cons_zero, List.set_cons_succ]
  refine wpAnyH_ready (rs := [10]) (by kernel_rfl) (by simp) ?_
  refine AllReadyH.cons (o := ⟨_, _, _, _, _, _⟩) rfl (fun K hK => ?_) AllReadyH.nil
  go_simp
  refine hK.out _ _ ?_ (fun hH4 => ?_)
  · (first
      | exact HS.out _ y0.below
      | exact HS.out _ yC.below
      | exact HS.out _ yB.below
      | exact HS.out _ y2.below
      | exact HS.out _ yX.below
      | exact HS.out _ yZ.below
      | exact HS.out _ (y0.alloc0 _).below
      | exact HS.out _ ((St.nil W5).alloc0 _).drew.below
      | exact HS.out _ (yC.alloc0 _).below
      | exact HS.out _ (y2.alloc0 _).below
      | fail)
  clear hK K hH3
  try simp only [Act.put, List.setIfInBounds_toArray, List.set_cons_zero, List.set_cons_succ]
  refine wpAnyH_done (by kernel_rfl) ?_ _
  rotate_left 1
  refine AllReadyH.cons (o := ⟨some 15, _, _, _, _, _⟩) rfl (fun K hK => ?_) AllReadyH.nil
  go_simp
  refine hK.out _ _ ?_ (fun hH5 => ?_)
  · (first
      | exact HS.out _ y0.below
      | exact HS.out _ yC.below
      | exact HS.out _ yB.below
      | exact HS.out _ y2.below
      | exact HS.out _ yX.below
      | exact HS.out _ yZ.below
      | exact HS.out _ (y0.alloc0 _).below
      | exact HS.out _ ((St.nil W5).alloc0 _).drew.below
      | exact HS.out _ (yC.alloc0 _).below
      | exact HS.out _ (y2.alloc0 _).below
      | fail)
  clear hK K hH1
  try simp only [Act.put, List.setIfInBounds_toArray, List.set_cons_zero, List.set_cons_succ]
  refine wpAnyH_ready (rs := [7]) (by kernel_rfl) (by simp) ?_
  refine AllReadyH.cons (o := ⟨some 63, _, _, _, _, _⟩) rfl (fun K hK => ?_) AllReadyH.nil
  go_simp; (first
        | ((with_reducible refine (kC _ y0.below).mono ?_)
           rintro e vC ⟨u1, rfl, o1, b1⟩
           obtain ⟨gC, cC, rfl, r1, r2⟩ := own_some o1 (by decide)
           have yC := y0.new_own b1 o1)
        | ((with_reducible refine (kT _ yC.below).mono ?_)
           rintro e vT ⟨u2, rfl, o2, b2⟩
           obtain ⟨AT, cT, rfl, r3, r4⟩ := own_form o2
           have y2 := (yC.new_own b2 o2).swap)
        | ((with_reducible refine (kT _ (yC.alloc0 _).below).mono ?_)
           rintro e vT ⟨u2, rfl, o2, b2⟩
           obtain ⟨AT, cT, rfl, r3, r4⟩ := own_form o2
           have yX : St W5.heap.size W5 _ [cellsR _ 33 #[.int .i64 0, .slice none 0 0, .slice none 0 0], ownR 9 1 (.slice (some ⟨gC, 0, none⟩) 67 cC) 67 (strs C), ownR 9 1 (.slice AT T.length cT) T.length (strs T)] := ((yC.alloc _ _).new_own b2 o2).pick [1, 2, 0] (by decide) (by simp)
           have bx := yX.blk
           have g0 := bx.cell 0
           have g1 := bx.cell 1
           have g2 := bx.cell 2
           have f0 := bx.frozen 0
           have f1 := bx.frozen 1
           have f2 := bx.frozen 2
           have yZ := ((yX.set_ 0 (.int .i64 0)).set_ 1 (.slice (some ⟨gC, 0, none⟩) 67 cC)).set_ 2 (.slice AT T.length cT))
        | ((with_reducible refine (kC _ ((St.nil W5).alloc0 _).drew.below).mono ?_)
           rintro e vC ⟨u1, rfl, o1, b1⟩
           obtain ⟨gC, cC, rfl, r1, r2⟩ := own_some o1 (by decide)
           have yB := ((St.nil W5).alloc _ _).drew.new_own b1 o1)
        | ((with_reducible refine (kT _ yB.below).mono ?_)
           rintro e vT ⟨u2, rfl, o2, b2⟩
           obtain ⟨AT, cT, rfl, r3, r4⟩ := own_form o2
           have yX : St W5.heap.size W5 _ [cellsR _ 33 #[.int .i64 0, .slice none 0 0, .slice none 0 0], ownR 9 1 (.slice (some ⟨gC, 0, none⟩) 67 cC) 67 (strs C), ownR 9 1 (.slice AT T.length cT) T.length (strs T)] := (yB.new_own b2 o2).pick [2, 1, 0] (by decide) (by simp)
           have bx := yX.blk
           have g0 := bx.cell 0
           have g1 := bx.cell 1
           have g2 := bx.cell 2
           have f0 := bx.frozen 0
           have f1 := bx.frozen 1
           have f2 := bx.frozen 2
           have yZ := ((yX.set_ 0 (.int .i64 0)).set_ 1 (.slice (some ⟨gC, 0, none⟩) 67 cC)).set_ 2 (.slice AT T.length cT))
        | fail); go_wp2_with fail
  refine hK.out _ _ ?_ (fun hH6 => ?_)
  · (first
      | exact HS.out _ y0.below
      | exact HS.out _ yC.below
      | exact HS.out _ yB.below
      | exact HS.out _ y2.below
      | exact HS.out _ yX.below
      | exact HS.out _ yZ.below
      | exact HS.out _ (y0.alloc0 _).below
      | exact HS.out _ ((St.nil W5).alloc0 _).drew.below
      | exact HS.out _ (yC.alloc0 _).below
      | exact HS.out _ (y2.alloc0 _).below
      | fail)
  clear hK K hH5
  try simp only [Act.put, List.setIfInBounds_toArray, List.set_cons_zero, List.set_cons_succ]
  refine wpAnyH_take (i := 8) (oi := ⟨some 64, _, _, _, _, _⟩) (v := ?_) rfl (by kernel_rfl) (by kernel_rfl) (by kernel_rfl) (fun _ _ _ h => h) (Or.inl ⟨by rfl, ?_⟩) hH6 ?_
  rotate_left 1
  · intro w hSw; (try dsimp only at hSw); go_simp; with_reducible rfl
  try simp only [Act.put, List.setIfInBounds_toArray, List.set_cons_zero, List.set_cons_succ]
  refine wpAnyH_ready (rs := [10]) (by kernel_rfl) (by simp) ?_
  refine AllReadyH.cons (o := ⟨_, _, _, _, _, _⟩) rfl (fun K hK => ?_) AllReadyH.nil
  go_simp
  refine hK.out _ _ ?_ (fun hH7 => ?_)
  · (first
      | exact HS.out _ y0.below
      | exact HS.out _ yC.below
      | exact HS.out _ yB.below
      | exact HS.out _ y2.below
      | exact HS.out _ yX.below
      | exact HS.out _ yZ.below
      | exact HS.out _ (y0.alloc0 _).below
      | exact HS.out _ ((St.nil W5).alloc0 _).drew.below
      | exact HS.out _ (yC.alloc0 _).below
      | exact HS.out _ (y2.alloc0 _).below
      | fail)
  clear hK K hH6
  try simp only [Act.put, List.setIfInBounds_toArray, List.set_cons_zero, List.set_cons_succ]
  refine wpAnyH_done (by kernel_rfl) ?_ _
  rotate_left 1
  refine AllReadyH.cons (o := ⟨some 15, _, _, _, _, _⟩) rfl (fun K hK => ?_) AllReadyH.nil
  go_simp
  refine hK.out _ _ ?_ (fun hH8 => ?_)
  · (first
      | exact HS.out _ y0.below
      | exact HS.out _ yC.below
      | exact HS.out _ yB.below
      | exact HS.out _ y2.below
      | exact HS.out _ yX.below
      | exact HS.out _ yZ.below
      | exact HS.out _ (y0.alloc0 _).below
      | exact HS.out _ ((St.nil W5).alloc0 _).drew.below
      | exact HS.out _ (yC.alloc0 _).below
      | exact HS.out _ (y2.alloc0 _).below
      | fail)
  clear hK K hH0
  try simp only [Act.put, List.setIfInBounds_toArray, List.set_cons_zero, List.set_cons_succ]
  refine wpAnyH_ready (rs := [4]) (by kernel_rfl) (by simp) ?_
  refine AllReadyH.cons (o := ⟨some 60, _, _, _, _, _⟩) rfl (fun K hK => ?_) AllReadyH.nil
  go_simp; (first
        | ((with_reducible refine (kC _ y0.below).mono ?_)
           rintro e vC ⟨u1, rfl, o1, b1⟩
           obtain ⟨gC, cC, rfl, r1, r2⟩ := own_some o1 (by decide)
           have yC := y0.new_own b1 o1)
        | ((with_reducible refine (kT _ yC.below).mono ?_)
           rintro e vT ⟨u2, rfl, o2, b2⟩
           obtain ⟨AT, cT, rfl, r3, r4⟩ := own_form o2
           have y2 := (yC.new_own b2 o2).swap)
        | ((with_reducible refine (kT _ (yC.alloc0 _).below).mono ?_)
           rintro e vT ⟨u2, rfl, o2, b2⟩
           obtain ⟨AT, cT, rfl, r3, r4⟩ := own_form o2
           have yX : St W5.heap.size W5 _ [cellsR _ 33 #[.int .i64 0, .slice none 0 0, .slice none 0 0], ownR 9 1 (.slice (some ⟨gC, 0, none⟩) 67 cC) 67 (strs C), ownR 9 1 (.slice AT T.length cT) T.length (strs T)] := ((yC.alloc _ _).new_own b2 o2).pick [1, 2, 0] (by decide) (by simp)
           have bx := yX.blk
           have g0 := bx.cell 0
           have g1 := bx.cell 1
           have g2 := bx.cell 2
           have f0 := bx.frozen 0
           have f1 := bx.frozen 1
           have f2 := bx.frozen 2
           have yZ := ((yX.set_ 0 (.int .i64 0)).set_ 1 (.slice (some ⟨gC, 0, none⟩) 67 cC)).set_ 2 (.slice AT T.length cT))
        | ((with_reducible refine (kC _ ((St.nil W5).alloc0 _).drew.below).mono ?_)
           rintro e vC ⟨u1, rfl, o1, b1⟩
           obtain ⟨gC, cC, rfl, r1, r2⟩ := own_some o1 (by decide)
           have yB := ((St.nil W5).alloc _ _).drew.new_own b1 o1)
        | ((with_reducible refine (kT _ yB.below).mono ?_)
           rintro e vT ⟨u2, rfl, o2, b2⟩
           obtain ⟨AT, cT, rfl, r3, r4⟩ := own_form o2
           have yX : St W5.heap.size W5 _ [cellsR _ 33 #[.int .i64 0, .slice none 0 0, .slice none 0 0], ownR 9 1 (.slice (some ⟨gC, 0, none⟩) 67 cC) 67 (strs C), ownR 9 1 (.slice AT T.length cT) T.length (strs T)] := (yB.new_own b2 o2).pick [2, 1, 0] (by decide) (by simp)
           have bx := yX.blk
           have g0 := bx.cell 0
           have g1 := bx.cell 1
           have g2 := bx.cell 2
           have f0 := bx.frozen 0
           have f1 := bx.frozen 1
           have f2 := bx.frozen 2
           have yZ := ((yX.set_ 0 (.int .i64 0)).set_ 1 (.slice (some ⟨gC, 0, none⟩) 67 cC)).set_ 2 (.slice AT T.length cT))
        | fail); go_wp2_with fail
  refine hK.out _ _ ?_ (fun hH9 => ?_)
  · (first
      | exact HS.out _ y0.below
      | exact HS.out _ yC.below
      | exact HS.out _ yB.below
      | exact HS.out _ y2.below
      | exact HS.out _ yX.below
      | exact HS.out _ yZ.below
      | exact HS.out _ (y0.alloc0 _).below
      | exact HS.out _ ((St.nil W5).alloc0 _).drew.below
      | exact HS.out _ (yC.alloc0 _).below
      | exact HS.out _ (y2.alloc0 _).below
      | fail)
  clear hK K hH8
  try simp only [Act.put, List.setIfInBounds_toArray, List.set_cons_zero, List.set_cons_succ]
  refine wpAnyH_ready (rs := [7]) (by kernel_rfl) (by simp) ?_
  refine AllReadyH.cons (o := ⟨some 63, _, _, _, _, _⟩) rfl (fun K hK => ?_) AllReadyH.nil
  go_simp; (first
        | ((with_reducible refine (kC _ y0.below).mono ?_)
           rintro e vC ⟨u1, rfl, o1, b1⟩
           obtain ⟨gC, cC, rfl, r1, r2⟩ := own_some o1 (by decide)
           have yC := y0.new_own b1 o1)
        | ((with_reducible refine (kT _ yC.below).mono ?_)
           rintro e vT ⟨u2, rfl, o2, b2⟩
           obtain ⟨AT, cT, rfl, r3, r4⟩ := own_form o2
           have y2 := (yC.new_own b2 o2).swap)
        | ((with_reducible refine (kT _ (yC.alloc0 _).below).mono ?_)
           rintro e vT ⟨u2, rfl, o2, b2⟩
           obtain ⟨AT, cT, rfl, r3, r4⟩ := own_form o2
           have yX : St W5.heap.size W5 _ [cellsR _ 33 #[.int .i64 0, .slice none 0 0, .slice none 0 0], ownR 9 1 (.slice (some ⟨gC, 0, none⟩) 67 cC) 67 (strs C), ownR 9 1 (.slice AT T.length cT) T.length (strs T)] := ((yC.alloc _ _).new_own b2 o2).pick [1, 2, 0] (by decide) (by simp)
           have bx := yX.blk
           have g0 := bx.cell 0
           have g1 := bx.cell 1
           have g2 := bx.cell 2
           have f0 := bx.frozen 0
           have f1 := bx.frozen 1
           have f2 := bx.frozen 2
           have yZ := ((yX.set_ 0 (.int .i64 0)).set_ 1 (.slice (some ⟨gC, 0, none⟩) 67 cC)).set_ 2 (.slice AT T.length cT))
        | ((with_reducible refine (kC _ ((St.nil W5).alloc0 _).drew.below).mono ?_)
           rintro e vC ⟨u1, rfl, o1, b1⟩
           obtain ⟨gC, cC, rfl, r1, r2⟩ := own_some o1 (by decide)
           have yB := ((St.nil W5).alloc _ _).drew.new_own b1 o1)
        | ((with_reducible refine (kT _ yB.below).mono ?_)
           rintro e vT ⟨u2, rfl, o2, b2⟩
           obtain ⟨AT, cT, rfl, r3, r4⟩ := own_form o2
           have yX : St W5.heap.size W5 _ [cellsR _ 33 #[.int .i64 0, .slice none 0 0, .slice none 0 0], ownR 9 1 (.slice (some ⟨gC, 0, none⟩) 67 cC) 67 (strs C), ownR 9 1 (.slice AT T.length cT) T.length (strs T)] := (yB.new_own b2 o2).pick [2, 1, 0] (by decide) (by simp)
           have bx := yX.blk
           have g0 := bx.cell 0
           have g1 := bx.cell 1
           have g2 := bx.cell 2
           have f0 := bx.frozen 0
           have f1 := bx.frozen 1
           have f2 := bx.frozen 2
           have yZ := ((yX.set_ 0 (.int .i64 0)).set_ 1 (.slice (some ⟨gC, 0, none⟩) 67 cC)).set_ 2 (.slice AT T.length cT))
        | fail); go_wp2_with fail
  refine hK.out _ _ ?_ (fun hH10 => ?_)
  · (first
      | exact HS.out _ y0.below
      | exact HS.out _ yC.below
      | exact HS.out _ yB.below
      | exact HS.out _ y2.below
      | exact HS.out _ yX.below
      | exact HS.out _ yZ.below
      | exact HS.out _ (y0.alloc0 _).below
      | exact HS.out _ ((St.nil W5).alloc0 _).drew.below
      | exact HS.out _ (yC.alloc0 _).below
      | exact HS.out _ (y2.alloc0 _).below
      | fail)
  clear hK K hH9
  try simp only [Act.put, List.setIfInBounds_toArray, List.set_cons_zero, List.set_cons_succ]
  refine wpAnyH_take (i := 8) (oi := ⟨some 64, _, _, _, _, _⟩) (v := ?_) rfl (by kernel_rfl) (by kernel_rfl) (by kernel_rfl) (fun _ _ _ h => h) (Or.inl ⟨by rfl, ?_⟩) hH10 ?_
  rotate_left 1
  · intro w hSw; (try dsimp only at hSw); go_simp; with_reducible rfl
  try simp only [Act.put, List.setIfInBounds_toArray, List.set_cons_zero, List.set_cons_succ]
  refine wpAnyH_ready (rs := [10]) (by kernel_rfl) (by simp) ?_
  refine AllReadyH.cons (o := ⟨_, _, _, _, _, _⟩) rfl (fun K hK => ?_) AllReadyH.nil
  go_simp
  refine hK.out _ _ ?_ (fun hH11 => ?_)
  · (first
      | exact HS.out _ y0.below
      | exact HS.out _ yC.below
      | exact HS.out _ yB.below
      | exact HS.out _ y2.below
      | exact HS.out _ yX.below
      | exact HS.out _ yZ.below
      | exact HS.out _ (y0.alloc0 _).below
      | exact HS.out _ ((St.nil W5).alloc0 _).drew.below
      | exact HS.out _ (yC.alloc0 _).below
      | exact HS.out _ (y2.alloc0 _).below
      | fail)
  clear hK K hH10
  try simp only [Act.put, List.setIfInBounds_toArray, List.set_cons_zero, List.set_cons_succ]
  refine wpAnyH_done (by kernel_rfl) ?_ _
  all_goals (refine NoPanic.normal ?_)
  all_goals
    first
      | (have y6 := S5.out.join (y2.alloc 33 #[.int .i64 0, .slice (some ⟨gC, 0, none⟩) 67 cC, .slice AT T.length cT])
         obtain ⟨p, hp⟩ : ∃ p, vT.heap.size = p := ⟨_, rfl⟩
         obtain ⟨W6, hW6⟩ : ∃ W6, vT.alloc (.cells #[.int .i64 0, .slice (some ⟨gC, 0, none⟩) 67 cC, .slice AT T.length cT] 33) = W6 := ⟨_, rfl⟩
         rw [hp] at y6
         rw [hW6] at y6 ⊢
         clear y2 yC y0)
      | (have y6 := S5.out.join yZ
         obtain ⟨p, hp⟩ : ∃ p, vC.heap.size = p := ⟨_, rfl⟩
         rw [hp] at y6 ⊢
         obtain ⟨W6, hW6⟩ : ∃ W6, ((vT.setCell ⟨p, 0, none⟩ (.int .i64 0)).setCell ⟨p, 1, none⟩ (.slice (some ⟨gC, 0, none⟩) 67 cC)).setCell ⟨p, 2, none⟩ (.slice AT T.length cT) = W6 := ⟨_, rfl⟩
         rw [hW6] at y6 ⊢
         clear yX yZ bx g0 g1 g2 f0 f1 f2 y0 yC)
      | (have y6 := S5.out.join yZ
         obtain ⟨p, hp⟩ : ∃ p, W5.heap.size = p := ⟨_, rfl⟩
         rw [hp] at y6 ⊢
         obtain ⟨W6, hW6⟩ : ∃ W6, ((vT.setCell ⟨p, 0, none⟩ (.int .i64 0)).setCell ⟨p, 1, none⟩ (.slice (some ⟨gC, 0, none⟩) 67 cC)).setCell ⟨p, 2, none⟩ (.slice AT T.length cT) = W6 := ⟨_, rfl⟩
         rw [hW6] at y6 ⊢
         clear yX yZ bx g0 g1 g2 f0 f1 f2 y0 yB)
    have y6 : St w.heap.size w W6 [cellsR p 33 #[.int .i64 0, .slice (some ⟨gC, 0, none⟩) 67 cC, .slice AT T.length cT], ownR 9 1 (.slice (some ⟨gC, 0, none⟩) 67 cC) 67 (strs C), ownR 9 1 (.slice AT T.length cT) T.length (strs T), cellsR k 25 #[.string ⟨S.toArray⟩, .int .i64 (m : Int), .int .i64 0]] := y6
    clear hW6 kC kT HS S5 o1 o2 b1 b2
    have c0 := y6.blk.cell 0
    have c1 := y6.blk.cell 1
    have c2 := y6.blk.cell 2
    have f0 := y6.blk.frozen 0
    have f1 := y6.blk.frozen 1
    have f2 := y6.blk.frozen 2
    have Y6 := Lib.hid y6
    have z6 := Y6.out.pick [1, 0, 2, 3] (by decide) (by simp)
    have z6 : St w.heap.size w W6 [ownR 9 1 (.slice (some ⟨gC, 0, none⟩) 67 cC) 67 (strs C), cellsR p 33 #[.int .i64 0, .slice (some ⟨gC, 0, none⟩) 67 cC, .slice AT T.length cT], ownR 9 1 (.slice AT T.length cT) T.length (strs T), cellsR k 25 #[.string ⟨S.toArray⟩, .int .i64 (m : Int), .int .i64 0]] := z6
    have HV := Lib.hid (show ∀ W' v' R1 Rs, St w.heap.size w W' (R1 :: cellsR p 33 #[.int .i64 0, v', .slice AT T.length cT] :: Rs) → W'.cell? ⟨p, 1, none⟩ = some v' ∧ W'.frozen? ⟨p, 1, none⟩ = false from fun W' v' R1 Rs hh => ⟨hh.tail.blk.cell 1, hh.tail.blk.frozen 1⟩)
    have q7 : 67 + 1 ≤ maxLen := by decide
    have q8 : (67 + 1) * 16 ≤ 140737488355328 := by decide
    have hg : W6.cell? ⟨gC, 0, none⟩ = some (.string ⟨c0'.toArray⟩) := by
      have := z6.own.cellAt 0 (by decide)
      rw [hC0] at this
      exact this
    have hpg : p ≠ gC := fun e => by
      rw [e, hg] at c0
      cases c0
    have hu : (strs C)[0]? = some (.string ⟨c0'.toArray⟩) := by rw [hC0]; rfl
    have hs : strs C ++ [Value.string ⟨c0'.toArray⟩] = strs (C ++ [c0']) := by simp [strs]
    obtain ⟨n1', n3⟩ := HV.out _ _ _ _ z6.drew
    obtain ⟨l1, l3⟩ := HV.out _ _ _ _ (z6.alloc0 (.cells #[.string ⟨c0'.toArray⟩] 9)).drew
    have lg : (W6.alloc (.cells #[.string ⟨c0'.toArray⟩] 9)).drew.cell? ⟨gC, 0, none⟩ = some (.string ⟨c0'.toArray⟩) := by
      have := (z6.alloc0 (.cells #[.string ⟨c0'.toArray⟩] 9)).drew.own.cellAt 0 (by decide)
      rw [hC0] at this
      exact this
    clear y6 c0 c1 c2 f0 f1 f2 hC0
    have c1 := Y6.out.blk.cell 1
    go_wp2_with fail
    refine wp_region_noPanic ?_
    refine wp_region_held_drew (S := (fun w' => w'.cell? ⟨gC, 0, none⟩ = some (.string ⟨c0'.toArray⟩))) (by kernel_rfl) ?_ (fun hH0 => ?_)
    · (first
        | exact hg
        | exact lg
        | exact m0
        | exact p8 _
        | fail)
    refine wpAnyH_take (i := 0) (oi := ⟨some 78, _, _, _, _, _⟩) (v := ?_) rfl (by kernel_rfl) (by kernel_rfl) (by kernel_rfl) (fun _ _ _ h => h) (Or.inl ⟨by rfl, ?_⟩) hH0 ?_
    rotate_left 1
    · intro w hSw; (try dsimp only at hSw); go_simp; with_reducible rfl
    try simp only [Act.put, List.setIfInBounds_toArray, List.set_cons_zero, List.set_cons_succ]
    refine wpAnyH_take (i := 2) (oi := ⟨some 80, _, _, _, _, _⟩) (v := ?_) rfl (by kernel_rfl) (by kernel_rfl) (by kernel_rfl) (fun _ _ _ h => h) (Or.inl ⟨by rfl, ?_⟩) hH0 ?_
    rotate_left 1
    · intro w hSw; (try dsimp only at hSw); go_simp; with_reducible rfl
    try simp only [Act.put, List.setIfInBounds_toArray, List.set_cons_zero, List.set_cons_succ]
    refine wpAnyH_ready (rs := [1, 3]) (by kernel_rfl) (by simp) ?_
    refine AllReadyH.cons (o := ⟨some 79, _, _, _, _, _⟩) rfl (fun K hK => ?_) ?_
    go_simp
    refine hK.out _ _ ?_ (fun hH1 => ?_)
    · (first
        | exact hg
        | exact lg
        | exact m0
        | exact p8 _
        | fail)
    clear hK K hH0
    try simp only [Act.put, List.setIfInBounds_toArray, List.set_cons_zero, List.set_cons_succ]
    refine wpAnyH_ready (rs := [3]) (by kernel_rfl) (by simp) ?_
    refine AllReadyH.cons (o := ⟨some 81, _, _, _, _, _⟩) rfl (fun K hK => ?_) AllReadyH.nil
    go_simp
    refine hK.out _ _ ?_ (fun hH2 => ?_)
    · (first
        | exact hg
        | exact lg
        | exact m0
        | exact p8 _
        | fail)
    clear hK K hH1
    try simp only [Act.put, List.setIfInBounds_toArray, List.set_cons_zero, List.set_cons_succ]
    refine wpAnyH_take (i := 4) (oi := ⟨some 82, _, _, _, _, _⟩) (v := ?_) rfl (by kernel_rfl) (by kernel_rfl) (by kernel_rfl) (fun _ _ _ h => h) (Or.inl ⟨by rfl, ?_⟩) hH2 ?_
    rotate_left 1
    · intro w hSw; (try dsimp only at hSw); go_simp; with_reducible rfl
    try simp only [Act.put, List.setIfInBounds_toArray, List.set_cons_zero, List.set_cons_succ]
    refine wpAnyH_take (i := 5) (oi := ⟨some 83, _, _, _, _, _⟩) (v := ?_) rfl (by kernel_rfl) (by kernel_rfl) (by kernel_rfl) (fun _ _ _ h => h) (Or.inl ⟨by rfl, ?_⟩) hH2 ?_
    rotate_left 1
    · intro w hSw; (try dsimp only at hSw); go_simp; with_reducible rfl
    try simp only [Act.put, List.setIfInBounds_toArray, List.set_cons_zero, List.set_cons_succ]
    refine wpAnyH_ready (rs := [6]) (by kernel_rfl) (by simp) ?_
    refine AllReadyH.cons (o := ⟨some 84, _, _, _, _, _⟩) rfl (fun K hK => ?_) AllReadyH.nil
    go_simp
    refine hK.out _ _ ?_ (fun hH3 => ?_)
    · (first
        | exact hg
        | exact lg
        | exact m0
        | exact p8 _
        | fail)
    clear hK K hH2
    try simp only [Act.put, List.setIfInBounds_toArray, List.set_cons_zero, List.set_cons_succ]
    refine wpAnyH_ready (rs := [7]) (by kernel_rfl) (by simp) ?_
    refine AllReadyH.cons (o := ⟨some 85, _, _, _, _, _⟩) rfl (fun K hK => ?_) AllReadyH.nil
    (first
          | (refine stepO 31 (te := 9) (u := .string ⟨c0'.toArray⟩) z6 Try.underlying31 info_strc rfl _ _ (by rfl) (by rfl) (by rfl) (by rfl) rfl q7 q8 ?_
             intro gg cap w5 h8 k8
             have m0 := k8 gC cC rfl 0 _ hu
             obtain ⟨m1', m3⟩ := HV.out _ _ _ _ h8
             have p8 : ∀ u, (w5.setCell ⟨p, 1, none⟩ u).cell? ⟨gC, 0, none⟩ = some (.string ⟨c0'.toArray⟩) := fun u => (World.cell?_setCell_far _ _ _ _ hpg).trans m0)
          | fail)
    refine hK.out _ _ ?_ (fun hH4 => ?_)
    · (first
        | exact hg
        | exact lg
        | exact m0
        | exact p8 _
        | fail)
    clear hK K hH3
    try simp only [Act.put, List.setIfInBounds_toArray, List.set_cons_zero, List.set_cons_succ]
    refine wpAnyH_take (i := 8) (oi := ⟨some 86, _, _, _, _, _⟩) (v := ?_) rfl (by kernel_rfl) (by kernel_rfl) (by kernel_rfl) (fun _ _ _ h => h) (Or.inl ⟨by rfl, ?_⟩) hH4 ?_
    rotate_left 1
    · intro w hSw; (try dsimp only at hSw); go_simp; with_reducible rfl
    try simp only [Act.put, List.setIfInBounds_toArray, List.set_cons_zero, List.set_cons_succ]
    refine wpAnyH_ready (rs := [9]) (by kernel_rfl) (by simp) ?_
    refine AllReadyH.cons (o := ⟨_, _, _, _, _, _⟩) rfl (fun K hK => ?_) AllReadyH.nil
    go_simp
    refine hK.out _ _ ?_ (fun hH5 => ?_)
    · (first
        | exact hg
        | exact lg
        | exact m0
        | exact p8 _
        | fail)
    clear hK K hH4
    try simp only [Act.put, List.setIfInBounds_toArray, List.set_cons_zero, List.set_cons_succ]
    refine wpAnyH_done (by kernel_rfl) ?_ _
    rotate_left 1
    refine AllReadyH.cons (o := ⟨some 81, _, _, _, _, _⟩) rfl (fun K hK => ?_) AllReadyH.nil
    go_simp
    refine hK.out _ _ ?_ (fun hH6 => ?_)
    · (first
        | exact hg
        | exact lg
        | exact m0
        | exact p8 _
        | fail)
    clear hK K hH0
    try simp only [Act.put, List.setIfInBounds_toArray, List.set_cons_zero, List.set_cons_succ]
    refine wpAnyH_take (i := 4) (oi := ⟨some 82, _, _, _, _, _⟩) (v := ?_) rfl (by kernel_rfl) (by kernel_rfl) (by kernel_rfl) (fun _ _ _ h => h) (Or.inl ⟨by rfl, ?_⟩) hH6 ?_
    rotate_left 1
    · intro w hSw; (try dsimp only at hSw); go_simp; with_reducible rfl
    try simp only [Act.put, List.setIfInBounds_toArray, List.set_cons_zero, List.set_cons_succ]
    refine wpAnyH_take (i := 5) (oi := ⟨some 83, _, _, _, _, _⟩) (v := ?_) rfl (by kernel_rfl) (by kernel_rfl) (by kernel_rfl) (fun _ _ _ h => h) (Or.inl ⟨by rfl, ?_⟩) hH6 ?_
    rotate_left 1
    · intro w hSw; (try dsimp only at hSw); go_simp; with_reducible rfl
    try simp only [Act.put, List.setIfInBounds_toArray, List.set_cons_zero, List.set_cons_succ]
    refine wpAnyH_ready (rs := [1, 6]) (by kernel_rfl) (by simp) ?_
    refine AllReadyH.cons (o := ⟨some 79, _, _, _, _, _⟩) rfl (fun K hK => ?_) ?_
    go_simp
    refine hK.out _ _ ?_ (fun hH7 => ?_)
    · (first
        | exact hg
        | exact lg
        | exact m0
        | exact p8 _
        | fail)
    clear hK K hH6
    try simp only [Act.put, List.setIfInBounds_toArray, List.set_cons_zero, List.set_cons_succ]
    refine wpAnyH_ready (rs := [6]) (by kernel_rfl) (by simp) ?_
    refine AllReadyH.cons (o := ⟨some 84, _, _, _, _, _⟩) rfl (fun K hK => ?_) AllReadyH.nil
    go_simp
    refine hK.out _ _ ?_ (fun hH8 => ?_)
    · (first
        | exact hg
        | exact lg
        | exact m0
        | exact p8 _
        | fail)
    clear hK K hH7
    try simp only [Act.put, List.setIfInBounds_toArray, List.set_cons_zero, List.set_cons_succ]
    refine wpAnyH_ready (rs := [7]) (by kernel_rfl) (by simp) ?_
    refine AllReadyH.cons (o := ⟨some 85, _, _, _, _, _⟩) rfl (fun K hK => ?_) AllReadyH.nil
    (first
          | (refine stepO 31 (te := 9) (u := .string ⟨c0'.toArray⟩) z6 Try.underlying31 info_strc rfl _ _ (by rfl) (by rfl) (by rfl) (by rfl) rfl q7 q8 ?_
             intro gg cap w5 h8 k8
             have m0 := k8 gC cC rfl 0 _ hu
             obtain ⟨m1', m3⟩ := HV.out _ _ _ _ h8
             have p8 : ∀ u, (w5.setCell ⟨p, 1, none⟩ u).cell? ⟨gC, 0, none⟩ = some (.string ⟨c0'.toArray⟩) := fun u => (World.cell?_setCell_far _ _ _ _ hpg).trans m0)
          | fail)
    refine hK.out _ _ ?_ (fun hH9 => ?_)
    · (first
        | exact hg
        | exact lg
        | exact m0
        | exact p8 _
        | fail)
    clear hK K hH8
    try simp only [Act.put, List.setIfInBounds_toArray, List.set_cons_zero, List.set_cons_succ]
    refine wpAnyH_take (i := 8) (oi := ⟨some 86, _, _, _, _, _⟩) (v := ?_) rfl (by kernel_rfl) (by kernel_rfl) (by kernel_rfl) (fun _ _ _ h => h) (Or.inl ⟨by rfl, ?_⟩) hH9 ?_
    rotate_left 1
    · intro w hSw; (try dsimp only at hSw); go_simp; with_reducible rfl
    try simp only [Act.put, List.setIfInBounds_toArray, List.set_cons_zero, List.set_cons_succ]
    refine wpAnyH_ready (rs := [9]) (by kernel_rfl) (by simp) ?_
    refine AllReadyH.cons (o := ⟨_, _, _, _, _, _⟩) rfl (fun K hK => ?_) AllReadyH.nil
    go_simp
    refine hK.out _ _ ?_ (fun hH10 => ?_)
    · (first
        | exact hg
        | exact lg
        | exact m0
        | exact p8 _
        | fail)
    clear hK K hH9
    try simp only [Act.put, List.setIfInBounds_toArray, List.set_cons_zero, List.set_cons_succ]
    refine wpAnyH_done (by kernel_rfl) ?_ _
    rotate_left 1
    refine AllReadyH.cons (o := ⟨some 84, _, _, _, _, _⟩) rfl (fun K hK => ?_) AllReadyH.nil
    go_simp
    refine hK.out _ _ ?_ (fun hH11 => ?_)
    · (first
        | exact hg
        | exact lg
        | exact m0
        | exact p8 _
        | fail)
    clear hK K hH6
    try simp only [Act.put, List.setIfInBounds_toArray, List.set_cons_zero, List.set_cons_succ]
    refine wpAnyH_ready (rs := [1]) (by kernel_rfl) (by simp) ?_
    refine AllReadyH.cons (o := ⟨some 79, _, _, _, _, _⟩) rfl (fun K hK => ?_) AllReadyH.nil
    go_simp
    refine hK.out _ _ ?_ (fun hH12 => ?_)
    · (first
        | exact hg
        | exact lg
        | exact m0
        | exact p8 _
        | fail)
    clear hK K hH11
    try simp only [Act.put, List.setIfInBounds_toArray, List.set_cons_zero, List.set_cons_succ]
    refine wpAnyH_ready (rs := [7]) (by kernel_rfl) (by simp) ?_
    refine AllReadyH.cons (o := ⟨some 85, _, _, _, _, _⟩) rfl (fun K hK => ?_) AllReadyH.nil
    (first
          | (refine stepO 31 (te := 9) (u := .string ⟨c0'.toArray⟩) z6 Try.underlying31 info_strc rfl _ _ (by rfl) (by rfl) (by rfl) (by rfl) rfl q7 q8 ?_
             intro gg cap w5 h8 k8
             have m0 := k8 gC cC rfl 0 _ hu
             obtain ⟨m1', m3⟩ := HV.out _ _ _ _ h8
             have p8 : ∀ u, (w5.setCell ⟨p, 1, none⟩ u).cell? ⟨gC, 0, none⟩ = some (.string ⟨c0'.toArray⟩) := fun u => (World.cell?_setCell_far _ _ _ _ hpg).trans m0)
          | fail)
    refine hK.out _ _ ?_ (fun hH13 => ?_)
    · (first
        | exact hg
        | exact lg
        | exact m0
        | exact p8 _
        | fail)
    clear hK K hH12
    try simp only [Act.put, List.setIfInBounds_toArray, List.set_cons_zero, List.set_cons_succ]
    refine wpAnyH_take (i := 8) (oi := ⟨some 86, _, _, _, _, _⟩) (v := ?_) rfl (by kernel_rfl) (by kernel_rfl) (by kernel_rfl) (fun _ _ _ h => h) (Or.inl ⟨by rfl, ?_⟩) hH13 ?_
    rotate_left 1
    · intro w hSw; (try dsimp only at hSw); go_simp; with_reducible rfl
    try simp only [Act.put, List.setIfInBounds_toArray, List.set_cons_zero, List.set_cons_succ]
    refine wpAnyH_ready (rs := [9]) (by kernel_rfl) (by simp) ?_
    refine AllReadyH.cons (o := ⟨_, _, _, _, _, _⟩) rfl (fun K hK => ?_) AllReadyH.nil
    go_simp
    refine hK.out _ _ ?_ (fun hH14 => ?_)
    · (first
        | exact hg
        | exact lg
        | exact m0
        | exact p8 _
        | fail)
    clear hK K hH13
    try simp only [Act.put, List.setIfInBounds_toArray, List.set_cons_zero, List.set_cons_succ]
    refine wpAnyH_done (by kernel_rfl) ?_ _
    all_goals (refine NoPanic.normal ?_)
    all_goals
      have y7 := h8.swap.set_ 1 (.slice (some ⟨gg, 0, none⟩) (67 + 1) cap)
      rw [hs] at y7
      have y7 : St w.heap.size w (w5.setCell ⟨p, 1, none⟩ (.slice (some ⟨gg, 0, none⟩) 68 cap)) [cellsR p 33 #[.int .i64 0, .slice (some ⟨gg, 0, none⟩) 68 cap, .slice AT T.length cT], ownR 9 1 (.slice (some ⟨gg, 0, none⟩) 68 cap) 68 (strs (C ++ [c0'])), ownR 9 1 (.slice AT T.length cT) T.length (strs T), cellsR k 25 #[.string ⟨S.toArray⟩, .int .i64 (m : Int), .int .i64 0]] := y7
      obtain ⟨r5, r6⟩ := own_cap y7.tail.own
      have kv := HK.out c0' (some ⟨gg, 0, none⟩) AT cap cT _ (Rd.of_own y7.tail.own) (Rd.of_own y7.tail.tail.own) r5 r6 r3 r4
      have YF := Lib.hid y7
      obtain ⟨W7, hW7⟩ : ∃ W7, w5.setCell ⟨p, 1, none⟩ (.slice (some ⟨gg, 0, none⟩) 68 cap) = W7 := ⟨_, rfl⟩
      have e0 := y7.blk.cell 0
      have e1 := y7.blk.cell 1
      have e2 := y7.blk.cell 2
      rw [hW7] at kv YF e0 e1 e2 ⊢
      clear y7 h8 k8 m0 m1' m3 p8 hW7 n1' n3 l1 l3 lg hg z6 c1
      go_wp2_with fail
      refine kv.mono ?_
      rintro e w9 ⟨rfl, b9⟩
      have S9 := Lib.hid (YF.out.under b9)
      clear b9
      go_wp2
      go_ret
      exact ⟨rfl, S9.out.below⟩
end Go.Proofs.Ytnlpakalcckaiaa
