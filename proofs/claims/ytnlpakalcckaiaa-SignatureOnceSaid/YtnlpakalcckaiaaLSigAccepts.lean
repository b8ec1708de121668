/-
  SignatureAccepts: the walk. Conditions: none.
-/
import Derived.Test.YtnlpakalcckaiaaSgX
namespace Go.Proofs.Ytnlpakalcckaiaa
set_option linter.unusedVariables false
open Go.RowKit Go.Shelf
attribute [local go_sem] Oper.semAt_some

theorem wraps_u8 (n : Nat) (h : n < 256) : wrap64 (n : Int) = (n : Int) ∧ IntKind.i64.wrap (n : Int) = (n : Int) ∧ IntKind.u8.wrap (n : Int) = (n : Int) :=
  ⟨IntWalk.wrap64_in _ (by omega), by rw [IntKind.wrap_i64]; omega, by rw [IntKind.wrap_u8]; omega⟩
theorem sg_tmod (a b : Nat) : (a : Int).tmod (b : Int) = ((a % b : Nat) : Int) := by
  rw [Int.tmod_eq_emod_of_nonneg (by omega)]
  omega
theorem sg_q63 (q : Nat) (h : q < 64) : (q : Int) < 9223372036854775808 := by omega
theorem encS_le {i : Int} {C T : List Sg.Str} (ho : okB i C T = true) : (encS i C T).length ≤ 1099511627776 := by
  obtain ⟨_, c2, c3, c4, c5⟩ := okB_parts ho
  have h1 := vld_body c4 (by omega)
  have h2 := vld_body c5 (by omega)
  have h3 := Cd.uns_len i.toNat
  have h4 := Cd.uns_len C.length
  have h5 := Cd.uns_len T.length
  unfold encS Cd.texts
  simp only [List.length_append]
  omega
set_option maxRecDepth 20000 in
set_option maxHeartbeats 4000000 in
theorem sigAccepts_walk (b hh sk : Nat) (msg : Sg.Str) (w : World) (hb : b < 256) (hhh : hh < 256) (hsk : sk < 256) :
    Calls Try.prog 3 #[.int .u8 (b : Int), .int .u8 (hh : Int), .int .u8 (sk : Int), .string ⟨msg.toArray⟩] w fun e w' => e = .returned (.bool true) ∧ Below w.heap.size w w' := by
  have hz := bytes_size msg
  by_cases hl : msg.length ≤ 200
  · have hl' : ¬ ((200 : Int) < (msg.length : Int)) := by omega
    have hb8 : (UInt8.ofNat b).toNat = b := by rw [UInt8.toNat_ofNat']; omega
    have kse := fun W => seed_spec (UInt8.ofNat b) W
    rw [hb8] at kse
    have hsl : (List.replicate 32 (UInt8.ofNat b)).length = 32 := by simp
    generalize List.replicate 32 (UInt8.ofNat b) = S at kse hsl
    have m1 := sg_tmod hh 3
    obtain ⟨m, hm⟩ : ∃ m, hh % 3 = m := ⟨_, rfl⟩
    have hm2 : m ≤ 2 := by omega
    have hm6 : m ≤ 6 := by omega
    have hS30 : S.length ≤ 1073741824 := by rw [hsl]; decide
    have hM30 : msg.length ≤ 1073741824 := Nat.le_trans hl (by decide)
    rw [hm, show (((3 : Nat)) : Int) = 3 from rfl] at m1
    have M1 := Lib.hid m1
    clear m1
    obtain ⟨m3, m4, m5⟩ := wraps_u8 m (by omega)
    obtain ⟨s3, s4, s5⟩ := wraps_u8 sk hsk
    obtain ⟨P, hP⟩ : ∃ P, 2 ^ m = P := ⟨_, rfl⟩
    obtain ⟨h5, h6⟩ := shl_facts m P (by omega) hP
    have hP0 : 0 < P := by rw [← hP]; exact Nat.two_pow_pos _
    have hP4 : P ≤ 64 := by rw [← hP]; exact pow6 (by omega)
    have e9 : min m 64 = m := Nat.min_eq_left (by omega)
    have q1 := Lib.hid (sg_tmod sk P)
    obtain ⟨q, hq⟩ : ∃ q, sk % P = q := ⟨_, rfl⟩
    have hqP : q < P := by rw [← hq]; exact Nat.mod_lt _ hP0
    have hq1 : (sk : Int).tmod (P : Int) = (q : Int) := by rw [q1.out, hq]
    have Q1 := Lib.hid hq1
    clear q1 hq1
    have hd15 := Sg.dgs_le msg
    have hqm : q < 2 ^ m := by rw [hP]; exact hqP
    have ho := okB_sign S m q (Sg.dgs msg) hm6
    have hac := accepts S m q (Sg.dgs msg) hm6 hqm hd15
    have kP := fun W => public_spec S (m : Int) 0 W hS30
    rw [pubR_ok S m hsl hm6] at kP
    have kK := fun W => skip_spec S (m : Int) 0 (q : Int) W
    have hk := skipR_ok S m 0 q hsl hm6 (by rw [Nat.zero_add]; exact Nat.le_of_lt hqm)
    rw [Nat.zero_add, show (((0 : Nat)) : Int) = 0 from rfl] at hk
    rw [hk] at kK
    have kS := fun W => sign_spec S msg (m : Int) (q : Int) W hM30
    rw [signR_ok S m q (Sg.dgs msg) hsl hm6 hqm] at kS
    have hcl := Sg.chn_len S q (Sg.dgs msg) 67
    have hq64 : q < 64 := Nat.lt_of_lt_of_le hqP hP4
    have hq63 : (q : Int) < 9223372036854775808 := sg_q63 q hq64
    have hdec := decR_encS (q : Int) _ _ hq63 ho
    have henc := encE_ok (q : Int) _ _ ho
    have hel := encS_le ho
    have kV := fun (A B : Option Addr) (a b : Nat) (W : World) => verify_spec (pubK S m) msg (q : Int) (Sg.chn S q (Sg.dgs msg) 67) (Mk.incl (Sg.lvs S (2 ^ m)) q) A B a b W hM30
    rw [hac] at kV
    have kE := fun (A B : Option Addr) (a b : Nat) (W : World) => encode_spec (q : Int) (Sg.chn S q (Sg.dgs msg) 67) (Mk.incl (Sg.lvs S (2 ^ m)) q) A B a b W hq63
    have kDc := fun W => decode_spec (encS (q : Int) (Sg.chn S q (Sg.dgs msg) 67) (Mk.incl (Sg.lvs S (2 ^ m)) q)) W hel
    simp only [hcl, henc] at kE
    rw [hdec] at kDc
    simp only [hcl] at kV
    have hqw := wraps_succ q (Nat.lt_trans hq64 (by decide))
    clear hdec henc hac ho hel hk hd15 hqm hq hP hm hS30 hM30 hq64
    generalize Sg.chn S q (Sg.dgs msg) 67 = C at *
    generalize Mk.incl (Sg.lvs S (2 ^ m)) q = T at *
    generalize encS (q : Int) C T = E at *
    generalize pubK S m = V at *
    unfold keyA at kK
    unfold SgP keyA at kS
    unfold DcP at kDc
    dsimp only at kP kS kK kDc
    obtain ⟨qw, qw'⟩ := hqw
    have m1 := M1.out
    have q1 := Q1.out
    have HP := Lib.hid (And.intro hP0 (And.intro hP4 hqP))
    clear hP0 hP4 hqP hsl hq63
    go_enter Try.func3, Try.ntmps3
    go_wp2_with fail
    refine (awake_sg _).mono ?_
    rintro e w0 ⟨rfl, b0⟩
    go_wp2_with fail
    refine (kse _).mono ?_
    rintro e w1 ⟨rfl, b1⟩
    have s1 := (((St.nil w).under b0).under b1).alloc 25 #[.string ⟨S.toArray⟩, .int .i64 (m : Int), .int .i64 0]
    obtain ⟨k, hk⟩ : ∃ k, w1.heap.size = k := ⟨_, rfl⟩
    rw [hk] at s1
    clear b0 b1 kse
    go_wp2_with fail
    refine (kP _).mono ?_
    rintro e w2 ⟨rfl, b2⟩
    have s2 := s1.under b2
    clear kP b2 s1
    have y0 := s2.drew
    have n0 : w2.drew.cell? ⟨k, 2, none⟩ = some (.int .i64 0) := y0.blk.cell 2
    obtain ⟨hP0, hP4, hqP⟩ := HP.out
    have hPne : ¬ (P = 0) := by omega
    go_wp2_with fail
    refine wp_region_noPanic ?_
    refine wp_region_held_drew (S := (fun w' => w'.cell? ⟨k, 0, none⟩ = some (.string ⟨S.toArray⟩) ∧ w'.cell? ⟨k, 1, none⟩ = some (.int .i64 (m : Int)))) (by kernel_rfl) ?_ (fun hH0 => ?_)
    · (first
        | exact ⟨y0.blk.cell 0, y0.blk.cell 1⟩
        | exact ⟨y1.blk.cell 0, y1.blk.cell 1⟩
        | exact ⟨y5.blk.cell 0, y5.blk.cell 1⟩
        | fail)
    refine wpAnyH_take (i := 1) (oi := ⟨some 38, _, _, _, _, _⟩) (v := ?_) rfl (by kernel_rfl) (by kernel_rfl) (by kernel_rfl) (fun _ _ _ h => h) (Or.inl ⟨by rfl, ?_⟩) hH0 ?_
    rotate_left 1
    · intro w hSw; (try dsimp only at hSw); go_simp; with_reducible rfl
    try simp only [Act.put, List.setIfInBounds_toArray, List.set_cons_zero, List.set_cons_succ]
    refine wpAnyH_take (i := 2) (oi := ⟨some 39, _, _, _, _, _⟩) (v := ?_) rfl (by kernel_rfl) (by kernel_rfl) (by kernel_rfl) (fun _ _ _ h => h) (Or.inl ⟨by rfl, ?_⟩) hH0 ?_
    rotate_left 1
    · intro w hSw; (try dsimp only at hSw); go_simp; with_reducible rfl
    try simp only [Act.put, List.setIfInBounds_toArray, List.set_cons_zero, List.set_cons_succ]
    refine wpAnyH_take (i := 3) (oi := ⟨some 40, _, _, _, _, _⟩) (v := ?_) rfl (by kernel_rfl) (by kernel_rfl) (by kernel_rfl) (fun _ _ _ h => h) (Or.inl ⟨by rfl, ?_⟩) hH0 ?_
    rotate_left 1
    · intro w hSw; (try dsimp only at hSw); go_simp; with_reducible rfl
    try simp only [Act.put, List.setIfInBounds_toArray, List.set_cons_zero, List.set_cons_succ]
    refine wpAnyH_take (i := 4) (oi := ⟨some 41, _, _, _, _, _⟩) (v := ?_) rfl (by kernel_rfl) (by kernel_rfl) (by kernel_rfl) (fun _ _ _ h => h) (Or.inl ⟨by rfl, ?_⟩) hH0 ?_
    rotate_left 1
    · intro w hSw; (try dsimp only at hSw); go_simp; with_reducible rfl
    try simp only [Act.put, List.setIfInBounds_toArray, List.set_cons_zero, List.set_cons_succ]
    refine wpAnyH_take (i := 5) (oi := ⟨some 42, _, _, _, _, _⟩) (v := ?_) rfl (by kernel_rfl) (by kernel_rfl) (by kernel_rfl) (fun _ _ _ h => h) (Or.inl ⟨by rfl, ?_⟩) hH0 ?_
    rotate_left 1
    · intro w hSw; (try dsimp only at hSw); go_simp; with_reducible rfl
    try simp only [Act.put, List.setIfInBounds_toArray, List.set_cons_zero, List.set_cons_succ]
    refine wpAnyH_take (i := 6) (oi := ⟨some 43, _, _, _, _, _⟩) (v := ?_) rfl (by kernel_rfl) (by kernel_rfl) (by kernel_rfl) (fun _ _ _ h => h) (Or.inl ⟨by rfl, ?_⟩) hH0 ?_
    rotate_left 1
    · intro w hSw; (try dsimp only at hSw); go_simp; with_reducible rfl
    try simp only [Act.put, List.setIfInBounds_toArray, List.set_cons_zero, List.set_cons_succ]
    refine wpAnyH_ready (rs := [0]) (by kernel_rfl) (by simp) ?_
    refine AllReadyH.cons (o := ⟨some 37, _, _, _, _, _⟩) rfl (fun K hK => ?_) AllReadyH.nil
    go_simp
    refine hK.out _ _ ?_ (fun hH1 => ?_)
    · (first
        | exact ⟨y0.blk.cell 0, y0.blk.cell 1⟩
        | exact ⟨y1.blk.cell 0, y1.blk.cell 1⟩
        | exact ⟨y5.blk.cell 0, y5.blk.cell 1⟩
        | fail)
    clear hK K hH0
    try simp only [Act.put, List.setIfInBounds_toArray, List.set_cons_zero, List.set_cons_succ]
    refine wpAnyH_ready (rs := [7]) (by kernel_rfl) (by simp) ?_
    refine AllReadyH.cons (o := ⟨some 44, _, _, _, _, _⟩) rfl (fun K hK => ?_) AllReadyH.nil
    go_simp; (first
          | (with_reducible refine (kK _).mono ?_
             rintro e w3 ⟨rfl, b3⟩
             have y1 := y0.under b3
             have d0 : w3.cell? ⟨k, 0, none⟩ = some (.string ⟨S.toArray⟩) := y1.blk.cell 0
             have d1 : w3.cell? ⟨k, 1, none⟩ = some (.int .i64 (m : Int)) := y1.blk.cell 1
             have d2 : w3.cell? ⟨k, 2, none⟩ = some (.int .i64 0) := y1.blk.cell 2
             have f0 := y1.blk.frozen 0
             have f1 := y1.blk.frozen 1
             have f2 := y1.blk.frozen 2
             have y5 := ((y1.set_ 0 (.string ⟨S.toArray⟩)).set_ 1 (.int .i64 (m : Int))).set_ 2 (.int .i64 (q : Int)))
          | fail); go_wp2_with fail
    refine hK.out _ _ ?_ (fun hH2 => ?_)
    · (first
        | exact ⟨y0.blk.cell 0, y0.blk.cell 1⟩
        | exact ⟨y1.blk.cell 0, y1.blk.cell 1⟩
        | exact ⟨y5.blk.cell 0, y5.blk.cell 1⟩
        | fail)
    clear hK K hH1
    try simp only [Act.put, List.setIfInBounds_toArray, List.set_cons_zero, List.set_cons_succ]
    refine wpAnyH_take (i := 8) (oi := ⟨some 36, _, _, _, _, _⟩) (v := ?_) rfl (by kernel_rfl) (by kernel_rfl) (by kernel_rfl) (fun _ _ _ h => h) (Or.inl ⟨by rfl, ?_⟩) hH2 ?_
    rotate_left 1
    · intro w hSw; (try dsimp only at hSw); go_simp; with_reducible rfl
    try simp only [Act.put, List.setIfInBounds_toArray, List.set_cons_zero, List.set_cons_succ]
    refine wpAnyH_take (i := 9) (oi := ⟨some 45, _, _, _, _, _⟩) (v := ?_) rfl (by kernel_rfl) (by kernel_rfl) (by kernel_rfl) (fun _ _ _ h => h) (Or.inl ⟨by rfl, ?_⟩) hH2 ?_
    rotate_left 1
    · intro w hSw; (try dsimp only at hSw); go_simp; with_reducible rfl
    try simp only [Act.put, List.setIfInBounds_toArray, List.set_cons_zero, List.set_cons_succ]
    refine wpAnyH_take (i := 10) (oi := ⟨some 46, _, _, _, _, _⟩) (v := ?_) rfl (by kernel_rfl) (by kernel_rfl) (by kernel_rfl) (fun _ _ _ h => h) (Or.inl ⟨by rfl, ?_⟩) hH2 ?_
    rotate_left 1
    · intro w hSw; (try dsimp only at hSw); go_simp; with_reducible rfl
    try simp only [Act.put, List.setIfInBounds_toArray, List.set_cons_zero, List.set_cons_succ]
    refine wpAnyH_ready (rs := [11]) (by kernel_rfl) (by simp) ?_
    refine AllReadyH.cons (o := ⟨_, _, _, _, _, _⟩) rfl (fun K hK => ?_) AllReadyH.nil
    go_simp
    refine hK.out _ _ ?_ (fun hH3 => ?_)
    · (first
        | exact ⟨y0.blk.cell 0, y0.blk.cell 1⟩
        | exact ⟨y1.blk.cell 0, y1.blk.cell 1⟩
        | exact ⟨y5.blk.cell 0, y5.blk.cell 1⟩
        | fail)
    clear hK K hH2
    try simp only [Act.put, List.setIfInBounds_toArray, List.set_cons_zero, List.set_cons_succ]
    refine wpAnyH_take (i := 12) (oi := ⟨some 12, _, _, _, _, _⟩) (v := ?_) rfl (by kernel_rfl) (by kernel_rfl) (by kernel_rfl) (fun _ _ _ h => h) (Or.inl ⟨by rfl, ?_⟩) hH3 ?_
    rotate_left 1
    · intro w hSw; (try dsimp only at hSw); go_simp; with_reducible rfl
    try simp only [Act.put, List.setIfInBounds_toArray, List.set_cons_zero, List.set_cons_succ]
    refine wpAnyH_done (by kernel_rfl) ?_ _
    all_goals (refine NoPanic.normal ?_)
    all_goals
      obtain ⟨W4, hW4⟩ : ∃ W4, ((w3.setCell ⟨k, 0, none⟩ (.string ⟨S.toArray⟩)).setCell ⟨k, 1, none⟩ (.int .i64 (m : Int))).setCell ⟨k, 2, none⟩ (.int .i64 (q : Int)) = W4 := ⟨_, rfl⟩
      have y6 : St w.heap.size w _ [cellsR k 25 #[.string ⟨S.toArray⟩, .int .i64 (m : Int), .int .i64 (q : Int)]] := y5
      rw [hW4] at y6 ⊢
      clear y5 y1 y0 n0 d0 d1 d2 f0 f1 f2 hW4
      have c0 := y6.blk.cell 0
      have c1 := y6.blk.cell 1
      have c2 := y6.blk.cell 2
      go_wp2_with fail
      refine (kS _).mono ?_
      rintro e w5 ⟨a, b', rfl, t5⟩
      obtain ⟨A1, n1, rfl, p1, p2⟩ := own_form t5.own
      obtain ⟨A2, n2, rfl, p3, p4⟩ := own_form t5.tail.own
      simp only [hcl] at t5 p1 ⊢
      have s5 := ((y6.join t5).alloc 33 #[.int .i64 (q : Int), .slice A1 67 n1, .slice A2 T.length n2]).alloc 25 #[.string ⟨S.toArray⟩, .int .i64 (m : Int), .int .i64 ((q : Int) + 1)]
      rw [World.size_alloc] at s5
      obtain ⟨o, ho⟩ : ∃ o, w5.heap.size = o := ⟨_, rfl⟩
      rw [ho] at s5
      have s5 : St w.heap.size w _ [cellsR (o + 1) 25 #[.string ⟨S.toArray⟩, .int .i64 (m : Int), .int .i64 ((q : Int) + 1)], cellsR o 33 #[.int .i64 (q : Int), .slice A1 67 n1, .slice A2 T.length n2], ownR 9 1 (.slice A1 67 n1) 67 (strs C), ownR 9 1 (.slice A2 T.length n2) T.length (strs T), cellsR k 25 #[.string ⟨S.toArray⟩, .int .i64 (m : Int), .int .i64 (q : Int)]] := s5
      have ke := kE A1 A2 n1 n2 _ (Rd.of_own s5.tail.tail.own) (Rd.of_own s5.tail.tail.tail.own) p1 p2 p3 p4
      clear y6 t5 c0 c1 c2 kS
      have S5 := Lib.hid s5
      clear s5 kE
      go_wp2_with fail
      refine ke.mono ?_
      rintro e w6 ⟨rfl, b6⟩
      have s6 := S5.out.under b6
      clear ke b6
      go_wp2_with fail
      refine (kDc _).mono ?_
      rintro e w7 ⟨a', b'', rfl, t7⟩
      obtain ⟨A4, n4, rfl, p7, p8⟩ := own_form t7.own
      obtain ⟨A5, n5, rfl, p9, p10⟩ := own_form t7.tail.own
      simp only [hcl] at t7 p7 ⊢
      have s7 := (s6.join t7).alloc 33 #[.int .i64 (q : Int), .slice A4 67 n4, .slice A5 T.length n5]
      obtain ⟨o', ho'⟩ : ∃ o', w7.heap.size = o' := ⟨_, rfl⟩
      rw [ho'] at s7
      have s7 : St w.heap.size w _ [cellsR o' 33 #[.int .i64 (q : Int), .slice A4 67 n4, .slice A5 T.length n5], ownR 9 1 (.slice A4 67 n4) 67 (strs C), ownR 9 1 (.slice A5 T.length n5) T.length (strs T), cellsR (o + 1) 25 #[.string ⟨S.toArray⟩, .int .i64 (m : Int), .int .i64 ((q : Int) + 1)], cellsR o 33 #[.int .i64 (q : Int), .slice A1 67 n1, .slice A2 T.length n2], ownR 9 1 (.slice A1 67 n1) 67 (strs C), ownR 9 1 (.slice A2 T.length n2) T.length (strs T), cellsR k 25 #[.string ⟨S.toArray⟩, .int .i64 (m : Int), .int .i64 (q : Int)]] := s7
      clear s6 t7 kDc
      have c2 := s7.tail.tail.tail.blk.cell 2
      have d0 := s7.tail.tail.tail.tail.blk.cell 0
      have d1 := s7.tail.tail.tail.tail.blk.cell 1
      have d2 := s7.tail.tail.tail.tail.blk.cell 2
      have e2 := s7.tail.tail.tail.tail.tail.tail.tail.blk.cell 2
      have kv := kV A1 A2 n1 n2 _ (Rd.of_own s7.tail.tail.tail.tail.tail.own) (Rd.of_own s7.tail.tail.tail.tail.tail.tail.own) p1 p2 p3 p4
      have S7 := Lib.hid s7
      clear s7
      go_wp2_with fail
      refine kv.mono ?_
      rintro e w8 ⟨rfl, b8⟩
      have s8 := S7.out.under b8
      clear kv b8 c2 d0 d1 d2 e2
      have d0 := s8.blk.cell 0
      have d1 := s8.blk.cell 1
      have d2 := s8.blk.cell 2
      have kv := kV A4 A5 n4 n5 _ (Rd.of_own s8.tail.own) (Rd.of_own s8.tail.tail.own) p7 p8 p9 p10
      have S8 := Lib.hid s8
      clear s8 kV
      go_wp2_with fail
      refine kv.mono ?_
      rintro e w9 ⟨rfl, b9⟩
      have S9 := Lib.hid (S8.out.under b9)
      clear b9 kv d0 d1 d2
      go_wp2
      go_ret
      exact ⟨rfl, S9.out.below⟩
  · have hl' : (200 : Int) < (msg.length : Int) := by omega
    go_enter Try.func3, Try.ntmps3
    go_wp2_with fail
    refine (awake_sg _).mono ?_
    rintro e w1 ⟨rfl, b1⟩
    go_wp2
    go_ret
    exact ⟨rfl, b1⟩
end Go.Proofs.Ytnlpakalcckaiaa
