/-
  SignatureOnce: the walk. Conditions: none.
-/
import Derived.Test.YtnlpakalcckaiaaLSigAccepts
import Derived.Test.YtnlpakalcckaiaaMapB
namespace Go.Proofs.Ytnlpakalcckaiaa
set_option linter.unusedVariables false
open Go.RowKit Go.Shelf
attribute [local go_sem] Oper.semAt_some

theorem rd_val {w : World} {A : Option Addr} {L : List UInt8} (h : Rd w A (vals L)) {k : Nat} (hk : k < L.length) : ∃ b off, A = some ⟨b, off, none⟩ ∧ w.cell? ⟨b, off + k, none⟩ = some (.int .u8 (L[k].toNat : Int)) := by
  rcases h with h | ⟨b, off, rfl, hc⟩
  · have : L = [] := by simpa [vals] using h
    subst this
    simp at hk
  · refine ⟨b, off, rfl, ?_⟩
    rw [hc k (by rw [vals_length]; exact hk)]
    simp [vals, hk]
theorem once_quo (a b : Nat) (hb : 0 < b) : (a : Int).tdiv (b : Int) = ((a / b : Nat) : Int) := by
  rw [Int.tdiv_eq_ediv_of_nonneg (by omega)]
  omega
theorem skipR_full (S : Sg.Str) (m q c : Nat) (hs : S.length = 32) (hm : m ≤ 6) (hq : q ≤ 2 ^ m) (hc : 2 ^ m < q + c) : skipR S (m : Int) (q : Int) (c : Int) = (([], 0, 0), 22) := by
  unfold skipR
  rw [if_pos (validB_ok S m q hs hm hq), if_pos (by omega), Int.toNat_natCast, if_neg (by omega)]
set_option maxRecDepth 20000 in
set_option maxHeartbeats 1600000 in
theorem sigOnce_walk (b hh : Nat) (AL : Option Addr) (L : List UInt8) (cL : Nat) (w : World) (hb : b < 256) (hhh : hh < 256) (hR : Rd w AL (vals L)) (hc1 : L.length ≤ cL) (hc2 : cL ≤ maxLen) :
    Calls Try.prog 4 #[.int .u8 (b : Int), .int .u8 (hh : Int), .slice AL L.length cL] w fun e w' => e = .returned (.bool true) ∧ Below w.heap.size w w' := by
  obtain ⟨N, hN⟩ : ∃ N, L.length = N := ⟨_, rfl⟩
  rw [hN] at hc1 ⊢
  by_cases hl : N ≤ 12
  · have hl' : ¬ ((12 : Int) < (N : Int)) := by omega
    have hb8 : (UInt8.ofNat b).toNat = b := by rw [UInt8.toNat_ofNat']; omega
    have kse := fun W => seed_spec (UInt8.ofNat b) W
    rw [hb8] at kse
    have hsl : (List.replicate 32 (UInt8.ofNat b)).length = 32 := by simp
    generalize List.replicate 32 (UInt8.ofNat b) = S at kse hsl
    have m1 := sg_tmod hh 3
    obtain ⟨m, hm⟩ : ∃ m, hh % 3 = m := ⟨_, rfl⟩
    have hm2 : m ≤ 2 := by omega
    have hm6 : m ≤ 6 := by omega
    rw [hm, show (((3 : Nat)) : Int) = 3 from rfl] at m1
    obtain ⟨m3, m4, m5⟩ := wraps_u8 m (by omega)
    obtain ⟨P, hP⟩ : ∃ P, 2 ^ m = P := ⟨_, rfl⟩
    obtain ⟨h5, h6⟩ := shl_facts m P hm6 hP
    have hP4 : P ≤ 64 := by rw [← hP]; exact pow6 hm6
    have hP0 : 0 < P := by rw [← hP]; exact Nat.two_pow_pos _
    have e9 : min m 64 = m := Nat.min_eq_left (Nat.le_trans hm6 (by decide))
    have kK : ∀ (q c : Nat) (W : World), q + c ≤ P → Calls Try.prog 9 #[.agg #[.string ⟨S.toArray⟩, .int .i64 (m : Int), .int .i64 (q : Int)], .int .i64 (c : Int)] W fun e w' => e = .returned (.tuple #[.agg #[.string ⟨S.toArray⟩, .int .i64 (m : Int), .int .i64 ((q + c : Nat) : Int)], .int .i64 0]) ∧ Below W.heap.size W w' := fun q c W h => by
      have := skip_spec S (m : Int) (q : Int) (c : Int) W
      rw [skipR_ok S m q c hsl hm6 (by rw [hP]; exact h)] at this
      exact this
    have kF : ∀ (q c : Nat) (W : World), q ≤ P → P < q + c → Calls Try.prog 9 #[.agg #[.string ⟨S.toArray⟩, .int .i64 (m : Int), .int .i64 (q : Int)], .int .i64 (c : Int)] W fun e w' => e = .returned (.tuple #[.agg #[.string ⟨#[]⟩, .int .i64 0, .int .i64 0], .int .i64 22]) ∧ Below W.heap.size W w' := fun q c W h h' => by
      have := skip_spec S (m : Int) (q : Int) (c : Int) W
      rw [skipR_full S m q c hsl hm6 (by rw [hP]; exact h) (by rw [hP]; exact h')] at this
      exact this
    have kS : ∀ (q : Nat) (x : UInt8) (W : World), q < P → Calls Try.prog 10 #[.agg #[.string ⟨S.toArray⟩, .int .i64 (m : Int), .int .i64 (q : Int)], .string ⟨[x].toArray⟩] W fun e w' => ∃ A1 l1 n1 A2 l2 n2, e = .returned (.tuple #[.agg #[.int .i64 (q : Int), .slice A1 l1 n1, .slice A2 l2 n2], .agg #[.string ⟨S.toArray⟩, .int .i64 (m : Int), .int .i64 ((q : Int) + 1)], .int .i64 0]) ∧ Below W.heap.size W w' := fun q x W h => by
      have := sign_spec S [x] (m : Int) (q : Int) W (show 1 ≤ 1073741824 by decide)
      rw [signR_ok S m q (Sg.dgs [x]) hsl hm6 (by rw [hP]; exact h)] at this
      refine this.mono ?_
      rintro e w' ⟨a, b, rfl, t⟩
      obtain ⟨A1, n1, rfl, p1, p2⟩ := own_form t.own
      obtain ⟨A2, n2, rfl, p3, p4⟩ := own_form t.tail.own
      exact ⟨A1, _, n1, A2, _, n2, rfl, t.below⟩
    have kO : ∀ (x : UInt8) (W : World), Calls Try.prog 10 #[.agg #[.string ⟨S.toArray⟩, .int .i64 (m : Int), .int .i64 (P : Int)], .string ⟨[x].toArray⟩] W fun e w' => ∃ A1 l1 n1 A2 l2 n2, e = .returned (.tuple #[.agg #[.int .i64 0, .slice A1 l1 n1, .slice A2 l2 n2], .agg #[.string ⟨#[]⟩, .int .i64 0, .int .i64 0], .int .i64 22]) ∧ Below W.heap.size W w' := fun x W => by
      have := sign_spec S [x] (m : Int) (P : Int) W (show 1 ≤ 1073741824 by decide)
      have h := signR_full S m (Sg.dgs [x]) hsl hm6
      rw [hP] at h
      rw [h] at this
      refine this.mono ?_
      rintro e w' ⟨a, b, rfl, t⟩
      obtain ⟨A1, n1, rfl, p1, p2⟩ := own_form t.own
      obtain ⟨A2, n2, rfl, p3, p4⟩ := own_form t.tail.own
      exact ⟨A1, _, n1, A2, _, n2, rfl, t.below⟩
    have HK := Lib.hid (And.intro kK (And.intro kF (And.intro kS kO)))
    have HP := Lib.hid (And.intro hP0 hP4)
    have HL := Lib.hid (And.intro hN hR)
    have M1 := Lib.hid m1
    clear kK kF kS kO hP0 hP4 hP hm hsl hR hN
    have m1 := M1.out
    go_enter Try.func4, Try.ntmps4
    go_wp2_with fail
    refine (awake_sg _).mono ?_
    rintro e w0 ⟨rfl, b0⟩
    go_wp2_with fail
    refine (kse _).mono ?_
    rintro e w1 ⟨rfl, b1⟩
    have hmm := @run_makeMap Try.prog
    have s1 := ((((St.nil w).under b0).under b1).alloc 25 #[.string ⟨S.toArray⟩, .int .i64 (m : Int), .int .i64 0]).made 3 4
    obtain ⟨k, hk⟩ : ∃ k, w1.heap.size = k := ⟨_, rfl⟩
    rw [World.size_alloc, hk] at s1
    have S1 := Lib.hid s1.swap
    clear b0 b1 kse s1
    go_wp2_with fail
    go_loopw [30] (fun i wr => ∃ (j q n : Nat) (D : DataW Unit), j ≤ N ∧ i = .int .i64 j ∧ q ≤ P ∧ n ≤ j ∧ Fresh D q ∧ St w.heap.size w wr [cellsR k 25 #[.string ⟨S.toArray⟩, .int .i64 (m : Int), .int .i64 (q : Int)], mapR 3 4 (k + 1) n D]) (fun i _ => N - (intOf i).toNat)
    case atStart => exact ⟨0, 0, 0, _, Nat.zero_le _, rfl, Nat.zero_le _, Nat.zero_le _, fresh_nil 0, S1.out⟩
    case round =>
      obtain ⟨j, q, n, D, hj, rfl, hq, hn, hF, h⟩ := hrel
      by_cases hlt : j < N
      · have hLk : j < L.length := by rw [HL.out.1]; exact hlt
        obtain ⟨bq, off, rfl, hcx⟩ := rd_val (HL.out.2.below h.below) hLk
        obtain ⟨x, hx⟩ : ∃ x, L[j] = x := ⟨_, rfl⟩
        rw [hx] at hcx
        have hx256 : x.toNat < 256 := x.toNat_lt
        have g4 : ∀ (W : World) (g : Nat), W.cell? ⟨g, 0, none⟩ = some (.int .u8 (x.toNat : Int)) → (convert 41 9 (.slice (some ⟨g, 0, none⟩) 1 1)).run Try.prog W = .ok (.string ⟨[x].toArray⟩) W := fun W g hw => conv1 W g x _ rfl hw
        obtain ⟨v, hv⟩ : ∃ v, x.toNat = v := ⟨_, rfl⟩
        rw [hv] at hcx hx256 g4
        have g1 := sg_tmod v 3
        have g2 := once_quo v 3 (by decide)
        have g3 := sg_tmod (v / 3) 3
        obtain ⟨u, hu⟩ : ∃ u, v / 3 = u := ⟨_, rfl⟩
        obtain ⟨z, hz⟩ : ∃ z, v % 3 = z := ⟨_, rfl⟩
        obtain ⟨c, hc⟩ : ∃ c, u % 3 = c := ⟨_, rfl⟩
        have hu2 : u < 256 := by rw [← hu]; exact Nat.lt_of_le_of_lt (Nat.div_le_self _ _) hx256
        have hz2 : z < 256 := by rw [← hz]; exact Nat.lt_of_le_of_lt (Nat.mod_le _ _) hx256
        have hc2' : c < 256 := by rw [← hc]; exact Nat.lt_of_le_of_lt (Nat.mod_le _ _) hu2
        rw [hu] at g2 g3
        rw [hc] at g3
        rw [hz] at g1
        obtain ⟨a1, a2, a3⟩ := wraps_u8 v hx256
        obtain ⟨a4, a5, a6⟩ := wraps_u8 u hu2
        obtain ⟨a7, a8, a9⟩ := wraps_u8 z hz2
        obtain ⟨c4, c5, c6⟩ := wraps_u8 c hc2'
        rw [show (((3 : Nat)) : Int) = 3 from rfl] at g1 g2 g3
        clear hu hz hc hv hu2 hz2 hc2' hx256
        have i0 : (0 : Int) ≤ (j : Int) := Int.natCast_nonneg _
        have i1 : (j : Int) < (N : Int) := Int.ofNat_lt.2 hlt
        have d0 := h.blk.cell 0
        have d1 := h.blk.cell 1
        have d2 := h.blk.cell 2
        have H := Lib.hid h
        have kK := HK.out.1 q c
        have kF := HK.out.2.1 q c
        have kS := HK.out.2.2.1 q x
        have kO := HK.out.2.2.2 x
        have F := Lib.hid (And.intro hF (And.intro hq hn))
        clear h hF hx hLk hj hn hmm
        by_cases h3 : z = 0
        · rw [h3, show (((0 : Nat)) : Int) = 0 from rfl] at g1
          by_cases hqc : q + c ≤ P
          · clear kF kS kO
            have kk := fun W => kK W hqc
            go_wp2_with fail
            refine (kk _).mono ?_
            rintro e w2 ⟨rfl, b2⟩
            have y2 := H.out.under b2
            have f0 := y2.blk.frozen 0
            have f1 := y2.blk.frozen 1
            have f2 := y2.blk.frozen 2
            have e0 := y2.blk.cell 0
            have e1 := y2.blk.cell 1
            have e2 := y2.blk.cell 2
            have hkn : ¬ (w2.heap.size = k) := Nat.ne_of_gt y2.blk.lt
            have hk2 : k < w2.heap.size := y2.blk.lt
            have y2' := y2.alloc0 (.cells #[.string ⟨S.toArray⟩, .int .i64 (m : Int), .int .i64 ((q : Int) + (c : Int))] 25)
            have f0' := y2'.blk.frozen 0
            have f1' := y2'.blk.frozen 1
            have f2' := y2'.blk.frozen 2
            have Y3 := Lib.hid ((((y2.set_ 0 (.string ⟨S.toArray⟩)).set_ 1 (.int .i64 (m : Int))).set_ 2 (.int .i64 ((q : Int) + (c : Int)))).alloc0 (.cells #[.string ⟨S.toArray⟩, .int .i64 (m : Int), .int .i64 ((q : Int) + (c : Int))] 25))
            have QC := Lib.hid hqc
            clear y2 y2' kk hqc b2
            go_wp2
            go_roundw
            case rel => exact ⟨j + 1, q + c, n, D, by omega, by go_num, QC.out, by have := F.out.2.2; omega, F.out.1.mono (Nat.le_add_right _ _), by rw [Int.natCast_add]; exact Y3.out⟩
            case measure => simp [intOf]; omega
          · clear kK kS kO
            have kk := fun W => kF W F.out.2.1 (Nat.lt_of_not_le hqc)
            go_wp2_with fail
            refine (kk _).mono ?_
            rintro e w2 ⟨rfl, b2⟩
            have Y3 := Lib.hid ((H.out.under b2).alloc0 (.cells #[.string ⟨#[]⟩, .int .i64 0, .int .i64 0] 25))
            clear kk b2 hqc
            go_wp2
            go_roundw
            case rel => exact ⟨j + 1, q, n, D, by omega, by go_num, F.out.2.1, by have := F.out.2.2; omega, F.out.1, Y3.out⟩
            case measure => simp [intOf]; omega
        · have h3' : ¬ ((z : Int) = 0) := fun e => h3 (Int.natCast_eq_zero.1 e)
          have h3b : ((z : Int) == 0) = false := beq_eq_false_iff_ne.2 h3'
          clear kK kF g2 g3 a4 a5 a6 c4 c5 c6
          have gv := g4 (wr.alloc (.cells #[.int .u8 (v : Int)] 5)) wr.heap.size ((Blk.new wr 5 #[.int .u8 (v : Int)]).cell 0)
          have y1 := H.out.alloc0 (.cells #[.int .u8 (v : Int)] 5)
          have Y1 := Lib.hid y1
          clear g4 y1
          by_cases hqP : q < P
          · clear kO
            have kk := fun W => kS W hqP
            clear kS
            go_wp2_with fail
            refine (kk _).mono ?_
            rintro e w2 ⟨A1, l1, n1, A2, l2, n2, rfl, b2⟩
            clear gv
            have y3 := (((Y1.out.under b2).alloc 33 #[.int .i64 (q : Int), .slice A1 l1 n1, .slice A2 l2 n2]).alloc 25 #[.string ⟨S.toArray⟩, .int .i64 (m : Int), .int .i64 ((q : Int) + 1)])
            rw [World.size_alloc] at y3
            obtain ⟨o, ho⟩ : ∃ o, w2.heap.size = o := ⟨_, rfl⟩
            rw [ho] at y3
            have Y3 := Lib.hid (y3.pick [2, 3, 0, 1] (by decide) (by simp))
            clear y3 kk b2 H Y1
            go_wp2_with fail
            obtain ⟨W3, hW3⟩ : ∃ W3, (w2.alloc (.cells #[.int .i64 (q : Int), .slice A1 l1 n1, .slice A2 l2 n2] 33)).alloc (.cells #[.string ⟨S.toArray⟩, .int .i64 (m : Int), .int .i64 ((q : Int) + 1)] 25) = W3 := ⟨_, rfl⟩
            have y3 : St w.heap.size w W3 [cellsR k 25 #[.string ⟨S.toArray⟩, .int .i64 (m : Int), .int .i64 (q : Int)], mapR 3 4 (k + 1) n D, cellsR (o + 1) 25 #[.string ⟨S.toArray⟩, .int .i64 (m : Int), .int .i64 ((q : Int) + 1)], cellsR o 33 #[.int .i64 (q : Int), .slice A1 l1 n1, .slice A2 l2 n2]] := by
              rw [← hW3]
              exact Y3.out
            rw [hW3]
            clear Y3 hW3
            have hq64 : q < 9223372036854775808 := Nat.lt_of_lt_of_le hqP (Nat.le_trans HP.out.2 (by decide))
            have hlk := fresh_look y3.tail.map.drew F.out.1 hq64
            have k1 : W3.drew.cell? ⟨k, 1, none⟩ = some (.int .i64 (m : Int)) := y3.drew.blk.cell 1
            have k2 : W3.drew.cell? ⟨k, 2, none⟩ = some (.int .i64 (q : Int)) := y3.drew.blk.cell 2
            have o0 : W3.drew.cell? ⟨o, 0, none⟩ = some (.int .i64 (q : Int)) := y3.drew.tail.tail.tail.blk.cell 0
            have p2 : W3.drew.cell? ⟨o + 1, 2, none⟩ = some (.int .i64 ((q : Int) + 1)) := y3.drew.tail.tail.blk.cell 2
            have r1 : decide ((q : Int) < 0) = false := decide_eq_false (Int.not_lt.2 (Int.natCast_nonneg _))
            have r2 : decide (P ≤ q) = false := decide_eq_false (Nat.not_le.2 hqP)
            have r4 : decide ((P : Int) ≤ (q : Int)) = false := decide_eq_false (Int.not_le.2 (Int.ofNat_lt.2 hqP))
            have r3 : decide ((q : Int) + 1 ≤ (q : Int)) = false := decide_eq_false (Int.not_le.2 (Int.lt_succ _))
            have Y3 := Lib.hid y3
            clear y3
            refine wp_region_noPanic ?_
            refine wp_region_held_drew (S := (fun w' => w'.cell? ⟨k, 1, none⟩ = some (.int .i64 (m : Int)))) (by kernel_rfl) ?_ (fun hH0 => ?_)
            · (exact k1)
            refine wpAnyH_take (i := 0) (oi := ⟨some 58, _, _, _, _, _⟩) (v := ?_) rfl (by kernel_rfl) (by kernel_rfl) (by kernel_rfl) (fun _ _ _ h => h) (Or.inl ⟨by rfl, ?_⟩) hH0 ?_
            rotate_left 1
            · intro w hSw; (try dsimp only at hSw); go_simp; with_reducible rfl
            try simp only [Act.put, List.setIfInBounds_toArray, List.set_cons_zero, List.set_cons_succ]
            refine wpAnyH_take (i := 1) (oi := ⟨some 59, _, _, _, _, _⟩) (v := ?_) rfl (by kernel_rfl) (by kernel_rfl) (by kernel_rfl) (fun _ _ _ h => h) (Or.inl ⟨by rfl, ?_⟩) hH0 ?_
            rotate_left 1
            · intro w hSw; (try dsimp only at hSw); go_simp; with_reducible rfl
            try simp only [Act.put, List.setIfInBounds_toArray, List.set_cons_zero, List.set_cons_succ]
            refine wpAnyH_take (i := 2) (oi := ⟨some 60, _, _, _, _, _⟩) (v := ?_) rfl (by kernel_rfl) (by kernel_rfl) (by kernel_rfl) (fun _ _ _ h => h) (Or.inl ⟨by rfl, ?_⟩) hH0 ?_
            rotate_left 1
            · intro w hSw; (try dsimp only at hSw); go_simp; with_reducible rfl
            try simp only [Act.put, List.setIfInBounds_toArray, List.set_cons_zero, List.set_cons_succ]
            refine wpAnyH_take (i := 3) (oi := ⟨some 61, _, _, _, _, _⟩) (v := undef) rfl (by kernel_rfl) (by kernel_rfl) (by kernel_rfl) (fun _ _ _ h => h) (Or.inr ⟨by rfl, rfl⟩) hH0 ?_
            try simp only [Act.put, List.setIfInBounds_toArray, List.set_cons_zero, List.set_cons_succ]
            refine wpAnyH_take (i := 4) (oi := ⟨some 62, _, _, _, _, _⟩) (v := undef) rfl (by kernel_rfl) (by kernel_rfl) (by kernel_rfl) (fun _ _ _ h => h) (Or.inr ⟨by rfl, rfl⟩) hH0 ?_
            try simp only [Act.put, List.setIfInBounds_toArray, List.set_cons_zero, List.set_cons_succ]
            refine wpAnyH_take (i := 5) (oi := ⟨some 63, _, _, _, _, _⟩) (v := undef) rfl (by kernel_rfl) (by kernel_rfl) (by kernel_rfl) (fun _ _ _ h => h) (Or.inr ⟨by rfl, rfl⟩) hH0 ?_
            try simp only [Act.put, List.setIfInBounds_toArray, List.set_cons_zero, List.set_cons_succ]
            refine wpAnyH_take (i := 6) (oi := ⟨some 64, _, _, _, _, _⟩) (v := undef) rfl (by kernel_rfl) (by kernel_rfl) (by kernel_rfl) (fun _ _ _ h => h) (Or.inr ⟨by rfl, rfl⟩) hH0 ?_
            try simp only [Act.put, List.setIfInBounds_toArray, List.set_cons_zero, List.set_cons_succ]
            refine wpAnyH_take (i := 7) (oi := ⟨some 65, _, _, _, _, _⟩) (v := undef) rfl (by kernel_rfl) (by kernel_rfl) (by kernel_rfl) (fun _ _ _ h => h) (Or.inr ⟨by rfl, rfl⟩) hH0 ?_
            try simp only [Act.put, List.setIfInBounds_toArray, List.set_cons_zero, List.set_cons_succ]
            refine wpAnyH_take (i := 8) (oi := ⟨some 66, _, _, _, _, _⟩) (v := undef) rfl (by kernel_rfl) (by kernel_rfl) (by kernel_rfl) (fun _ _ _ h => h) (Or.inr ⟨by rfl, rfl⟩) hH0 ?_
            try simp only [Act.put, List.setIfInBounds_toArray, List.set_cons_zero, List.set_cons_succ]
            refine wpAnyH_take (i := 9) (oi := ⟨some 67, _, _, _, _, _⟩) (v := ?_) rfl (by kernel_rfl) (by kernel_rfl) (by kernel_rfl) (fun _ _ _ h => h) (Or.inl ⟨by rfl, ?_⟩) hH0 ?_
            rotate_left 1
            · intro w hSw; (try dsimp only at hSw); go_simp; with_reducible rfl
            try simp only [Act.put, List.setIfInBounds_toArray, List.set_cons_zero, List.set_cons_succ]
            refine wpAnyH_done (by kernel_rfl) ?_ _
            all_goals (refine NoPanic.normal ?_)
            go_wp2_with fail
            obtain ⟨W4, hW4⟩ : ∃ W4, W3.drew = W4 := ⟨_, rfl⟩
            have Y4 := Lib.hid Y3.out.drew
            rw [hW4] at hlk k1 k2 o0 p2 Y4 ⊢
            clear hW4 Y3
            have k1' : W4.drew.cell? ⟨k, 1, none⟩ = some (.int .i64 (m : Int)) := k1
            have o0' : W4.drew.cell? ⟨o, 0, none⟩ = some (.int .i64 (q : Int)) := o0
            have p2' : W4.drew.cell? ⟨o + 1, 2, none⟩ = some (.int .i64 ((q : Int) + 1)) := p2
            have hlk' := fresh_look Y4.out.tail.map.drew F.out.1 hq64
            clear k1 k2 o0 p2 hlk
            refine wp_region_noPanic ?_
            refine wp_region_held_drew (S := (fun w' => (Instr.lookup 42 (.map (some (k + 1))) (.int .i64 (q : Int)) false).run Try.prog w' = .ok (.bool false) w' ∧ w'.cell? ⟨k, 1, none⟩ = some (.int .i64 (m : Int)) ∧ w'.cell? ⟨o, 0, none⟩ = some (.int .i64 (q : Int)) ∧ w'.cell? ⟨o + 1, 2, none⟩ = some (.int .i64 ((q : Int) + 1)))) (by kernel_rfl) ?_ (fun hH0 => ?_)
            · (exact ⟨hlk', k1', o0', p2'⟩)
            refine wpAnyH_take (i := 0) (oi := ⟨some 68, _, _, _, _, _⟩) (v := ?_) rfl (by kernel_rfl) (by kernel_rfl) (by kernel_rfl) (fun _ _ _ h => h) (Or.inl ⟨by rfl, ?_⟩) hH0 ?_
            rotate_left 1
            · intro w hSw; (try dsimp only at hSw); go_simp; with_reducible rfl
            try simp only [Act.put, List.setIfInBounds_toArray, List.set_cons_zero, List.set_cons_succ]
            refine wpAnyH_take (i := 1) (oi := ⟨some 69, _, _, _, _, _⟩) (v := ?_) rfl (by kernel_rfl) (by kernel_rfl) (by kernel_rfl) (fun _ _ _ h => h) (Or.inl ⟨by rfl, ?_⟩) hH0 ?_
            rotate_left 1
            · intro w hSw; (try dsimp only at hSw); go_simp; with_reducible rfl
            try simp only [Act.put, List.setIfInBounds_toArray, List.set_cons_zero, List.set_cons_succ]
            refine wpAnyH_take (i := 2) (oi := ⟨some 70, _, _, _, _, _⟩) (v := ?_) rfl (by kernel_rfl) (by kernel_rfl) (by kernel_rfl) (fun _ _ _ h => h) (Or.inl ⟨by rfl, ?_⟩) hH0 ?_
            rotate_left 1
            · intro w hSw; (try dsimp only at hSw); go_simp; with_reducible rfl
            try simp only [Act.put, List.setIfInBounds_toArray, List.set_cons_zero, List.set_cons_succ]
            refine wpAnyH_take (i := 3) (oi := ⟨some 71, _, _, _, _, _⟩) (v := ?_) rfl (by kernel_rfl) (by kernel_rfl) (by kernel_rfl) (fun _ _ _ h => h) (Or.inl ⟨by rfl, ?_⟩) hH0 ?_
            rotate_left 1
            · intro w hSw; (try dsimp only at hSw); go_simp; with_reducible rfl
            try simp only [Act.put, List.setIfInBounds_toArray, List.set_cons_zero, List.set_cons_succ]
            refine wpAnyH_take (i := 4) (oi := ⟨some 72, _, _, _, _, _⟩) (v := ?_) rfl (by kernel_rfl) (by kernel_rfl) (by kernel_rfl) (fun _ _ _ h => h) (Or.inl ⟨by rfl, ?_⟩) hH0 ?_
            rotate_left 1
            · intro w hSw; (try dsimp only at hSw); go_simp; with_reducible rfl
            try simp only [Act.put, List.setIfInBounds_toArray, List.set_cons_zero, List.set_cons_succ]
            refine wpAnyH_take (i := 5) (oi := ⟨some 73, _, _, _, _, _⟩) (v := ?_) rfl (by kernel_rfl) (by kernel_rfl) (by kernel_rfl) (fun _ _ _ h => h) (Or.inl ⟨by rfl, ?_⟩) hH0 ?_
            rotate_left 1
            · intro w hSw; (try dsimp only at hSw); go_simp; with_reducible rfl
            try simp only [Act.put, List.setIfInBounds_toArray, List.set_cons_zero, List.set_cons_succ]
            refine wpAnyH_ready (rs := [6]) (by kernel_rfl) (by simp) ?_
            refine AllReadyH.cons (o := ⟨some 74, _, _, _, _, _⟩) rfl (fun K hK => ?_) AllReadyH.nil
            go_simp
            refine hK.out _ _ ?_ (fun hH1 => ?_)
            · (exact ⟨hlk', k1', o0', p2'⟩)
            clear hK K hH0
            try simp only [Act.put, List.setIfInBounds_toArray, List.set_cons_zero, List.set_cons_succ]
            refine wpAnyH_take (i := 7) (oi := ⟨some 75, _, _, _, _, _⟩) (v := ?_) rfl (by kernel_rfl) (by kernel_rfl) (by kernel_rfl) (fun _ _ _ h => h) (Or.inl ⟨by rfl, ?_⟩) hH1 ?_
            rotate_left 1
            · intro w hSw; (try dsimp only at hSw); go_simp; with_reducible rfl
            try simp only [Act.put, List.setIfInBounds_toArray, List.set_cons_zero, List.set_cons_succ]
            refine wpAnyH_take (i := 8) (oi := ⟨some 76, _, _, _, _, _⟩) (v := ?_) rfl (by kernel_rfl) (by kernel_rfl) (by kernel_rfl) (fun _ _ _ h => h) (Or.inl ⟨by rfl, ?_⟩) hH1 ?_
            rotate_left 1
            · intro w hSw; (try dsimp only at hSw); go_simp; with_reducible rfl
            try simp only [Act.put, List.setIfInBounds_toArray, List.set_cons_zero, List.set_cons_succ]
            refine wpAnyH_take (i := 9) (oi := ⟨some 77, _, _, _, _, _⟩) (v := ?_) rfl (by kernel_rfl) (by kernel_rfl) (by kernel_rfl) (fun _ _ _ h => h) (Or.inl ⟨by rfl, ?_⟩) hH1 ?_
            rotate_left 1
            · intro w hSw; (try dsimp only at hSw); go_simp; with_reducible rfl
            try simp only [Act.put, List.setIfInBounds_toArray, List.set_cons_zero, List.set_cons_succ]
            refine wpAnyH_take (i := 10) (oi := ⟨some 78, _, _, _, _, _⟩) (v := ?_) rfl (by kernel_rfl) (by kernel_rfl) (by kernel_rfl) (fun _ _ _ h => h) (Or.inl ⟨by rfl, ?_⟩) hH1 ?_
            rotate_left 1
            · intro w hSw; (try dsimp only at hSw); go_simp; with_reducible rfl
            try simp only [Act.put, List.setIfInBounds_toArray, List.set_cons_zero, List.set_cons_succ]
            refine wpAnyH_take (i := 11) (oi := ⟨some 79, _, _, _, _, _⟩) (v := ?_) rfl (by kernel_rfl) (by kernel_rfl) (by kernel_rfl) (fun _ _ _ h => h) (Or.inl ⟨by rfl, ?_⟩) hH1 ?_
            rotate_left 1
            · intro w hSw; (try dsimp only at hSw); go_simp; with_reducible rfl
            try simp only [Act.put, List.setIfInBounds_toArray, List.set_cons_zero, List.set_cons_succ]
            refine wpAnyH_take (i := 12) (oi := ⟨some 80, _, _, _, _, _⟩) (v := ?_) rfl (by kernel_rfl) (by kernel_rfl) (by kernel_rfl) (fun _ _ _ h => h) (Or.inl ⟨by rfl, ?_⟩) hH1 ?_
            rotate_left 1
            · intro w hSw; (try dsimp only at hSw); go_simp; with_reducible rfl
            try simp only [Act.put, List.setIfInBounds_toArray, List.set_cons_zero, List.set_cons_succ]
            refine wpAnyH_take (i := 13) (oi := ⟨some 81, _, _, _, _, _⟩) (v := ?_) rfl (by kernel_rfl) (by kernel_rfl) (by kernel_rfl) (fun _ _ _ h => h) (Or.inl ⟨by rfl, ?_⟩) hH1 ?_
            rotate_left 1
            · intro w hSw; (try dsimp only at hSw); go_simp; with_reducible rfl
            try simp only [Act.put, List.setIfInBounds_toArray, List.set_cons_zero, List.set_cons_succ]
            refine wpAnyH_take (i := 14) (oi := ⟨some 82, _, _, _, _, _⟩) (v := ?_) rfl (by kernel_rfl) (by kernel_rfl) (by kernel_rfl) (fun _ _ _ h => h) (Or.inl ⟨by rfl, ?_⟩) hH1 ?_
            rotate_left 1
            · intro w hSw; (try dsimp only at hSw); go_simp; with_reducible rfl
            try simp only [Act.put, List.setIfInBounds_toArray, List.set_cons_zero, List.set_cons_succ]
            refine wpAnyH_take (i := 15) (oi := ⟨some 83, _, _, _, _, _⟩) (v := ?_) rfl (by kernel_rfl) (by kernel_rfl) (by kernel_rfl) (fun _ _ _ h => h) (Or.inl ⟨by rfl, ?_⟩) hH1 ?_
            rotate_left 1
            · intro w hSw; (try dsimp only at hSw); go_simp; with_reducible rfl
            try simp only [Act.put, List.setIfInBounds_toArray, List.set_cons_zero, List.set_cons_succ]
            refine wpAnyH_take (i := 16) (oi := ⟨some 84, _, _, _, _, _⟩) (v := ?_) rfl (by kernel_rfl) (by kernel_rfl) (by kernel_rfl) (fun _ _ _ h => h) (Or.inl ⟨by rfl, ?_⟩) hH1 ?_
            rotate_left 1
            · intro w hSw; (try dsimp only at hSw); go_simp; with_reducible rfl
            try simp only [Act.put, List.setIfInBounds_toArray, List.set_cons_zero, List.set_cons_succ]
            refine wpAnyH_take (i := 17) (oi := ⟨some 85, _, _, _, _, _⟩) (v := ?_) rfl (by kernel_rfl) (by kernel_rfl) (by kernel_rfl) (fun _ _ _ h => h) (Or.inl ⟨by rfl, ?_⟩) hH1 ?_
            rotate_left 1
            · intro w hSw; (try dsimp only at hSw); go_simp; with_reducible rfl
            try simp only [Act.put, List.setIfInBounds_toArray, List.set_cons_zero, List.set_cons_succ]
            refine wpAnyH_take (i := 18) (oi := ⟨some 86, _, _, _, _, _⟩) (v := ?_) rfl (by kernel_rfl) (by kernel_rfl) (by kernel_rfl) (fun _ _ _ h => h) (Or.inl ⟨by rfl, ?_⟩) hH1 ?_
            rotate_left 1
            · intro w hSw; (try dsimp only at hSw); go_simp; with_reducible rfl
            try simp only [Act.put, List.setIfInBounds_toArray, List.set_cons_zero, List.set_cons_succ]
            refine wpAnyH_take (i := 19) (oi := ⟨some 87, _, _, _, _, _⟩) (v := ?_) rfl (by kernel_rfl) (by kernel_rfl) (by kernel_rfl) (fun _ _ _ h => h) (Or.inl ⟨by rfl, ?_⟩) hH1 ?_
            rotate_left 1
            · intro w hSw; (try dsimp only at hSw); go_simp; with_reducible rfl
            try simp only [Act.put, List.setIfInBounds_toArray, List.set_cons_zero, List.set_cons_succ]
            refine wpAnyH_take (i := 20) (oi := ⟨some 88, _, _, _, _, _⟩) (v := ?_) rfl (by kernel_rfl) (by kernel_rfl) (by kernel_rfl) (fun _ _ _ h => h) (Or.inl ⟨by rfl, ?_⟩) hH1 ?_
            rotate_left 1
            · intro w hSw; (try dsimp only at hSw); go_simp; with_reducible rfl
            try simp only [Act.put, List.setIfInBounds_toArray, List.set_cons_zero, List.set_cons_succ]
            refine wpAnyH_take (i := 21) (oi := ⟨some 89, _, _, _, _, _⟩) (v := ?_) rfl (by kernel_rfl) (by kernel_rfl) (by kernel_rfl) (fun _ _ _ h => h) (Or.inl ⟨by rfl, ?_⟩) hH1 ?_
            rotate_left 1
            · intro w hSw; (try dsimp only at hSw); go_simp; with_reducible rfl
            try simp only [Act.put, List.setIfInBounds_toArray, List.set_cons_zero, List.set_cons_succ]
            refine wpAnyH_take (i := 22) (oi := ⟨some 90, _, _, _, _, _⟩) (v := ?_) rfl (by kernel_rfl) (by kernel_rfl) (by kernel_rfl) (fun _ _ _ h => h) (Or.inl ⟨by rfl, ?_⟩) hH1 ?_
            rotate_left 1
            · intro w hSw; (try dsimp only at hSw); go_simp; with_reducible rfl
            try simp only [Act.put, List.setIfInBounds_toArray, List.set_cons_zero, List.set_cons_succ]
            refine wpAnyH_take (i := 23) (oi := ⟨some 91, _, _, _, _, _⟩) (v := ?_) rfl (by kernel_rfl) (by kernel_rfl) (by kernel_rfl) (fun _ _ _ h => h) (Or.inl ⟨by rfl, ?_⟩) hH1 ?_
            rotate_left 1
            · intro w hSw; (try dsimp only at hSw); go_simp; with_reducible rfl
            try simp only [Act.put, List.setIfInBounds_toArray, List.set_cons_zero, List.set_cons_succ]
            refine wpAnyH_take (i := 24) (oi := ⟨some 92, _, _, _, _, _⟩) (v := ?_) rfl (by kernel_rfl) (by kernel_rfl) (by kernel_rfl) (fun _ _ _ h => h) (Or.inl ⟨by rfl, ?_⟩) hH1 ?_
            rotate_left 1
            · intro w hSw; (try dsimp only at hSw); go_simp; with_reducible rfl
            try simp only [Act.put, List.setIfInBounds_toArray, List.set_cons_zero, List.set_cons_succ]
            refine wpAnyH_take (i := 25) (oi := ⟨some 93, _, _, _, _, _⟩) (v := ?_) rfl (by kernel_rfl) (by kernel_rfl) (by kernel_rfl) (fun _ _ _ h => h) (Or.inl ⟨by rfl, ?_⟩) hH1 ?_
            rotate_left 1
            · intro w hSw; (try dsimp only at hSw); go_simp; with_reducible rfl
            try simp only [Act.put, List.setIfInBounds_toArray, List.set_cons_zero, List.set_cons_succ]
            refine wpAnyH_take (i := 26) (oi := ⟨some 94, _, _, _, _, _⟩) (v := ?_) rfl (by kernel_rfl) (by kernel_rfl) (by kernel_rfl) (fun _ _ _ h => h) (Or.inl ⟨by rfl, ?_⟩) hH1 ?_
            rotate_left 1
            · intro w hSw; (try dsimp only at hSw); go_simp; with_reducible rfl
            try simp only [Act.put, List.setIfInBounds_toArray, List.set_cons_zero, List.set_cons_succ]
            refine wpAnyH_take (i := 27) (oi := ⟨some 95, _, _, _, _, _⟩) (v := ?_) rfl (by kernel_rfl) (by kernel_rfl) (by kernel_rfl) (fun _ _ _ h => h) (Or.inl ⟨by rfl, ?_⟩) hH1 ?_
            rotate_left 1
            · intro w hSw; (try dsimp only at hSw); go_simp; with_reducible rfl
            try simp only [Act.put, List.setIfInBounds_toArray, List.set_cons_zero, List.set_cons_succ]
            refine wpAnyH_done (by kernel_rfl) ?_ _
            all_goals (refine NoPanic.normal ?_)
            clear hlk' k1' o0' p2' r1 r2 r3 r4
            go_wp2_with fail
            have y5 := Y4.out.drew
            obtain ⟨W5, hW5⟩ : ∃ W5, W4.drew = W5 := ⟨_, rfl⟩
            rw [hW5] at y5 ⊢
            clear hW5 Y4
            have y5 := y5.swap.drew
            obtain ⟨w7, hrun, hm7, hg7⟩ := y5.map.update key_int Try.underlying42 (show n < maxLen by have := F.out.2.2; unfold maxLen; omega) (key := .int .i64 (q : Int)) (val := .bool true) (Maps.keyOf_int_mk Try.underlying3 (by exact WalkArith.wf_i64 (by omega))) (plainElem_bool Try.underlying4 true)
            have y7 := y5.mapped hm7 hg7
            have HV := Lib.hid (show ∀ W' R1 R2, St w.heap.size w W' [R1, R2, cellsR (o + 1) 25 #[.string ⟨S.toArray⟩, .int .i64 (m : Int), .int .i64 ((q : Int) + 1)], cellsR o 33 #[.int .i64 (q : Int), .slice A1 l1 n1, .slice A2 l2 n2]] → W'.cell? ⟨o, 0, none⟩ = some (.int .i64 (q : Int)) ∧ W'.cell? ⟨o + 1, 0, none⟩ = some (.string ⟨S.toArray⟩) ∧ W'.cell? ⟨o + 1, 1, none⟩ = some (.int .i64 (m : Int)) ∧ W'.cell? ⟨o + 1, 2, none⟩ = some (.int .i64 ((q : Int) + 1)) from fun W' R1 R2 hh => ⟨hh.tail.tail.tail.blk.cell 0, hh.tail.tail.blk.cell 0, hh.tail.tail.blk.cell 1, hh.tail.tail.blk.cell 2⟩)
            have v5 := HV.out _ _ _ y5
            have v7 := HV.out _ _ _ y7
            have y8 := ((y7.swap.set_ 0 (.string ⟨S.toArray⟩)).set_ 1 (.int .i64 (m : Int))).set_ 2 (.int .i64 ((q : Int) + 1))
            have v8 := HV.out _ _ _ y8
            have e0 := y7.tail.blk.cell 0
            have e1 := y7.tail.blk.cell 1
            have e2 := y7.tail.blk.cell 2
            have f0 := y7.tail.blk.frozen 0
            have f1 := y7.tail.blk.frozen 1
            have f2 := y7.tail.blk.frozen 2
            have Y8 := Lib.hid y8
            have QP := Lib.hid hqP
            clear y5 y7 y8 hm7 hg7 hqP hq64
            refine wp_region_noPanic ?_
            refine wp_region_held_drew (S := (fun w' => w'.cell? ⟨o, 0, none⟩ = some (.int .i64 (q : Int)) ∧ w'.cell? ⟨o + 1, 0, none⟩ = some (.string ⟨S.toArray⟩) ∧ w'.cell? ⟨o + 1, 1, none⟩ = some (.int .i64 (m : Int)) ∧ w'.cell? ⟨o + 1, 2, none⟩ = some (.int .i64 ((q : Int) + 1)))) (by kernel_rfl) ?_ (fun hH0 => ?_)
            · (first
                | exact v5
                | exact v7
                | exact v8
                | fail)
            refine wpAnyH_take (i := 0) (oi := ⟨some 96, _, _, _, _, _⟩) (v := ?_) rfl (by kernel_rfl) (by kernel_rfl) (by kernel_rfl) (fun _ _ _ h => h) (Or.inl ⟨by rfl, ?_⟩) hH0 ?_
            rotate_left 1
            · intro w hSw; (try dsimp only at hSw); go_simp; with_reducible rfl
            try simp only [Act.put, List.setIfInBounds_toArray, List.set_cons_zero, List.set_cons_succ]
            refine wpAnyH_take (i := 1) (oi := ⟨some 97, _, _, _, _, _⟩) (v := ?_) rfl (by kernel_rfl) (by kernel_rfl) (by kernel_rfl) (fun _ _ _ h => h) (Or.inl ⟨by rfl, ?_⟩) hH0 ?_
            rotate_left 1
            · intro w hSw; (try dsimp only at hSw); go_simp; with_reducible rfl
            try simp only [Act.put, List.setIfInBounds_toArray, List.set_cons_zero, List.set_cons_succ]
            refine wpAnyH_take (i := 2) (oi := ⟨some 98, _, _, _, _, _⟩) (v := ?_) rfl (by kernel_rfl) (by kernel_rfl) (by kernel_rfl) (fun _ _ _ h => h) (Or.inl ⟨by rfl, ?_⟩) hH0 ?_
            rotate_left 1
            · intro w hSw; (try dsimp only at hSw); go_simp; with_reducible rfl
            try simp only [Act.put, List.setIfInBounds_toArray, List.set_cons_zero, List.set_cons_succ]
            refine wpAnyH_take (i := 3) (oi := ⟨some 99, _, _, _, _, _⟩) (v := ?_) rfl (by kernel_rfl) (by kernel_rfl) (by kernel_rfl) (fun _ _ _ h => h) (Or.inl ⟨by rfl, ?_⟩) hH0 ?_
            rotate_left 1
            · intro w hSw; (try dsimp only at hSw); go_simp; with_reducible rfl
            try simp only [Act.put, List.setIfInBounds_toArray, List.set_cons_zero, List.set_cons_succ]
            refine wpAnyH_ready (rs := [4]) (by kernel_rfl) (by simp) ?_
            refine AllReadyH.cons (o := ⟨_, _, _, _, _, _⟩) rfl (fun K hK => ?_) AllReadyH.nil
            go_simp
            refine hK.out _ _ ?_ (fun hH1 => ?_)
            · (first
                | exact v5
                | exact v7
                | exact v8
                | fail)
            clear hK K hH0
            try simp only [Act.put, List.setIfInBounds_toArray, List.set_cons_zero, List.set_cons_succ]
            refine wpAnyH_ready (rs := [5]) (by kernel_rfl) (by simp) ?_
            refine AllReadyH.cons (o := ⟨_, _, _, _, _, _⟩) rfl (fun K hK => ?_) AllReadyH.nil
            go_simp
            refine hK.out _ _ ?_ (fun hH2 => ?_)
            · (first
                | exact v5
                | exact v7
                | exact v8
                | fail)
            clear hK K hH1
            try simp only [Act.put, List.setIfInBounds_toArray, List.set_cons_zero, List.set_cons_succ]
            refine wpAnyH_done (by kernel_rfl) ?_ _
            all_goals (refine NoPanic.normal ?_)
            go_wp2
            go_roundw
            case rel => exact ⟨j + 1, q + 1, n + 1, _, by omega, by go_num, QP.out, by have := F.out.2.2; omega, F.out.1.put, by rw [Int.natCast_add]; exact (Y8.out.pick [0, 1] (by decide) (by simp))⟩
            case measure => simp [intOf]; omega
          · clear kS
            obtain rfl : q = P := Nat.le_antisymm F.out.2.1 (Nat.le_of_not_lt hqP)
            go_wp2_with fail
            refine (kO _).mono ?_
            rintro e w2 ⟨A1, l1, n1, A2, l2, n2, rfl, b2⟩
            clear gv
            have Y3 := Lib.hid (((Y1.out.under b2).alloc0 (.cells #[.int .i64 0, .slice A1 l1 n1, .slice A2 l2 n2] 33)).alloc0 (.cells #[.string ⟨#[]⟩, .int .i64 0, .int .i64 0] 25))
            clear kO b2 H Y1
            go_wp2_with fail
            obtain ⟨W3, hW3⟩ : ∃ W3, (w2.alloc (.cells #[.int .i64 0, .slice A1 l1 n1, .slice A2 l2 n2] 33)).alloc (.cells #[.string ⟨#[]⟩, .int .i64 0, .int .i64 0] 25) = W3 := ⟨_, rfl⟩
            have y3 : St w.heap.size w W3 [cellsR k 25 #[.string ⟨S.toArray⟩, .int .i64 (m : Int), .int .i64 (q : Int)], mapR 3 4 (k + 1) n D] := by
              rw [← hW3]
              exact Y3.out
            rw [hW3]
            clear Y3 hW3
            have k1 : W3.drew.cell? ⟨k, 1, none⟩ = some (.int .i64 (m : Int)) := y3.drew.blk.cell 1
            have k2 : W3.drew.cell? ⟨k, 2, none⟩ = some (.int .i64 (q : Int)) := y3.drew.blk.cell 2
            have Y3 := Lib.hid y3
            clear y3
            refine wp_region_noPanic ?_
            refine wp_region_held_drew (S := (fun w' => w'.cell? ⟨k, 1, none⟩ = some (.int .i64 (m : Int)) ∧ w'.cell? ⟨k, 2, none⟩ = some (.int .i64 (q : Int)))) (by kernel_rfl) ?_ (fun hH0 => ?_)
            · (exact ⟨k1, k2⟩)
            refine wpAnyH_take (i := 0) (oi := ⟨some 58, _, _, _, _, _⟩) (v := ?_) rfl (by kernel_rfl) (by kernel_rfl) (by kernel_rfl) (fun _ _ _ h => h) (Or.inl ⟨by rfl, ?_⟩) hH0 ?_
            rotate_left 1
            · intro w hSw; (try dsimp only at hSw); go_simp; with_reducible rfl
            try simp only [Act.put, List.setIfInBounds_toArray, List.set_cons_zero, List.set_cons_succ]
            refine wpAnyH_take (i := 1) (oi := ⟨some 59, _, _, _, _, _⟩) (v := ?_) rfl (by kernel_rfl) (by kernel_rfl) (by kernel_rfl) (fun _ _ _ h => h) (Or.inl ⟨by rfl, ?_⟩) hH0 ?_
            rotate_left 1
            · intro w hSw; (try dsimp only at hSw); go_simp; with_reducible rfl
            try simp only [Act.put, List.setIfInBounds_toArray, List.set_cons_zero, List.set_cons_succ]
            refine wpAnyH_take (i := 2) (oi := ⟨some 60, _, _, _, _, _⟩) (v := ?_) rfl (by kernel_rfl) (by kernel_rfl) (by kernel_rfl) (fun _ _ _ h => h) (Or.inl ⟨by rfl, ?_⟩) hH0 ?_
            rotate_left 1
            · intro w hSw; (try dsimp only at hSw); go_simp; with_reducible rfl
            try simp only [Act.put, List.setIfInBounds_toArray, List.set_cons_zero, List.set_cons_succ]
            refine wpAnyH_take (i := 3) (oi := ⟨some 61, _, _, _, _, _⟩) (v := ?_) rfl (by kernel_rfl) (by kernel_rfl) (by kernel_rfl) (fun _ _ _ h => h) (Or.inl ⟨by rfl, ?_⟩) hH0 ?_
            rotate_left 1
            · intro w hSw; (try dsimp only at hSw); go_simp; with_reducible rfl
            try simp only [Act.put, List.setIfInBounds_toArray, List.set_cons_zero, List.set_cons_succ]
            refine wpAnyH_take (i := 4) (oi := ⟨some 62, _, _, _, _, _⟩) (v := ?_) rfl (by kernel_rfl) (by kernel_rfl) (by kernel_rfl) (fun _ _ _ h => h) (Or.inl ⟨by rfl, ?_⟩) hH0 ?_
            rotate_left 1
            · intro w hSw; (try dsimp only at hSw); go_simp; with_reducible rfl
            try simp only [Act.put, List.setIfInBounds_toArray, List.set_cons_zero, List.set_cons_succ]
            refine wpAnyH_take (i := 5) (oi := ⟨some 63, _, _, _, _, _⟩) (v := ?_) rfl (by kernel_rfl) (by kernel_rfl) (by kernel_rfl) (fun _ _ _ h => h) (Or.inl ⟨by rfl, ?_⟩) hH0 ?_
            rotate_left 1
            · intro w hSw; (try dsimp only at hSw); go_simp; with_reducible rfl
            try simp only [Act.put, List.setIfInBounds_toArray, List.set_cons_zero, List.set_cons_succ]
            refine wpAnyH_take (i := 6) (oi := ⟨some 64, _, _, _, _, _⟩) (v := ?_) rfl (by kernel_rfl) (by kernel_rfl) (by kernel_rfl) (fun _ _ _ h => h) (Or.inl ⟨by rfl, ?_⟩) hH0 ?_
            rotate_left 1
            · intro w hSw; (try dsimp only at hSw); go_simp; with_reducible rfl
            try simp only [Act.put, List.setIfInBounds_toArray, List.set_cons_zero, List.set_cons_succ]
            refine wpAnyH_take (i := 7) (oi := ⟨some 65, _, _, _, _, _⟩) (v := ?_) rfl (by kernel_rfl) (by kernel_rfl) (by kernel_rfl) (fun _ _ _ h => h) (Or.inl ⟨by rfl, ?_⟩) hH0 ?_
            rotate_left 1
            · intro w hSw; (try dsimp only at hSw); go_simp; with_reducible rfl
            try simp only [Act.put, List.setIfInBounds_toArray, List.set_cons_zero, List.set_cons_succ]
            refine wpAnyH_take (i := 8) (oi := ⟨some 66, _, _, _, _, _⟩) (v := ?_) rfl (by kernel_rfl) (by kernel_rfl) (by kernel_rfl) (fun _ _ _ h => h) (Or.inl ⟨by rfl, ?_⟩) hH0 ?_
            rotate_left 1
            · intro w hSw; (try dsimp only at hSw); go_simp; with_reducible rfl
            try simp only [Act.put, List.setIfInBounds_toArray, List.set_cons_zero, List.set_cons_succ]
            refine wpAnyH_take (i := 9) (oi := ⟨some 67, _, _, _, _, _⟩) (v := ?_) rfl (by kernel_rfl) (by kernel_rfl) (by kernel_rfl) (fun _ _ _ h => h) (Or.inl ⟨by rfl, ?_⟩) hH0 ?_
            rotate_left 1
            · intro w hSw; (try dsimp only at hSw); go_simp; with_reducible rfl
            try simp only [Act.put, List.setIfInBounds_toArray, List.set_cons_zero, List.set_cons_succ]
            refine wpAnyH_done (by kernel_rfl) ?_ _
            all_goals (refine NoPanic.normal ?_)
            go_wp2
            go_roundw
            case rel => exact ⟨j + 1, q, n, D, by omega, by go_num, F.out.2.1, by have := F.out.2.2; omega, F.out.1, Y3.out.drew⟩
            case measure => simp [intOf]; omega
      · obtain rfl : j = N := Nat.le_antisymm hj (Nat.le_of_not_lt hlt)
        have H := Lib.hid h
        clear hF h
        go_wp2
        go_ret
        exact ⟨rfl, H.out.below⟩
  · have hl' : (12 : Int) < (N : Int) := by omega
    go_enter Try.func4, Try.ntmps4
    go_wp2_with fail
    refine (awake_sg _).mono ?_
    rintro e w1 ⟨rfl, b1⟩
    go_wp2
    go_ret
    exact ⟨rfl, b1⟩
end Go.Proofs.Ytnlpakalcckaiaa
