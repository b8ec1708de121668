/-
  SignatureBytes: the walk. Conditions: signatures of bulk at most 2^40.
-/
import Derived.Test.YtnlpakalcckaiaaGreatSgX
import Derived.Test.YtnlpakalcckaiaaGreatSgS
import Derived.Test.YtnlpakalcckaiaaGreatSgZ
namespace Go.Proofs.YtnlpakalcckaiaaGreat
set_option linter.unusedVariables false
open Go.RowKit Go.Shelf
attribute [local go_sem] Oper.semAt_some

set_option maxRecDepth 20000 in
set_option maxHeartbeats 4000000 in
theorem sigBytes_walk (i : Int) (C T : List Sg.Str) (A B : Option Addr) (cC cT : Nat) (s : Sg.Str) (w : World) (hi : i < 9223372036854775808) (hC : Rd w A (strs C)) (hT : Rd w B (strs T)) (hnA : A = none → C.length = 0 ∧ cC = 0) (hnB : B = none → T.length = 0 ∧ cT = 0) (h1 : C.length ≤ cC) (h2 : cC ≤ maxLen) (h3 : T.length ≤ cT) (h4 : cT ≤ maxLen) (hw : weight C + weight T ≤ 1099511627776) :
    Calls Tryz.prog 6 #[.agg #[.int .i64 i, .slice A C.length cC, .slice B T.length cT], .string ⟨s.toArray⟩] w fun e w' => e = .returned (.bool true) ∧ Below w.heap.size w w' := by
  have hz := bytes_size s
  obtain ⟨W, hW⟩ : ∃ W, w.alloc (.cells #[.int .i64 i, .slice A C.length cC, .slice B T.length cT] 34) = W := ⟨_, rfl⟩
  have b0 : Below w.heap.size w W := by rw [← hW]; exact (Below.refl _ w).alloc (Nat.le_refl _) _
  have bl : Blk W w.heap.size 34 #[.int .i64 i, .slice A C.length cC, .slice B T.length cT] := by rw [← hW]; exact Blk.new w _ _
  have kF := fun (W' : World) (hb : Below W.heap.size W W') => rfew_spec i C T A B cC cT W' ((hC.below b0).below hb) ((hT.below b0).below hb) hnA hnB h1 h2 h3 h4 hw
  have kE := fun (W' : World) (hb : Below W.heap.size W W') => encode_spec i C T A B cC cT W' hi ((hC.below b0).below hb) ((hT.below b0).below hb) h1 h2 h3 h4
  have rE := fun (W' : World) (hb : Below W.heap.size W W') => rencode_spec i C T A B cC cT W' hi ((hC.below b0).below hb) ((hT.below b0).below hb) h1 h2 h3 h4
  generalize fewS C T = p at kF
  generalize encE i C T = X at kE rE
  obtain ⟨x1, x2⟩ := X
  have hS : ∀ W', Below W.heap.size W W' → W'.cell? ⟨w.heap.size, 0, none⟩ = some (.int .i64 i) ∧ W'.cell? ⟨w.heap.size, 1, none⟩ = some (.slice A C.length cC) ∧ W'.cell? ⟨w.heap.size, 2, none⟩ = some (.slice B T.length cT) := fun W' h => ⟨below_cell h (bl.cell 0), below_cell h (bl.cell 1), below_cell h (bl.cell 2)⟩
  have HS := Lib.hid hS
  have HB := Lib.hid b0
  clear hS bl b0 hC hT hw hnA hnB hi
  cases p
  · go_enter Tryz.func6, Tryz.ntmps6
    go_wp2_with fail
    refine (awake_sg _).mono ?_
    rintro e w1 ⟨rfl, b1⟩
    obtain ⟨c0, c1, c2⟩ := HS.out _ b1
    go_wp2_with fail
    refine (kF _ b1).mono ?_
    rintro e w2 ⟨rfl, b2⟩
    go_wp2
    go_ret
    exact ⟨rfl, HB.out.trans ((b1.trans (b2.mono b1.size)).mono HB.out.size)⟩
  · by_cases l1 : s.length ≤ 4000
    · have l1' : ¬ ((4000 : Int) < (s.length : Int)) := by omega
      have kD := fun W' => decode_spec s W' (Nat.le_trans l1 (by decide))
      have rD := fun W' => rdecode_spec s W' (Nat.le_trans l1 (by decide))
      rcases decR_inv s with hd | ⟨j, C', T', hj, ho, he, hd⟩
      · have hsam : samB 0 [] [] 0 [] [] = true := by unfold samB; simp
        rw [hd] at kD rD
        unfold DcP at kD rD
        dsimp only at kD rD
        go_enter Tryz.func6, Tryz.ntmps6
        go_wp2_with fail
        refine (awake_sg _).mono ?_
        rintro e w1 ⟨rfl, b1⟩
        obtain ⟨c0, c1, c2⟩ := HS.out _ b1
        go_wp2_with fail
        refine (kF _ b1).mono ?_
        rintro e w2 ⟨rfl, b2⟩
        have y2 := b1.trans (b2.mono b1.size)
        clear c0 c1 c2 b1 b2
        obtain ⟨c0, c1, c2⟩ := HS.out _ y2
        go_wp2_with fail
        refine (kE _ y2).mono ?_
        rintro e w3 ⟨rfl, b3⟩
        have y3 := y2.trans (b3.mono y2.size)
        clear c0 c1 c2 b3
        obtain ⟨c0, c1, c2⟩ := HS.out _ y3
        go_wp2_with fail
        refine (rE _ y3).mono ?_
        rintro e w4 ⟨rfl, b4⟩
        have y4 := y3.trans (b4.mono y3.size)
        have s4 : St W.heap.size W w4 [] := ⟨y4, Nat.le_refl _, trivial⟩
        clear c0 c1 c2 b4 y2 y3
        go_wp2_with fail
        refine (kD _).mono ?_
        rintro e w5 ⟨a, b, rfl, t5⟩
        obtain ⟨A1, n1, rfl, p1, p2⟩ := own_form t5.own
        obtain ⟨A2, n2, rfl, p3, p4⟩ := own_form t5.tail.own
        simp only [List.length_nil] at t5 p1 p3 ⊢
        have s5 := (s4.join t5).alloc 34 #[.int .i64 0, .slice A1 0 n1, .slice A2 0 n2]
        obtain ⟨o, ho1⟩ : ∃ o, w5.heap.size = o := ⟨_, rfl⟩
        rw [ho1] at s5
        clear s4 t5 kD
        go_wp2_with fail
        refine (rD _).mono ?_
        rintro e w6 ⟨a', b', rfl, t6⟩
        obtain ⟨A3, n3, rfl, p5, p6⟩ := own_form t6.own
        obtain ⟨A4, n4, rfl, p7, p8⟩ := own_form t6.tail.own
        simp only [List.length_nil] at t6 p5 p7 ⊢
        have s6 := (s5.join t6).alloc 34 #[.int .i64 0, .slice A3 0 n3, .slice A4 0 n4]
        have c0 := s6.tail.tail.tail.blk.cell 0
        have c1 := s6.tail.tail.tail.blk.cell 1
        have c2 := s6.tail.tail.tail.blk.cell 2
        have kq := rsame_spec 0 [] [] A1 A2 n1 n2 0 [] [] A3 A4 n3 n4 _ (Rd.of_own s6.tail.tail.tail.tail.own) (Rd.of_own s6.tail.tail.tail.tail.tail.own) (Rd.of_own s6.tail.own) (Rd.of_own s6.tail.tail.own) (Nat.le_trans p1 p2) (Nat.le_trans p3 p4) (Nat.le_trans p5 p6) (Nat.le_trans p7 p8)
        rw [hsam] at kq
        have S6 := Lib.hid s6
        clear s5 s6 t6 rD hsam hd
        go_wp2_with fail
        refine kq.mono ?_
        rintro e w7 ⟨rfl, b7⟩
        have s7 := S6.out.under b7
        clear kq b7 c0 c1 c2
        have S7 := Lib.hid s7
        clear s7
        go_wp2
        go_ret
        exact ⟨rfl, HB.out.trans (S7.out.below.mono HB.out.size)⟩
      · have hsam : samB (j : Int) C' T' (j : Int) C' T' = true := by unfold samB; simp
        rw [hd] at kD rD
        unfold DcP at kD rD
        dsimp only at kD rD
        go_enter Tryz.func6, Tryz.ntmps6
        go_wp2_with fail
        refine (awake_sg _).mono ?_
        rintro e w1 ⟨rfl, b1⟩
        obtain ⟨c0, c1, c2⟩ := HS.out _ b1
        go_wp2_with fail
        refine (kF _ b1).mono ?_
        rintro e w2 ⟨rfl, b2⟩
        have y2 := b1.trans (b2.mono b1.size)
        clear c0 c1 c2 b1 b2
        obtain ⟨c0, c1, c2⟩ := HS.out _ y2
        go_wp2_with fail
        refine (kE _ y2).mono ?_
        rintro e w3 ⟨rfl, b3⟩
        have y3 := y2.trans (b3.mono y2.size)
        clear c0 c1 c2 b3
        obtain ⟨c0, c1, c2⟩ := HS.out _ y3
        go_wp2_with fail
        refine (rE _ y3).mono ?_
        rintro e w4 ⟨rfl, b4⟩
        have y4 := y3.trans (b4.mono y3.size)
        have s4 : St W.heap.size W w4 [] := ⟨y4, Nat.le_refl _, trivial⟩
        clear c0 c1 c2 b4 y2 y3
        go_wp2_with fail
        refine (kD _).mono ?_
        rintro e w5 ⟨a, b, rfl, t5⟩
        obtain ⟨A1, n1, rfl, p1, p2⟩ := own_form t5.own
        obtain ⟨A2, n2, rfl, p3, p4⟩ := own_form t5.tail.own
        have s5 := (s4.join t5).alloc 34 #[.int .i64 (j : Int), .slice A1 C'.length n1, .slice A2 T'.length n2]
        obtain ⟨o, ho1⟩ : ∃ o, w5.heap.size = o := ⟨_, rfl⟩
        rw [ho1] at s5
        clear s4 t5 kD
        go_wp2_with fail
        refine (rD _).mono ?_
        rintro e w6 ⟨a', b', rfl, t6⟩
        obtain ⟨A3, n3, rfl, p5, p6⟩ := own_form t6.own
        obtain ⟨A4, n4, rfl, p7, p8⟩ := own_form t6.tail.own
        have s6 := (s5.join t6).alloc 34 #[.int .i64 (j : Int), .slice A3 C'.length n3, .slice A4 T'.length n4]
        have c0 := s6.tail.tail.tail.blk.cell 0
        have c1 := s6.tail.tail.tail.blk.cell 1
        have c2 := s6.tail.tail.tail.blk.cell 2
        have kq := rsame_spec (j : Int) C' T' A1 A2 n1 n2 (j : Int) C' T' A3 A4 n3 n4 _ (Rd.of_own s6.tail.tail.tail.tail.own) (Rd.of_own s6.tail.tail.tail.tail.tail.own) (Rd.of_own s6.tail.own) (Rd.of_own s6.tail.tail.own) (Nat.le_trans p1 p2) (Nat.le_trans p3 p4) (Nat.le_trans p5 p6) (Nat.le_trans p7 p8)
        rw [hsam] at kq
        have S6 := Lib.hid s6
        clear s5 s6 t6 rD hsam hd
        go_wp2_with fail
        refine kq.mono ?_
        rintro e w7 ⟨rfl, b7⟩
        have s7 := S6.out.under b7
        clear kq b7 c0 c1 c2
        have c0 := s7.tail.tail.tail.blk.cell 0
        have c1 := s7.tail.tail.tail.blk.cell 1
        have c2 := s7.tail.tail.tail.blk.cell 2
        have ke := encode_spec (j : Int) C' T' A1 A2 n1 n2 w7 (by omega) (Rd.of_own s7.tail.tail.tail.tail.own) (Rd.of_own s7.tail.tail.tail.tail.tail.own) p1 p2 p3 p4
        rw [encE_ok _ _ _ ho, he] at ke
        have S7 := Lib.hid s7
        clear s7 ho he hj
        go_wp2_with fail
        refine ke.mono ?_
        rintro e w8 ⟨rfl, b8⟩
        have S8 := Lib.hid (S7.out.under b8)
        clear b8 ke c0 c1 c2
        go_wp2
        go_ret
        exact ⟨rfl, HB.out.trans (S8.out.below.mono HB.out.size)⟩
    · have l1' : (4000 : Int) < (s.length : Int) := by omega
      go_enter Tryz.func6, Tryz.ntmps6
      go_wp2_with fail
      refine (awake_sg _).mono ?_
      rintro e w1 ⟨rfl, b1⟩
      obtain ⟨c0, c1, c2⟩ := HS.out _ b1
      go_wp2_with fail
      refine (kF _ b1).mono ?_
      rintro e w2 ⟨rfl, b2⟩
      go_wp2
      go_ret
      exact ⟨rfl, HB.out.trans ((b1.trans (b2.mono b1.size)).mono HB.out.size)⟩
end Go.Proofs.YtnlpakalcckaiaaGreat
