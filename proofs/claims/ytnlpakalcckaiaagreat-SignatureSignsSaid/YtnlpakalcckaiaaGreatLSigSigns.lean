/-
  SignatureSigns: the walk. Conditions: none.
-/
import Derived.Test.YtnlpakalcckaiaaGreatSgX
import Derived.Test.YtnlpakalcckaiaaGreatSgR
namespace Go.Proofs.YtnlpakalcckaiaaGreat
set_option linter.unusedVariables false
open Go.RowKit Go.Shelf
attribute [local go_sem] Oper.semAt_some

set_option maxRecDepth 20000 in
set_option maxHeartbeats 4000000 in
theorem sigSigns_walk (seed msg : Sg.Str) (h n c : Int) (w : World) :
    Calls Tryz.prog 4 #[.agg #[.string ⟨seed.toArray⟩, .int .i64 h, .int .i64 n], .string ⟨msg.toArray⟩, .int .i64 c] w fun e w' => e = .returned (.bool true) ∧ Below w.heap.size w w' := by
  have hz := bytes_size msg
  have hzs := bytes_size seed
  obtain ⟨W, hW⟩ : ∃ W, w.alloc (.cells #[.string ⟨seed.toArray⟩, .int .i64 h, .int .i64 n] 28) = W := ⟨_, rfl⟩
  have s0 := (St.nil w).alloc 28 #[.string ⟨seed.toArray⟩, .int .i64 h, .int .i64 n]
  rw [hW] at s0
  have key : (2 < h ∧ h ≤ 6) ∨ (¬ (2 < h ∧ h ≤ 6) ∧ 200 < msg.length) ∨ (¬ (2 < h ∧ h ≤ 6) ∧ ¬ 200 < msg.length ∧ 200 < seed.length) ∨ (¬ (2 < h ∧ h ≤ 6) ∧ ¬ 200 < msg.length ∧ ¬ 200 < seed.length) := by
    by_cases h1 : (2 < h ∧ h ≤ 6)
    · exact .inl h1
    · by_cases h2 : 200 < msg.length
      · exact .inr (.inl ⟨h1, h2⟩)
      · by_cases h3 : 200 < seed.length
        · exact .inr (.inr (.inl ⟨h1, h2, h3⟩))
        · exact .inr (.inr (.inr ⟨h1, h2, h3⟩))
  have hq : ∀ q : Prop, ¬ (2 < h ∧ h ≤ 6) → (¬ 2 < h → q) → (2 < h → ¬ h ≤ 6 → q) → q := fun q h1 h2 h3 => by
    by_cases h4 : 2 < h
    · exact h3 h4 (fun h5 => h1 ⟨h4, h5⟩)
    · exact h2 h4
  rcases key with ⟨h1, h2⟩ | ⟨h1, h2⟩ | ⟨h1, h2, h3⟩ | ⟨h1, h2, h3⟩
  · clear hq
    go_enter Tryz.func4, Tryz.ntmps4
    go_wp2_with fail
    refine (awake_sg _).mono ?_
    rintro e w1 ⟨rfl, b1⟩
    have s1 := s0.under b1
    have c1 := s1.blk.cell 1
    go_wp2
    go_ret
    exact ⟨rfl, s1.below⟩
  · have h2' : (200 : Int) < (msg.length : Int) := by omega
    refine hq _ h1 (fun h4 => ?_) (fun h4 h5 => ?_)
    all_goals
      clear hq h1
      go_enter Tryz.func4, Tryz.ntmps4
      go_wp2_with fail
      refine (awake_sg _).mono ?_
      rintro e w1 ⟨rfl, b1⟩
      have s1 := s0.under b1
      have c1 := s1.blk.cell 1
      go_wp2
      go_ret
      exact ⟨rfl, s1.below⟩
  · have h2' : ¬ ((200 : Int) < (msg.length : Int)) := by omega
    have h3' : (200 : Int) < (seed.length : Int) := by omega
    refine hq _ h1 (fun h4 => ?_) (fun h4 h5 => ?_)
    all_goals
      clear hq h1
      go_enter Tryz.func4, Tryz.ntmps4
      go_wp2_with fail
      refine (awake_sg _).mono ?_
      rintro e w1 ⟨rfl, b1⟩
      have s1 := s0.under b1
      have c0 := s1.blk.cell 0
      have c1 := s1.blk.cell 1
      go_wp2
      go_ret
      exact ⟨rfl, s1.below⟩
  · have h2' : ¬ ((200 : Int) < (msg.length : Int)) := by omega
    have h3' : ¬ ((200 : Int) < (seed.length : Int)) := by omega
    have kP := fun W => public_spec seed h n W (by omega)
    have rP := fun W => rpublic_spec seed h n W (by omega)
    have kS := fun W => sign_spec seed msg h n W (by omega)
    have rS := fun W => rsign_spec seed msg h n W (by omega)
    have kK := fun W => skip_spec seed h n c W
    have rK := fun W => rskip_spec seed h n c W
    generalize pubR seed h = X at kP rP
    generalize signR seed h n (Sg.dgs msg) = Y at kS rS
    generalize skipR seed h n c = Z at kK rK
    obtain ⟨x1, x2⟩ := X
    obtain ⟨⟨i, C, T⟩, ⟨y1, y2, y3⟩, y4⟩ := Y
    obtain ⟨⟨z1, z2, z3⟩, z4⟩ := Z
    have kQ := fun (A B A' B' : Option Addr) (a b a' b' : Nat) (W : World) => rsame_spec i C T A B a b i C T A' B' a' b' W
    have hsam : samB i C T i C T = true := by unfold samB; simp
    simp only [hsam] at kQ
    unfold keyA at kK rK
    unfold SgP keyA at kS rS
    dsimp only at kP rP kS rS kK rK
    have HH := Lib.hid s0
    refine hq _ h1 (fun h4 => ?_) (fun h4 h5 => ?_)
    all_goals
      clear hq h1 h2 h3 hsam s0
      go_enter Tryz.func4, Tryz.ntmps4
      go_wp2_with fail
      refine (awake_sg _).mono ?_
      rintro e w1 ⟨rfl, b1⟩
      have s1 := HH.out.under b1
      have c0 := s1.blk.cell 0
      have c1 := s1.blk.cell 1
      have c2 := s1.blk.cell 2
      clear b1
      go_wp2_with fail
      refine (kP _).mono ?_
      rintro e w2 ⟨rfl, b2⟩
      have s2 := s1.under b2
      clear s1 b2 c0 c1 c2 kP
      have c0 := s2.blk.cell 0
      have c1 := s2.blk.cell 1
      have c2 := s2.blk.cell 2
      go_wp2_with fail
      refine (rP _).mono ?_
      rintro e w3 ⟨rfl, b3⟩
      have s3 := s2.under b3
      clear s2 b3 c0 c1 c2 rP
      have c0 := s3.blk.cell 0
      have c1 := s3.blk.cell 1
      have c2 := s3.blk.cell 2
      go_wp2_with fail
      refine (kS _).mono ?_
      rintro e w4 ⟨a, b, rfl, t4⟩
      obtain ⟨A1, n1, rfl, p1, p2⟩ := own_form t4.own
      obtain ⟨A2, n2, rfl, p3, p4⟩ := own_form t4.tail.own
      have s4 := ((s3.join t4).alloc 34 #[.int .i64 i, .slice A1 C.length n1, .slice A2 T.length n2]).alloc 28 #[.string ⟨y1.toArray⟩, .int .i64 y2, .int .i64 y3]
      rw [World.size_alloc] at s4
      obtain ⟨o, ho⟩ : ∃ o, w4.heap.size = o := ⟨_, rfl⟩
      rw [ho] at s4
      have s4 : St w.heap.size w _ [cellsR (o + 1) 28 #[.string ⟨y1.toArray⟩, .int .i64 y2, .int .i64 y3], cellsR o 34 #[.int .i64 i, .slice A1 C.length n1, .slice A2 T.length n2], ownR 9 1 (.slice A1 C.length n1) C.length (strs C), ownR 9 1 (.slice A2 T.length n2) T.length (strs T), cellsR w.heap.size 28 #[.string ⟨seed.toArray⟩, .int .i64 h, .int .i64 n]] := s4
      clear s3 t4 c0 c1 c2 kS
      have c0 := s4.tail.tail.tail.tail.blk.cell 0
      have c1 := s4.tail.tail.tail.tail.blk.cell 1
      have c2 := s4.tail.tail.tail.tail.blk.cell 2
      go_wp2_with fail
      refine (rS _).mono ?_
      rintro e w5 ⟨a', b', rfl, t5⟩
      obtain ⟨A3, n3, rfl, p5, p6⟩ := own_form t5.own
      obtain ⟨A4, n4, rfl, p7, p8⟩ := own_form t5.tail.own
      have s5 := ((s4.join t5).alloc 34 #[.int .i64 i, .slice A3 C.length n3, .slice A4 T.length n4]).alloc 28 #[.string ⟨y1.toArray⟩, .int .i64 y2, .int .i64 y3]
      rw [World.size_alloc] at s5
      obtain ⟨o', ho'⟩ : ∃ o', w5.heap.size = o' := ⟨_, rfl⟩
      rw [ho'] at s5
      have s5 : St w.heap.size w _ [cellsR (o' + 1) 28 #[.string ⟨y1.toArray⟩, .int .i64 y2, .int .i64 y3], cellsR o' 34 #[.int .i64 i, .slice A3 C.length n3, .slice A4 T.length n4], ownR 9 1 (.slice A3 C.length n3) C.length (strs C), ownR 9 1 (.slice A4 T.length n4) T.length (strs T), cellsR (o + 1) 28 #[.string ⟨y1.toArray⟩, .int .i64 y2, .int .i64 y3], cellsR o 34 #[.int .i64 i, .slice A1 C.length n1, .slice A2 T.length n2], ownR 9 1 (.slice A1 C.length n1) C.length (strs C), ownR 9 1 (.slice A2 T.length n2) T.length (strs T), cellsR w.heap.size 28 #[.string ⟨seed.toArray⟩, .int .i64 h, .int .i64 n]] := s5
      clear s4 t5 c0 c1 c2 rS
      have c0 := s5.tail.tail.tail.tail.tail.tail.tail.tail.blk.cell 0
      have c1 := s5.tail.tail.tail.tail.tail.tail.tail.tail.blk.cell 1
      have c2 := s5.tail.tail.tail.tail.tail.tail.tail.tail.blk.cell 2
      go_wp2_with fail
      refine (kK _).mono ?_
      rintro e w6 ⟨rfl, b6⟩
      have s6 := (s5.under b6).alloc 28 #[.string ⟨z1.toArray⟩, .int .i64 z2, .int .i64 z3]
      obtain ⟨p, hp⟩ : ∃ p, w6.heap.size = p := ⟨_, rfl⟩
      rw [hp] at s6
      clear s5 b6 c0 c1 c2 kK
      have c0 := s6.tail.tail.tail.tail.tail.tail.tail.tail.tail.blk.cell 0
      have c1 := s6.tail.tail.tail.tail.tail.tail.tail.tail.tail.blk.cell 1
      have c2 := s6.tail.tail.tail.tail.tail.tail.tail.tail.tail.blk.cell 2
      go_wp2_with fail
      refine (rK _).mono ?_
      rintro e w7 ⟨rfl, b7⟩
      have s7 := s6.under b7
      have s8 := s7.alloc 28 #[.string ⟨z1.toArray⟩, .int .i64 z2, .int .i64 z3]
      obtain ⟨p', hp'⟩ : ∃ p', w7.heap.size = p' := ⟨_, rfl⟩
      rw [hp'] at s8
      clear s6 s7 b7 c0 c1 c2 rK
      have c0 := s8.tail.tail.tail.blk.cell 0
      have c1 := s8.tail.tail.tail.blk.cell 1
      have c2 := s8.tail.tail.tail.blk.cell 2
      have d0 := s8.tail.tail.tail.tail.tail.tail.tail.blk.cell 0
      have d1 := s8.tail.tail.tail.tail.tail.tail.tail.blk.cell 1
      have d2 := s8.tail.tail.tail.tail.tail.tail.tail.blk.cell 2
      have kq := kQ A1 A2 A3 A4 n1 n2 n3 n4 _ (Rd.of_own s8.tail.tail.tail.tail.tail.tail.tail.tail.own) (Rd.of_own s8.tail.tail.tail.tail.tail.tail.tail.tail.tail.own) (Rd.of_own s8.tail.tail.tail.tail.own) (Rd.of_own s8.tail.tail.tail.tail.tail.own) (Nat.le_trans p1 p2) (Nat.le_trans p3 p4) (Nat.le_trans p5 p6) (Nat.le_trans p7 p8)
      have H8 := Lib.hid s8
      clear s8 kQ
      go_wp2_with fail
      refine kq.mono ?_
      rintro e w9 ⟨rfl, b9⟩
      have s9 := H8.out.under b9
      clear c0 c1 c2 d0 d1 d2 kq b9
      have c0 := s9.blk.cell 0
      have c1 := s9.blk.cell 1
      have c2 := s9.blk.cell 2
      have d0 := s9.tail.blk.cell 0
      have d1 := s9.tail.blk.cell 1
      have d2 := s9.tail.blk.cell 2
      have e0 := s9.tail.tail.blk.cell 0
      have e1 := s9.tail.tail.blk.cell 1
      have e2 := s9.tail.tail.blk.cell 2
      have f0 := s9.tail.tail.tail.tail.tail.tail.blk.cell 0
      have f1 := s9.tail.tail.tail.tail.tail.tail.blk.cell 1
      have f2 := s9.tail.tail.tail.tail.tail.tail.blk.cell 2
      have S9 := Lib.hid s9
      clear s9
      go_wp2
      go_ret
      exact ⟨rfl, S9.out.below⟩
end Go.Proofs.YtnlpakalcckaiaaGreat
