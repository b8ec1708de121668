/-
  CodecCuts: the walk: bytes that are cut off before their end are not read. Conditions: the list is small.
-/
import Derived.Test.YtalailodnmfmlaaLReturns
namespace Go.Proofs.Ytalailodnmfmlaa
set_option linter.unusedVariables false
open Go.RowKit

set_option maxRecDepth 20000 in
set_option maxHeartbeats 4000000 in
theorem codecCuts_walk (n : Int) (cut : Nat) (h0 : -9223372036854775808 ≤ n) (h1 : n ≤ 9223372036854775807) (hcut : cut ≤ 65535) (A : Option Addr) (L : List (List UInt8)) (c : Nat) (w : World)
    (hR : Rd w A (strs L)) (hL : weight L ≤ 1048576) :
    Calls Try.prog 5 #[.slice A L.length c, .int .i64 n, .int .u16 cut] w fun e w' => e = .returned (.bool true) ∧ Below w.heap.size w w' := by
  have hLl := len_weight' L
  go_enter Try.func5, Try.ntmps5
  go_wp2_with fail
  refine (awake_spec _).mono ?_
  rintro e w1 ⟨rfl, b1⟩
  have kFew := few_spec A L c 2000 w1 (hR.below b1) (by omega)
  by_cases hf : (weight L : Int) ≤ 2000
  · rw [decide_eq_true hf] at kFew
    go_wp2_with fail
    refine kFew.mono ?_
    clear kFew
    rintro e w' ⟨rfl, rfl⟩
    have hbl := body_len' L
    have htl := texts_len' L
    have hil := int_len n
    have kI := fun w => int_spec n h0 h1 w
    have kTs := fun w hR => texts_spec A L c w hR (by omega) (by omega)
    have htp : 0 < (Cd.texts L).length := by have := Cd.uns_pos L.length; simp [Cd.texts]; omega
    have hip : 0 < (Cd.int n).length := by unfold Cd.int; split <;> exact Cd.uns_pos _
    have kc1 := Cd.texts_cut (L := L) (by omega) (Nat.mod_lt cut htp)
    have kc2 := Cd.int_cut h0 h1 (Nat.mod_lt cut hip)
    obtain ⟨T, hT⟩ : ∃ T, Cd.texts L = T := ⟨_, rfl⟩
    obtain ⟨I, hI⟩ : ∃ I, Cd.int n = I := ⟨_, rfl⟩
    rw [hT] at kTs kc1 htl htp
    rw [hI] at kI kc2 hil hip
    have hTl : (T.length : Int) ≤ 1099511627776 := by omega
    have hIl : (I.length : Int) ≤ 10 := by omega
    have hTe : T.isEmpty = false := by cases T; simp at htp; rfl
    have hIe : I.isEmpty = false := by cases I; simp at hip; rfl
    have hTp : (0 : Int) < (T.length : Int) := by omega
    have hIp : (0 : Int) < (I.length : Int) := by omega
    have hTz : ((T.length : Int) == 0) = false := by rw [beq_eq_false_iff_ne]; omega
    have hIz : ((I.length : Int) == 0) = false := by rw [beq_eq_false_iff_ne]; omega
    have hm1 : ((cut : Int) % (T.length : Int)) = ((cut % T.length : Nat) : Int) := by rw [Int.natCast_emod]
    have hm2 : ((cut : Int) % (I.length : Int)) = ((cut % I.length : Nat) : Int) := by rw [Int.natCast_emod]
    have hq1 : cut % T.length < T.length := Nat.mod_lt _ htp
    have hq2 : cut % I.length < I.length := Nat.mod_lt _ hip
    obtain ⟨q1, hq1'⟩ : ∃ q, cut % T.length = q := ⟨_, rfl⟩
    obtain ⟨q2, hq2'⟩ : ∃ q, cut % I.length = q := ⟨_, rfl⟩
    rw [hq1'] at kc1 hm1 hq1
    rw [hq2'] at kc2 hm2 hq2
    have hx1 := bytes_cut T 0 q1
    have hx2 := bytes_cut I 0 q2
    simp only [List.drop_zero, Nat.sub_zero] at hx1 hx2
    have kR1 : ∀ w r, Rr w r (T.take q1) 0 0 → Calls Try.prog 25 #[.pointer (some ⟨r, 0, none⟩)] w (MethT r w.heap.size (T.take q1) [] 0 9 w) := fun w r h => by
      have := rtexts_spec r _ 0 0 w h (by simp; omega) (Nat.zero_le _)
      rwa [show textsR (T.take q1) 0 0 = ([], 0, 9) from by unfold textsR; rw [if_neg (by simp), kc1]] at this
    have kR2 : ∀ w r, Rr w r (T.take q1) 0 9 → Calls Try.prog 27 #[.pointer (some ⟨r, 0, none⟩)] w fun e' w' => e' = .returned (.int .i64 9) ∧ Below w.heap.size w w' :=
      fun w r h => (end_spec r _ 0 9 w h).mono fun e w' ⟨a, n, b⟩ => ⟨a, by subst b; exact below_drewN _ _⟩
    have kR3 : ∀ w r, Rr w r (I.take q2) 0 0 → Calls Try.prog 22 #[.pointer (some ⟨r, 0, none⟩)] w (MethP r (I.take q2) (.int .i64 0) 0 9 w) := fun w r h => by
      have := rint_spec r _ 0 0 w h (by simp; omega) (Nat.zero_le _)
      rwa [show intR (I.take q2) 0 0 = (0, 0, 9) from by unfold intR; rw [if_neg (by simp), kc2]] at this
    have HH := Lib.hid (And.intro hq1' (And.intro hq2' (And.intro hT hI)))
    clear hq1' hq2' hT hI kc1 kc2 htl hil hbl htp hip hf hL hLl h0 h1
    have hq1I : (q1 : Int) ≤ (T.length : Int) := by omega
    have hq2I : (q2 : Int) ≤ (I.length : Int) := by omega
    go_wp2_with fail
    refine (kTs _ (hR.below b1)).mono ?_
    clear kTs
    rintro e w2 ⟨rfl, b⟩
    have b2 := below_up b1 b; clear b1 b
    go_wp2_with fail
    go_must (refine (newReader_spec (T.take q1) _).mono ?_)
    rintro e w3 ⟨rfl, r3, b⟩
    have b3 := below_up b2 b
    have s2 := b2.size
    clear b2 b
    go_wp2_with fail
    refine (kI _).mono ?_
    clear kI
    rintro e w4 ⟨rfl, b⟩
    have b4 := below_up b3 b
    have r4 := r3.below b
    have hr : w2.heap.size < w4.heap.size := Blk.lt r4
    clear b3 b r3
    go_wp2_with fail
    go_must (refine (newReader_spec (I.take q2) _).mono ?_)
    rintro e w5 ⟨rfl, q5, b⟩
    have b5 := below_up b4 b
    have r5 := r4.below b
    have s4 := b4.size
    clear b4 b r4
    go_wp2_with fail
    refine (kR1 _ _ r5).mono ?_
    clear kR1 r5
    rintro e w6 ⟨v, rfl, ob, r6, mm⟩
    have b6 := below_step b5 mm (fun i hi he => by omega)
    have q6 := Rr.mod q5 mm (fun he => by omega)
    clear b5 mm q5
    obtain ⟨A3, c3, rfl, hc3, hc4⟩ := own_form ob
    clear ob hc3 hc4
    go_wp2_with fail
    refine (error_spec _ _ _ _ _ r6).mono ?_
    rintro e w7 ⟨rfl, rfl⟩
    go_wp2_with fail
    refine (kR2 _ _ r6).mono ?_
    clear kR2
    rintro e w8 ⟨rfl, b⟩
    have b8 := below_up b6 b
    have q8 := q6.below b
    clear b6 b q6 r6
    go_wp2_with fail
    refine (kR3 _ _ q8).mono ?_
    clear kR3
    rintro e w9 ⟨rfl, q9, mm⟩
    have b9 := below_step b8 mm (fun i hi he => by omega)
    clear b8 mm q8
    go_wp2_with fail
    refine (error_spec _ _ _ _ _ q9).mono ?_
    rintro e wa ⟨rfl, rfl⟩
    go_wp2
    go_ret
    exact ⟨rfl, b9⟩
  · rw [decide_eq_false hf] at kFew
    clear hf
    go_wp2_with fail
    refine kFew.mono ?_
    rintro e w' ⟨rfl, rfl⟩
    go_wp2
    go_ret
    exact ⟨rfl, b1⟩
end Go.Proofs.Ytalailodnmfmlaa
