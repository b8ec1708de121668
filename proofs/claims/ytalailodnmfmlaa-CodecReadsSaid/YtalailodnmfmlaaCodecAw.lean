/-
  The examples of chapter 2 hold of the program: awake returns true. Conditions: none.
-/
import Derived.Test.YtalailodnmfmlaaCodecW3
import Derived.Test.YtalailodnmfmlaaCodecR7
import Derived.Test.YtalailodnmfmlaaStrs
namespace Go.Proofs.Ytalailodnmfmlaa
set_option linter.unusedVariables false
open Go.RowKit

theorem below_step {S : Nat → Prop} {w0 w w' : World} (h : Below w0.heap.size w0 w) (hm : Mod S w w') (hs : ∀ i, i < w0.heap.size → ¬ S i) : Below w0.heap.size w0 w' := h.trans (hm.below h.size hs)
theorem below_up {w0 w w' : World} (h : Below w0.heap.size w0 w) (hm : Below w.heap.size w w') : Below w0.heap.size w0 w' := h.trans (hm.mono h.size)
theorem rd_lit2 (w : World) (u v : Value) (e : TypeId) : Rd (w.alloc (.cells #[u, v] e)) (some ⟨w.heap.size, 0, none⟩) [u, v] := by
  refine .inr ⟨w.heap.size, 0, rfl, fun j hj => ?_⟩
  rw [World.cell?_alloc_mark w #[u, v] e (0, 0)]
  match j, hj with
  | 0, _ => rfl
  | 1, _ => rfl

theorem below_drewN (w : World) (n : Nat) : Below w.heap.size w (w.drewN n) := ((Mod.refl (fun _ => False) w).drewN n).below (Nat.le_refl _) (fun _ _ h => h)
set_option maxRecDepth 20000 in
set_option maxHeartbeats 2000000 in
theorem awake_spec (w : World) : Calls Try.prog 10 #[] w fun e w' => e = .returned (.bool true) ∧ Below w.heap.size w w' := by
  have kUint : ∀ w, Calls Try.prog 12 #[.int .i64 300] w fun e w' => e = .returned (.tuple #[.string ⟨#[172, 2]⟩, .int .i64 0]) ∧ Below w.heap.size w w' := fun w => uint_pos 300 (by decide) w
  have kIntN : ∀ w, Calls Try.prog 14 #[.int .i64 (-1)] w fun e w' => e = .returned (.string ⟨#[1]⟩) ∧ Below w.heap.size w w' := fun w => int_spec (-1) (by decide) (by decide) w
  have kIntP : ∀ w, Calls Try.prog 14 #[.int .i64 1] w fun e w' => e = .returned (.string ⟨#[2]⟩) ∧ Below w.heap.size w w' := fun w => int_spec 1 (by decide) (by decide) w
  have kText : ∀ w, Calls Try.prog 16 #[.string ⟨#[97, 98]⟩] w fun e w' => e = .returned (.string ⟨#[2, 97, 98]⟩) ∧ Below w.heap.size w w' := fun w => text_spec [97, 98] (by decide) w
  have kTexts : ∀ g w, Rd w (some ⟨g, 0, none⟩) [.string ⟨#[]⟩, .string ⟨#[97]⟩] → Calls Try.prog 18 #[.slice (some ⟨g, 0, none⟩) 2 2] w fun e w' => e = .returned (.string ⟨#[2, 0, 1, 97]⟩) ∧ Below w.heap.size w w' :=
    fun g w hR => texts_spec (some ⟨g, 0, none⟩) [[], [97]] 2 w hR (by decide) (by decide)
  have kR1 : ∀ w r, Rr w r [128, 0] 0 0 → Calls Try.prog 21 #[.pointer (some ⟨r, 0, none⟩)] w (MethP r [128, 0] (.int .i64 0) 0 9 w) := fun w r h => ruint_spec r [128, 0] 0 0 w h (by decide) (by decide)
  have kE1 : ∀ w r, Rr w r [128, 0] 0 9 → Calls Try.prog 26 #[.pointer (some ⟨r, 0, none⟩)] w fun e' w' => e' = .returned (.int .i64 9) ∧ w = w' := fun w r h => error_spec r _ _ _ w h
  have kR2 : ∀ w r, Rr w r [2, 97, 98, 2, 0, 1, 97, 1] 0 0 → Calls Try.prog 23 #[.pointer (some ⟨r, 0, none⟩)] w (MethP r [2, 97, 98, 2, 0, 1, 97, 1] (.string ⟨#[97, 98]⟩) 3 0 w) := fun w r h => rtextm_spec r _ 0 0 w h (by decide) (by decide)
  have kR3 : ∀ w r, Rr w r [2, 97, 98, 2, 0, 1, 97, 1] 3 0 → Calls Try.prog 25 #[.pointer (some ⟨r, 0, none⟩)] w (MethT r w.heap.size [2, 97, 98, 2, 0, 1, 97, 1] [[], [97]] 7 0 w) := fun w r h => rtexts_spec r _ 3 0 w h (by decide) (by decide)
  have kR4 : ∀ w r, Rr w r [2, 97, 98, 2, 0, 1, 97, 1] 7 0 → Calls Try.prog 27 #[.pointer (some ⟨r, 0, none⟩)] w fun e' w' => e' = .returned (.int .i64 9) ∧ Below w.heap.size w w' := fun w r h => (end_spec r _ 7 0 w h).mono fun e w' ⟨a, n, b⟩ => ⟨a, by subst b; exact below_drewN _ _⟩
  have kR5 : ∀ w r, Rr w r [2, 97, 98, 2, 0, 1, 97, 1] 7 0 → Calls Try.prog 22 #[.pointer (some ⟨r, 0, none⟩)] w (MethP r [2, 97, 98, 2, 0, 1, 97, 1] (.int .i64 (-1)) 8 0 w) := fun w r h => rint_spec r _ 7 0 w h (by decide) (by decide)
  have kR6 : ∀ w r, Rr w r [2, 97, 98, 2, 0, 1, 97, 1] 8 0 → Calls Try.prog 27 #[.pointer (some ⟨r, 0, none⟩)] w fun e' w' => e' = .returned (.int .i64 0) ∧ Below w.heap.size w w' := fun w r h => (end_spec r _ 8 0 w h).mono fun e w' ⟨a, n, b⟩ => ⟨a, by subst b; exact below_drewN _ _⟩
  go_enter Try.func10, Try.ntmps10
  go_wp2_with fail
  refine (kUint _).mono ?_
  rintro e w1 ⟨rfl, b1⟩
  go_wp2_with fail
  refine (newReader_spec [128, 0] _).mono ?_
  rintro e w2 ⟨rfl, r1, b2⟩
  have c1 := below_up b1 b2
  have s1 := b1.size
  clear b2
  go_wp2_with fail
  refine (kR1 _ _ r1).mono ?_
  rintro e w3 ⟨rfl, r2, m2⟩
  have c2 := below_step c1 m2 (fun i hi he => by omega)
  clear c1 m2 r1
  go_wp2_with fail
  refine (kE1 _ _ r2).mono ?_
  rintro e w4 ⟨rfl, rfl⟩
  clear r2
  go_wp2_with fail
  refine (newReader_spec [2, 97, 98, 2, 0, 1, 97, 1] _).mono ?_
  rintro e w5 ⟨rfl, r1, b2⟩
  have c1 := below_up c2 b2
  have s2 := c2.size
  clear b2 c2
  go_wp2_with fail
  refine (kIntN _).mono ?_
  rintro e w6 ⟨rfl, b3⟩
  have c2 := below_up c1 b3
  have r2 := r1.below b3
  clear c1 r1 b3
  go_wp2_with fail
  refine (kIntP _).mono ?_
  rintro e w7 ⟨rfl, b3⟩
  have c1 := below_up c2 b3
  have r1 := r2.below b3
  clear c2 r2 b3
  go_wp2_with fail
  refine (kText _).mono ?_
  rintro e w8 ⟨rfl, b3⟩
  have c2 := below_up c1 b3
  have r2 := r1.below b3
  clear c1 r1 b3
  go_wp2_with fail
  refine (kTexts _ _ (rd_lit2 _ _ _ _)).mono ?_
  rintro e w9 ⟨rfl, b3⟩
  have b4 := ((Below.refl _ w8).alloc (Nat.le_refl _) _).trans (b3.mono (by simp))
  have c1 := below_up c2 b4
  have r1 := r2.below b4
  clear c2 r2 b3 b4
  go_wp2_with fail
  refine (kR2 _ _ r1).mono ?_
  rintro e wa ⟨rfl, r2, m2⟩
  have c2 := below_step c1 m2 (fun i hi he => by omega)
  clear c1 r1 m2
  go_wp2_with fail
  refine (kR3 _ _ r2).mono ?_
  rintro e wb ⟨v, rfl, o1, r1, m2⟩
  have c1 := below_step c2 m2 (fun i hi he => by omega)
  clear c2 r2 m2
  obtain ⟨A, c, rfl, hc1, hc2⟩ := own_form o1
  have rd1 := Rd.of_own o1
  clear o1 hc1 hc2
  have kEq : ∀ w1, Rd w1 A (strs [[], [97]]) → Rd w1 (some ⟨wb.heap.size, 0, none⟩) (strs [[], [97]]) → Calls Try.prog 24 #[.slice A 2 c, .slice (some ⟨wb.heap.size, 0, none⟩) 2 2] w1 fun e w' => e = .returned (.bool true) ∧ Below w1.heap.size w1 w' :=
    fun w1 h1 h2 => (equal_spec A _ [[], [97]] [[], [97]] c 2 w1 h1 h2 (by decide) (by decide)).mono fun e w' ⟨a, n, b⟩ => ⟨a.trans (ret_eq (congrArg Value.bool (by decide))), by subst b; exact below_drewN _ _⟩
  go_wp2_with fail
  refine (kEq _ (rd1.alloc _) (rd_lit2 _ _ _ _)).mono ?_
  clear kEq
  rintro e wc ⟨rfl, b3⟩
  have b4 := ((Below.refl _ wb).alloc (Nat.le_refl _) _).trans (b3.mono (by simp))
  have c2 := below_up c1 b4
  have r2 := r1.below b4
  clear c1 r1 rd1 b3 b4
  go_wp2_with fail
  refine (kR4 _ _ r2).mono ?_
  rintro e wd ⟨rfl, b3⟩
  have c1 := below_up c2 b3
  have r1 := r2.below b3
  clear c2 r2 b3
  go_wp2_with fail
  refine (kR5 _ _ r1).mono ?_
  rintro e we ⟨rfl, r2, m2⟩
  have c2 := below_step c1 m2 (fun i hi he => by omega)
  clear c1 r1 m2
  go_wp2_with fail
  refine (kR6 _ _ r2).mono ?_
  rintro e wf ⟨rfl, b3⟩
  have c1 := below_up c2 b3
  clear c2 r2 b3
  go_wp2
  go_ret
  exact ⟨rfl, c1⟩
end Go.Proofs.Ytalailodnmfmlaa
