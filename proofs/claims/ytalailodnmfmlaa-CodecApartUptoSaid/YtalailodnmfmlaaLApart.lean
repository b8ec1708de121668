/-
  CodecApart: the walk: the bytes of two different lists are different, and none is the beginning of the other. Conditions: the lists are small.
-/
import Derived.Test.YtalailodnmfmlaaLReturns
import Derived.Test.YtalailodnmfmlaaClone
namespace Go.Proofs.Ytalailodnmfmlaa
set_option linter.unusedVariables false
open Go.RowKit

theorem weight_append (a b : List (List UInt8)) : weight (a ++ b) = weight a + weight b := by simp [weight]; omega
theorem texts_not_prefix {L M : List (List UInt8)} (hL : weight L ≤ 1048576) (hM : weight M ≤ 1048576) (h : L ≠ M) : (Cd.texts L).isPrefixOf (Cd.texts M) = false := by
  rw [Bool.eq_false_iff]
  intro hp
  obtain ⟨r, hr⟩ := List.isPrefixOf_iff_prefix.1 hp
  exact h (Cd.texts_prefix (fun s hs => by have := mem_weight hs; omega) (by have := len_weight' L; omega) (fun s hs => by have := mem_weight hs; omega) (by have := len_weight' M; omega) hr)

set_option maxRecDepth 20000 in
set_option maxHeartbeats 1000000 in
theorem codecApart_walk (A B : Option Addr) (L M : List (List UInt8)) (c d : Nat) (w : World)
    (hR : Rd w A (strs L)) (hnil : A = none → L.length = 0 ∧ c = 0) (hQ : Rd w B (strs M)) (hnil' : B = none → M.length = 0 ∧ d = 0) (hL : weight L ≤ 1048576) (hM : weight M ≤ 1048576) :
    Calls Try.prog 8 #[.slice A L.length c, .slice B M.length d] w fun e w' => e = .returned (.bool true) ∧ Below w.heap.size w w' := by
  have hLl := len_weight' L
  have hMl := len_weight' M
  have kC := fun w hR => clone_spec A L c w hR hnil (by omega)
  go_enter Try.func8, Try.ntmps8
  go_wp2_with fail
  refine (awake_spec _).mono ?_
  rintro e w1 ⟨rfl, b1⟩
  have s1 := b1.size
  go_wp2_with fail
  refine (kC _ (hR.below b1)).mono ?_
  clear kC
  rintro e w2 ⟨v, rfl, o1, b⟩
  have b2 := below_up b1 b
  have s2 := b2.size
  have s3 := b.size
  clear b
  have rdM := hQ.below b2
  go_wp2_with (at_builtin; go_must (refine appendN _ 22 9 (.string ⟨#[]⟩) 16 w1.heap.size Try.underlying22 info_strc rfl rfl _ _ rfl v L.length (strs L) B M.length d (strs M) o1 rfl rfl hnil' rdM (strs_length M) (strs_one M) (by omega) (by unfold maxLen; omega) s3 ?_))
  intro v2 w3 o2 g2
  obtain ⟨A2, c2, rfl, hc1, hc2⟩ := own_form o2
  have b3 : Below w.heap.size w w3 := b2.grown g2 (by omega) (fun k hk => by have := (o1.lt k hk).1; omega)
  have rd2 : Rd w3 A2 (strs (L ++ M)) := by
    have := Rd.of_own o2
    simpa [strs] using this
  clear o2 g2 hc1 hc2 o1 rdM b2
  have kFew := few_spec A2 (L ++ M) c2 2000 w3 rd2 (by rw [weight_append]; omega)
  rw [show (L ++ M).length = L.length + M.length from by simp] at kFew
  clear rd2
  by_cases hf : (weight (L ++ M) : Int) ≤ 2000
  · rw [decide_eq_true hf] at kFew
    have hbl := body_len' L
    have hbm := body_len' M
    have kT := fun w hR => texts_spec A L c w hR (by omega) (by omega)
    have kS := fun w hR => texts_spec B M d w hR (by omega) (by omega)
    have kE : ∀ w, Rd w A (strs L) → Rd w B (strs M) → Calls Try.prog 24 #[.slice A L.length c, .slice B M.length d] w fun e w' => e = .returned (.bool (decide (L = M))) ∧ Below w.heap.size w w' :=
      fun w h1 h2 => (equal_spec A B L M c d w h1 h2 (by omega) (by omega)).mono fun e w' ⟨a, n, b⟩ => ⟨a, by subst b; exact below_drewN _ _⟩
    clear hf hbl hbm
    go_wp2_with fail
    refine kFew.mono ?_
    clear kFew
    rintro e w' ⟨rfl, rfl⟩
    go_wp2_with fail
    refine (kT _ (hR.below b3)).mono ?_
    clear kT
    rintro e w4 ⟨rfl, b⟩
    have b4 := below_up b3 b; clear b3 b
    go_wp2_with fail
    refine (kS _ (hQ.below b4)).mono ?_
    clear kS
    rintro e w5 ⟨rfl, b⟩
    have b5 := below_up b4 b; clear b4 b
    have kE5 := kE w5 (hR.below b5) (hQ.below b5)
    clear kE
    by_cases he : L = M
    · rw [decide_eq_true he] at kE5
      have HE := Lib.hid he; clear he
      go_wp2_with fail
      refine kE5.mono ?_
      clear kE5
      rintro e w6 ⟨rfl, b⟩
      have b6 := below_up b5 b; clear b5 b
      go_wp2
      go_ret
      exact ⟨ret_eq (congrArg Value.bool (by simp [HE.out])), b6⟩
    · rw [decide_eq_false he] at kE5
      have kP : ∀ w, Calls Try.prog 33 #[.string ⟨(Cd.texts L).toArray⟩, .string ⟨(Cd.texts M).toArray⟩] w fun e w' => e = .returned (.bool false) ∧ w = w' := fun w =>
        (hasprefix_spec (Cd.texts L) (Cd.texts M) (by have := texts_len' L; have := body_len' L; omega) (by have := texts_len' M; have := body_len' M; omega) w).mono fun e w' ⟨a, b⟩ => ⟨a.trans (ret_eq (congrArg Value.bool (texts_not_prefix hM hL (fun h => he h.symm)))), b⟩
      have kQ : ∀ w, Calls Try.prog 33 #[.string ⟨(Cd.texts M).toArray⟩, .string ⟨(Cd.texts L).toArray⟩] w fun e w' => e = .returned (.bool false) ∧ w = w' := fun w =>
        (hasprefix_spec (Cd.texts M) (Cd.texts L) (by have := texts_len' M; have := body_len' M; omega) (by have := texts_len' L; have := body_len' L; omega) w).mono fun e w' ⟨a, b⟩ => ⟨a.trans (ret_eq (congrArg Value.bool (texts_not_prefix hL hM he))), b⟩
      clear he
      go_wp2_with fail
      refine kE5.mono ?_
      clear kE5
      rintro e w6 ⟨rfl, b⟩
      have b6 := below_up b5 b; clear b5 b
      go_wp2_with fail
      refine (kP _).mono ?_
      rintro e w7 ⟨rfl, rfl⟩
      go_wp2_with fail
      refine (kQ _).mono ?_
      rintro e w8 ⟨rfl, rfl⟩
      go_wp2
      go_ret
      exact ⟨rfl, b6⟩
  · rw [decide_eq_false hf] at kFew
    clear hf
    go_wp2_with fail
    refine kFew.mono ?_
    rintro e w' ⟨rfl, rfl⟩
    go_wp2
    go_ret
    exact ⟨rfl, b3⟩
end Go.Proofs.Ytalailodnmfmlaa
