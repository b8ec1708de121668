/-
  CodecWrites: the walk: Uint, Int, Text and Texts of the program and of the reference agree. Conditions: the arguments are small.
-/
import Derived.Test.YtalailodnmfmlaaCodecAw
import Derived.Test.YtalailodnmfmlaaAppend
namespace Go.Proofs.Ytalailodnmfmlaa
set_option linter.unusedVariables false
open Go.RowKit

theorem body_len (L : List (List UInt8)) : (Cd.body L).length ≤ 11 * weight L := by
  induction L with
  | nil => simp [Cd.body, weight]
  | cons x L ih =>
    rw [Cd.body_cons, List.length_append, text_len]
    have := Cd.uns_len x.length
    have e : weight (x :: L) = weight L + x.length + 1 := by simp [weight]; omega
    omega
theorem len_weight (L : List (List UInt8)) : L.length ≤ weight L := by unfold weight; omega
theorem weight_append (a b : List (List UInt8)) : weight (a ++ b) = weight a + weight b := by simp [weight]; omega

set_option maxRecDepth 20000 in
set_option maxHeartbeats 2000000 in
theorem codecWrites_walk (n : Int) (h0 : -9223372036854775808 ≤ n) (h1 : n ≤ 9223372036854775807) (s : List UInt8) (A : Option Addr) (L : List (List UInt8)) (c : Nat) (w : World)
    (hR : Rd w A (strs L)) (hnil : A = none → L.length = 0 ∧ c = 0) (hs : s.length ≤ 1048576) (hL : weight L ≤ 1048576) :
    Calls Try.prog 3 #[.int .i64 n, .string ⟨s.toArray⟩, .slice A L.length c] w fun e w' => e = .returned (.bool true) ∧ Below w.heap.size w w' := by
  have hLl := len_weight L
  go_enter Try.func3, Try.ntmps3
  go_wp2_with fail
  refine (awake_spec _).mono ?_
  rintro e w1 ⟨rfl, b1⟩
  have s1 := b1.size
  have rd1 := hR.below b1
  go_wp2_with (at_builtin; go_must (refine appendN _ 22 9 (.string ⟨#[]⟩) 16 w.heap.size Try.underlying22 info_str rfl rfl _ _ rfl _ 1 [.string ⟨s.toArray⟩] A L.length c (strs L) (World.ownsRow_lit w1 #[.string ⟨s.toArray⟩] 1 s1 (by decide) rfl) rfl rfl hnil (rd1.alloc _) (strs_length L) (strs_one L) (by omega) (by unfold maxLen; omega) (by simp; omega) ?_))
  intro v2 w2 o2 g2
  obtain ⟨A2, c2, rfl, hc1, hc2⟩ := own_form o2
  have b2 : Below w.heap.size w w2 := (b1.alloc s1 _).grown g2 (by simp; omega) (fun k hk => by cases hk; exact s1)
  have rd2 := Rd.of_own o2
  clear o2 g2 hc1 hc2 rd1
  have hw : weight (s :: L) = weight L + s.length + 1 := by simp [weight]; omega
  have kFew := few_spec A2 (s :: L) c2 2000 w2 rd2 (by omega)
  rw [show (s :: L).length = 1 + L.length from by simp; omega] at kFew
  clear rd2
  by_cases hf : (weight (s :: L) : Int) ≤ 2000
  · rw [decide_eq_true hf] at kFew
    have kU : ∀ w, Calls Try.prog 12 #[.int .i64 n] w fun e w' => e = .returned (.tuple #[.string ⟨(if n < 0 then [] else Cd.uns n.toNat).toArray⟩, .int .i64 (if n < 0 then 2 else 0)]) ∧ Below w.heap.size w w' := by
      intro w
      by_cases hn : n < 0
      · rw [if_pos hn, if_pos hn]
        exact (uint_neg n hn w).mono fun e w' ⟨a, b⟩ => ⟨a, by subst b; exact Below.refl _ _⟩
      · rw [if_neg hn, if_neg hn]
        have := uint_pos n.toNat (by omega) w
        rwa [Int.toNat_of_nonneg (by omega)] at this
    have kV : ∀ w, Calls Try.prog 13 #[.int .i64 n] w fun e w' => e = .returned (.tuple #[.string ⟨(if n < 0 then [] else Cd.uns n.toNat).toArray⟩, .int .i64 (if n < 0 then 2 else 0)]) ∧ Below w.heap.size w w' := by
      intro w
      by_cases hn : n < 0
      · rw [if_pos hn, if_pos hn]
        exact (ruint_neg n hn w).mono fun e w' ⟨a, b⟩ => ⟨a, by subst b; exact Below.refl _ _⟩
      · rw [if_neg hn, if_neg hn]
        have := ruint_pos n.toNat (by omega) w
        rwa [Int.toNat_of_nonneg (by omega)] at this
    obtain ⟨u, hu⟩ : ∃ u, (if n < 0 then [] else Cd.uns n.toNat) = u := ⟨_, rfl⟩
    obtain ⟨f, hf'⟩ : ∃ f : Int, (if n < 0 then 2 else 0) = f := ⟨_, rfl⟩
    rw [hu, hf'] at kU kV
    clear hu hf'
    have kI := fun w => int_spec n h0 h1 w
    have kJ := fun w => int_ref n h0 h1 w
    have kT := fun w => text_spec s (by omega) w
    have kS := fun w => text_ref s (by omega) w
    have hbl := body_len L
    have kTs := fun w hR => texts_spec A L c w hR (by omega) (by omega)
    have kTr := fun w hR => texts_ref A L c w hR (by omega) (by omega)
    have HH := Lib.hid (And.intro h0 h1)
    clear hf hw hbl hLl h0 h1 hL hs
    go_wp2_with fail
    refine kFew.mono ?_
    clear kFew
    rintro e w' ⟨rfl, rfl⟩
    go_wp2_with fail
    refine (kU _).mono ?_
    rintro e w3 ⟨rfl, b⟩
    have b3 := below_up b2 b; clear b2 b
    go_wp2_with fail
    refine (kV _).mono ?_
    rintro e w4 ⟨rfl, b⟩
    have b4 := below_up b3 b; clear b3 b
    go_wp2_with fail
    refine (kI _).mono ?_
    rintro e w5 ⟨rfl, b⟩
    have b5 := below_up b4 b; clear b4 b
    go_wp2_with fail
    refine (kJ _).mono ?_
    rintro e w6 ⟨rfl, b⟩
    have b6 := below_up b5 b; clear b5 b
    go_wp2_with fail
    refine (kT _).mono ?_
    rintro e w7 ⟨rfl, b⟩
    have b7 := below_up b6 b; clear b6 b
    go_wp2_with fail
    refine (kS _).mono ?_
    rintro e w8 ⟨rfl, b⟩
    have b8 := below_up b7 b; clear b7 b
    go_wp2_with fail
    refine (kTs _ (hR.below b8)).mono ?_
    rintro e w9 ⟨rfl, b⟩
    have b9 := below_up b8 b; clear b8 b
    go_wp2_with fail
    refine (kTr _ (hR.below b9)).mono ?_
    rintro e wa ⟨rfl, b⟩
    have ba := below_up b9 b; clear b9 b
    go_wp2
    go_ret
    exact ⟨rfl, ba⟩
  · rw [decide_eq_false hf] at kFew
    clear hf hw
    go_wp2_with fail
    refine kFew.mono ?_
    rintro e w' ⟨rfl, rfl⟩
    go_wp2
    go_ret
    exact ⟨rfl, b2⟩
end Go.Proofs.Ytalailodnmfmlaa
