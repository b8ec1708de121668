/-
  Sha256Tags: the walk. Conditions: the arguments are small.
-/
import Derived.Test.YtolgldgabhhmaaaShL
import Derived.Test.YtolgldgabhhmaaaAppend
namespace Go.Proofs.Ytolgldgabhhmaaa
set_option linter.unusedVariables false
open Go.RowKit

theorem info_str : (Try.prog.info? 9).map (fun i => (i.zero, i.size, i.bytes)) = some (some (.string ⟨#[]⟩), 1, 16) := by kernel_rfl
theorem weight_cons (s : Sh.Str) (L : List Sh.Str) : weight (s :: L) = weight L + s.length + 1 := by simp [weight]; omega
theorem tagged_below (tag : Sh.Str) (A : Option Addr) (parts : List Sh.Str) (c : Nat) (w : World) (hR : Rd w A (strs parts)) (ht : tag.length ≤ 1000000) (hp : weight parts ≤ 1000000) :
    Calls Try.prog 14 #[.string ⟨tag.toArray⟩, .slice A parts.length c] w fun e w' => e = .returned (.string ⟨(Sh.sha (tagMsg tag parts)).toArray⟩) ∧ Below w.heap.size w w' :=
  (tagged_spec (St.nil w) tag A parts c (fun h => hR.below h.below) ht hp).mono fun e w' h => ⟨h.1, h.2.below⟩
set_option maxRecDepth 20000 in
set_option maxHeartbeats 2000000 in
theorem shaTags_walk (tag : Sh.Str) (A : Option Addr) (parts : List Sh.Str) (c : Nat) (w : World) (hR : Rd w A (strs parts)) (hnil : A = none → parts.length = 0 ∧ c = 0) (ht : tag.length ≤ 1048576) (hp : weight parts ≤ 1048576) :
    Calls Try.prog 4 #[.string ⟨tag.toArray⟩, .slice A parts.length c] w fun e w' => e = .returned (.bool true) ∧ Below w.heap.size w w' := by
  have hpl : parts.length ≤ 1048576 := by unfold weight at hp; omega
  go_enter Try.func4, Try.ntmps4
  go_wp2_with fail
  refine (awake_sha _).mono ?_
  rintro e w1 ⟨rfl, b1⟩
  have s1 := b1.size
  have rd1 := hR.below b1
  go_wp2_with (at_builtin; go_must (refine appendN _ 25 9 (.string ⟨#[]⟩) 16 w.heap.size Try.underlying25 info_str rfl rfl _ _ rfl _ 1 [.string ⟨tag.toArray⟩] A parts.length c (strs parts) (World.ownsRow_lit w1 #[.string ⟨tag.toArray⟩] 1 s1 (by decide) rfl) rfl rfl hnil (rd1.alloc _) (strs_length parts) (strs_one parts) (by omega) (by unfold maxLen; omega) (by simp; omega) ?_))
  intro v2 w2 o2 g2
  obtain ⟨A2, c2, rfl, hc1, hc2⟩ := own_form o2
  have b2 : Below w.heap.size w w2 := (b1.alloc s1 _).grown g2 (by simp; omega) (fun k hk => by cases hk; exact s1)
  have rd2 : Rd w2 A2 (strs (tag :: parts)) := Rd.of_own o2
  clear o2 g2 hc1 hc2 rd1
  have hw : weight (tag :: parts) = weight parts + tag.length + 1 := weight_cons _ _
  have kFew := few_spec A2 (tag :: parts) c2 2000 w2 rd2 (by omega)
  rw [show (tag :: parts).length = 1 + parts.length from by simp; omega] at kFew
  clear rd2
  by_cases hf : (weight (tag :: parts) : Int) ≤ 2000
  · rw [decide_eq_true hf] at kFew
    go_wp2_with fail
    refine kFew.mono ?_
    clear kFew
    rintro e w' ⟨rfl, rfl⟩
    go_wp2_with fail
    refine (tagged_below tag A parts c w2 (hR.below b2) (by omega) (by omega)).mono ?_
    rintro e w3 ⟨rfl, b3⟩
    have b13 : Below w.heap.size w w3 := b2.trans (b3.mono b2.size)
    go_wp2_with fail
    refine (rtagged_spec tag A parts c w3 (hR.below b13) (by omega) (by omega)).mono ?_
    rintro e w4 ⟨rfl, b4⟩
    go_wp2
    go_ret
    exact ⟨rfl, b13.trans (b4.mono b13.size)⟩
  · rw [decide_eq_false hf] at kFew
    go_wp2_with fail
    refine kFew.mono ?_
    clear kFew
    rintro e w' ⟨rfl, rfl⟩
    go_wp2
    go_ret
    exact ⟨rfl, b2⟩
end Go.Proofs.Ytolgldgabhhmaaa
