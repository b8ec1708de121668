/-
  Sha256Clones: the walk. Conditions: the arguments are small.
-/
import Derived.Test.YtolgldgabhhmaaaLShTags
namespace Go.Proofs.Ytolgldgabhhmaaa
set_option linter.unusedVariables false
open Go.RowKit

theorem rd_lit (W : World) (cs : Array Value) (e : TypeId) : Rd (W.alloc (.cells cs e)) (some ⟨W.heap.size, 0, none⟩) cs.toList := by
  refine .inr ⟨W.heap.size, 0, rfl, fun j hj => ?_⟩
  rw [Nat.zero_add, (Blk.new W e cs).cell]
  simp
set_option maxRecDepth 20000 in
set_option maxHeartbeats 2000000 in
theorem shaClones_walk (s a b : Sh.Str) (w : World) (hs : s.length ≤ 1048576) (ha : a.length ≤ 1048576) (hb : b.length ≤ 1048576) :
    Calls Try.prog 7 #[.string ⟨s.toArray⟩, .string ⟨a.toArray⟩, .string ⟨b.toArray⟩] w fun e w' => e = .returned (.bool true) ∧ Below w.heap.size w w' := by
  go_enter Try.func7, Try.ntmps7
  go_wp2_with fail
  refine (awake_sha _).mono ?_
  rintro e w1 ⟨rfl, b1⟩
  have h1 := ((St.nil w).under b1).alloc0 (.cells #[.string ⟨s.toArray⟩, .string ⟨a.toArray⟩, .string ⟨b.toArray⟩] 9)
  have rd1 : Rd (w1.alloc (.cells #[.string ⟨s.toArray⟩, .string ⟨a.toArray⟩, .string ⟨b.toArray⟩] 9)) (some ⟨w1.heap.size, 0, none⟩) (strs [s, a, b]) := rd_lit w1 _ _
  have hw : weight [s, a, b] = s.length + a.length + b.length + 3 := by simp [weight]; omega
  have kFew := few_spec _ [s, a, b] 3 2000 _ rd1 (by omega)
  clear rd1 b1
  go_wp2_with fail
  refine kFew.mono ?_
  clear kFew
  rintro e w' ⟨rfl, rfl⟩
  generalize w1.alloc (.cells #[.string ⟨s.toArray⟩, .string ⟨a.toArray⟩, .string ⟨b.toArray⟩] 9) = W at h1 ⊢
  by_cases hf : (weight [s, a, b] : Int) ≤ 2000
  · have hl : s.length + a.length + b.length ≤ 2000 := by omega
    have hf' : decide ((weight [s, a, b] : Int) ≤ 2000) = true := decide_eq_true hf
    clear hf hw
    have hsa := bytes_append s a
    have hsb := bytes_append s b
    have f1 : ¬ (IntKind.i64.max < (s.length : Int) + (a.length : Int)) := by show ¬ ((9223372036854775807 : Int) < _); omega
    have f2 : ¬ (IntKind.i64.max < (s.length : Int) + (b.length : Int)) := by show ¬ ((9223372036854775807 : Int) < _); omega
    have f3 : ¬ (9223372036854775807 < s.length + a.length) := by omega
    have f4 : ¬ (9223372036854775807 < s.length + b.length) := by omega
    go_wp2_with fail
    refine (new_msg h1).mono ?_
    rintro e w2 ⟨g, rfl, h2⟩
    clear h1
    go_wp2_with fail
    refine (hwrite_spec [] s h2 (by simp; omega)).mono ?_
    rintro e w3 ⟨rfl, h3⟩
    rw [List.nil_append] at h3
    clear h2
    go_wp2_with fail
    refine (clone_msg h3).mono ?_
    rintro e w4 ⟨k, rfl, h4⟩
    clear h3
    go_wp2_with fail
    refine (hsum_spec s h4 (by omega)).mono ?_
    rintro e w5 ⟨rfl, h5⟩
    clear h4
    have h5' := h5.swap
    go_wp2_with fail
    refine (hsum_spec s h5' (by omega)).mono ?_
    rintro e w6 ⟨rfl, h6⟩
    clear h5 h5'
    go_wp2_with fail
    refine (hwrite_spec s a h6 (by rw [List.length_append]; omega)).mono ?_
    rintro e w7 ⟨rfl, h7⟩
    have h7' := h7.swap
    clear h6 h7
    go_wp2_with fail
    refine (hwrite_spec s b h7' (by rw [List.length_append]; omega)).mono ?_
    rintro e w8 ⟨rfl, h8⟩
    have h8' := h8.swap
    clear h8 h7'
    go_wp2_with fail
    refine (hsum_spec (s ++ a) h8' (by rw [List.length_append]; omega)).mono ?_
    rintro e w9 ⟨rfl, h9⟩
    clear h8'
    go_wp2_with fail
    refine (sum_below (s ++ a) (by rw [List.length_append]; omega) w9).mono ?_
    rintro e w10 ⟨rfl, b10⟩
    have h10 := (h9.under b10).swap
    clear h9 b10
    go_wp2_with fail
    refine (hsum_spec (s ++ b) h10 (by rw [List.length_append]; omega)).mono ?_
    rintro e w11 ⟨rfl, h11⟩
    clear h10
    go_wp2_with fail
    refine (sum_below (s ++ b) (by rw [List.length_append]; omega) w11).mono ?_
    rintro e w12 ⟨rfl, b12⟩
    go_wp2
    go_ret
    exact ⟨rfl, (h11.under b12).below⟩
  · have hf' : decide ((weight [s, a, b] : Int) ≤ 2000) = false := decide_eq_false hf
    clear hf hw
    go_wp2
    go_ret
    exact ⟨rfl, h1.below⟩
end Go.Proofs.Ytolgldgabhhmaaa
