/-
  sha256.Sum. Conditions: at most 2^39 bytes.
-/
import Derived.Test.YtiklfjehhdbhfaaShH
namespace Go.Proofs.Ytiklfjehhdbhfaa
set_option linter.unusedVariables false
open Go.RowKit

theorem msg_nil (g : Nat) : msgR g [] = hashR g Sh.iv.list [] 0 := rfl
theorem sum_spec {lo : Nat} {w0 w : World} {Rs : List Res} (h : St lo w0 w Rs) (s : Sh.Str) (hs : s.length ≤ 549755813888) :
    Calls Try.prog 47 #[.string ⟨s.toArray⟩] w fun e w' => e = .returned (.string ⟨(Sh.sha s).toArray⟩) ∧ St lo w0 w' Rs := by
  go_enter Try.func47, Try.ntmps47
  go_wp2_with fail
  refine (new_hash h).mono ?_
  rintro e w1 ⟨g, rfl, h1⟩
  rw [← msg_nil] at h1
  clear h
  go_wp2_with fail
  refine (hwrite_spec [] s h1 (by simp; omega)).mono ?_
  rintro e w2 ⟨rfl, h2⟩
  rw [List.nil_append] at h2
  clear h1
  go_wp2_with fail
  refine (hsum_spec s h2 hs).mono ?_
  rintro e w3 ⟨rfl, h3⟩
  have h4 := h3.tail
  clear h2 h3
  go_wp2
  go_ret
  exact ⟨rfl, h4⟩
theorem sum_below (s : Sh.Str) (hs : s.length ≤ 549755813888) (w : World) : Calls Try.prog 47 #[.string ⟨s.toArray⟩] w fun e w' => e = .returned (.string ⟨(Sh.sha s).toArray⟩) ∧ Below w.heap.size w w' :=
  (sum_spec (St.nil w) s hs).mono fun e w' ⟨he, h⟩ => ⟨he, h.below⟩
/-- what Tagged digests -/
def tagMsg (tag : Sh.Str) (parts : List Sh.Str) : Sh.Str := (Sh.be8 tag.length ++ tag) ++ parts.flatMap fun p => Sh.be8 p.length ++ p
theorem tag_take (parts : List Sh.Str) (k : Nat) (hk : k < parts.length) : (parts.take (k + 1)).flatMap (fun p => Sh.be8 p.length ++ p) = (parts.take k).flatMap (fun p => Sh.be8 p.length ++ p) ++ Sh.be8 parts[k].length ++ parts[k] := by
  rw [List.take_succ_eq_append_getElem hk, List.flatMap_append]
  simp
theorem tag_len (parts : List Sh.Str) : (parts.flatMap fun p => Sh.be8 p.length ++ p).length = 8 * parts.length + (parts.map List.length).sum := by
  induction parts with
  | nil => rfl
  | cons p L ih => simp only [List.flatMap_cons, List.length_append, ih, List.length_cons, List.map_cons, List.sum_cons]; have : (Sh.be8 p.length).length = 8 := rfl; omega
end Go.Proofs.Ytiklfjehhdbhfaa
