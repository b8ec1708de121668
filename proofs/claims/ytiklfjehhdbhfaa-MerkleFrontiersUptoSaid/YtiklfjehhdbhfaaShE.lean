/-
  Parts of the program's SHA-256: strings.Clone, eight bytes of a number, New, Clone. Conditions: as said.
-/
import Derived.Test.YtiklfjehhdbhfaaShD
import Derived.Test.YtiklfjehhdbhfaaLayC
namespace Go.Proofs.Ytiklfjehhdbhfaa
set_option linter.unusedVariables false
open Go.RowKit Go.Shelf

theorem clone_f : Try.laysClone_ren.f 25 = 88 := by kernel_rfl
theorem strclone_spec (s : Sh.Str) (hs : s.length ≤ 281474976710656) (w : World) :
    Calls Try.prog 76 #[.string ⟨s.toArray⟩] w fun e w' => e = .returned (.string ⟨s.toArray⟩) ∧ Below w.heap.size w w' := by
  have h := AnyPu.stringslite_Clone Try.laysClone ⟨s.toArray⟩ w (by rw [bytes_size]; exact hs)
  rw [clone_f] at h
  go_enter Try.func76, Try.ntmps76
  go_wp2_with fail
  refine h.mono ?_
  rintro e w' ⟨rfl, hb⟩
  go_wp2
  go_ret
  exact ⟨rfl, hb⟩
theorem clone_hash {lo : Nat} {w0 w : World} {Rs : List Res} {g : Nat} {s : Sh.W8} {rest : Sh.Str} {tot : Nat} (h : St lo w0 w (hashR g s.list rest tot :: Rs)) :
    Calls Try.prog 77 #[.pointer (some ⟨g, 0, none⟩)] w fun e w' => ∃ c, e = .returned (.pointer (some ⟨c, 0, none⟩)) ∧ St lo w0 w' (hashR c s.list rest tot :: hashR g s.list rest tot :: Rs) := by
  obtain ⟨q0, q1, q2, q3, q4, q5, q6, q7, q8, q9⟩ := hash_cells h.blk
  go_enter Try.func77, Try.ntmps77
  go_wp2
  go_ret
  exact ⟨_, rfl, h.alloc _ _⟩
theorem new_hash {lo : Nat} {w0 w : World} {Rs : List Res} (h : St lo w0 w Rs) :
    Calls Try.prog 63 #[] w fun e w' => ∃ c, e = .returned (.pointer (some ⟨c, 0, none⟩)) ∧ St lo w0 w' (hashR c Sh.iv.list [] 0 :: Rs) := by
  go_enter Try.func63, Try.ntmps63
  go_wp2
  go_ret
  exact ⟨_, rfl, h.alloc _ _⟩
end Go.Proofs.Ytiklfjehhdbhfaa
