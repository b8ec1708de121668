/-
  The chapter's example of SHA-256 (awake). Conditions: none.
-/
import Derived.Test.YtolgldgabhhmaaaShX
import Derived.Test.YtolgldgabhhmaaaShZa
import Derived.Test.YtolgldgabhhmaaaShAw
namespace Go.Proofs.Ytolgldgabhhmaaa
set_option linter.unusedVariables false
open Go.RowKit

theorem clone_msg {lo : Nat} {w0 w : World} {Rs : List Res} {g : Nat} {m : Sh.Str} (h : St lo w0 w (msgR g m :: Rs)) :
    Calls Try.prog 22 #[.pointer (some ⟨g, 0, none⟩)] w fun e w' => ∃ c, e = .returned (.pointer (some ⟨c, 0, none⟩)) ∧ St lo w0 w' (msgR c m :: msgR g m :: Rs) := clone_hash h
theorem new_msg {lo : Nat} {w0 w : World} {Rs : List Res} (h : St lo w0 w Rs) :
    Calls Try.prog 20 #[] w fun e w' => ∃ g, e = .returned (.pointer (some ⟨g, 0, none⟩)) ∧ St lo w0 w' (msgR g [] :: Rs) := new_hash h
theorem tagged_none {lo : Nat} {w0 w : World} {Rs : List Res} (h : St lo w0 w Rs) :
    Calls Try.prog 14 #[.string .empty, .slice none 0 0] w fun e w' => e = .returned (.string ⟨(Sh.sha [0, 0, 0, 0, 0, 0, 0, 0]).toArray⟩) ∧ St lo w0 w' Rs :=
  tagged_spec h [] none [] 0 (fun _ => Rd.nil _ _) (by decide) (by decide)
set_option maxRecDepth 20000 in
set_option maxHeartbeats 2000000 in
theorem awake_sha (w : World) : Calls Try.prog 10 #[] w fun e w' => e = .returned (.bool true) ∧ Below w.heap.size w w' := by
  have k1 : ∀ W, Calls Try.prog 16 #[.string ⟨#[101, 51, 98, 48, 99, 52, 52, 50, 57, 56, 102, 99, 49, 99, 49, 52, 57, 97, 102, 98, 102, 52, 99, 56, 57, 57, 54, 102, 98, 57, 50, 52, 50, 55, 97, 101, 52, 49, 101, 52, 54, 52, 57, 98, 57, 51, 52, 99, 97, 52, 57, 53, 57, 57, 49, 98, 55, 56, 53, 50, 98, 56, 53, 53]⟩] W fun e w' => e = .returned (.tuple #[.string ⟨(Sh.sha []).toArray⟩, .int .i64 0]) ∧ Below W.heap.size W w' := fun W => by
    have := parse_spec Sh.emptyHex (by decide) W
    rw [parse_good Sh.good_nil, Sh.sha_nil] at this
    exact this
  have k2 : ∀ W, Calls Try.prog 11 #[.string .empty] W fun e w' => e = .returned (.string ⟨(Sh.sha []).toArray⟩) ∧ Below W.heap.size W w' := fun W => sum_below [] (by decide) W
  have k3 : ∀ W, Calls Try.prog 18 #[.string ⟨(Sh.sha [97, 98, 99]).toArray⟩] W fun e w' => e = .returned (.string ⟨#[98, 97, 55, 56, 49, 54, 98, 102, 56, 102, 48, 49, 99, 102, 101, 97, 52, 49, 52, 49, 52, 48, 100, 101, 53, 100, 97, 101, 50, 50, 50, 51, 98, 48, 48, 51, 54, 49, 97, 51, 57, 54, 49, 55, 55, 97, 57, 99, 98, 52, 49, 48, 102, 102, 54, 49, 102, 50, 48, 48, 49, 53, 97, 100]⟩) ∧ Below W.heap.size W w' := fun W => by
    have := hex_spec (Sh.sha [97, 98, 99]) (by rw [Sh.sha_length]; decide) W
    rw [Sh.sha_abc] at this
    exact this
  have k4 : ∀ W, Calls Try.prog 11 #[.string ⟨#[0, 0, 0, 0, 0, 0, 0, 0]⟩] W fun e w' => e = .returned (.string ⟨(Sh.sha [0, 0, 0, 0, 0, 0, 0, 0]).toArray⟩) ∧ Below W.heap.size W w' := fun W => sum_below [0, 0, 0, 0, 0, 0, 0, 0] (by decide) W
  have k5 : ∀ {W Rs}, St w.heap.size w W Rs → Calls Try.prog 14 #[.string .empty, .slice none 0 0] W fun e w' => e = .returned (.string ⟨(Sh.sha [0, 0, 0, 0, 0, 0, 0, 0]).toArray⟩) ∧ St w.heap.size w w' Rs := fun h => tagged_none h
  generalize hz8 : Sh.sha [0, 0, 0, 0, 0, 0, 0, 0] = Z8 at k4 k5
  clear hz8
  generalize hz0 : Sh.sha [] = Z0 at k1 k2
  clear hz0
  go_enter Try.func10, Try.ntmps10
  go_wp2_with fail
  refine (new_msg (St.nil w)).mono ?_
  rintro e w1 ⟨g, rfl, h1⟩
  go_wp2_with fail
  refine (hwrite_spec [] [97, 98] h1 (by decide)).mono ?_
  rintro e w2 ⟨rfl, h2⟩
  clear h1
  go_wp2_with fail
  refine (hwrite_spec [97, 98] [99] h2 (by decide)).mono ?_
  rintro e w3 ⟨rfl, h3⟩
  clear h2
  go_wp2_with fail
  refine (k1 _).mono ?_
  rintro e w4 ⟨rfl, b4⟩
  have h4 := h3.under b4
  clear h3 b4 k1
  go_wp2_with fail
  refine (k2 _).mono ?_
  rintro e w5 ⟨rfl, b5⟩
  have h5 := h4.under b5
  clear h4 b5 k2
  go_wp2_with fail
  refine (hsum_spec [97, 98, 99] h5 (by decide)).mono ?_
  rintro e w6 ⟨rfl, h6⟩
  clear h5
  go_wp2_with fail
  refine (k3 _).mono ?_
  rintro e w7 ⟨rfl, b7⟩
  have h7 := h6.under b7
  clear h6 b7 k3
  go_wp2_with fail
  refine (k5 h7).mono ?_
  rintro e w8 ⟨rfl, h8⟩
  clear h7 k5
  go_wp2_with fail
  refine (k4 _).mono ?_
  rintro e w9 ⟨rfl, b9⟩
  have h9 := h8.under b9
  clear h8 b9 k4
  go_wp2_with fail
  refine (clone_msg h9).mono ?_
  rintro e w10 ⟨c, rfl, h10⟩
  clear h9
  go_wp2
  go_ret
  exact ⟨rfl, h10.below⟩
end Go.Proofs.Ytolgldgabhhmaaa
