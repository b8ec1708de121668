/-
  The reference's Verify. Conditions: messages of at most 2^30 bytes.
-/
import Derived.Test.YtnlpakalcckaiaaSgO
namespace Go.Proofs.Ytnlpakalcckaiaa
set_option linter.unusedVariables false
open Go.RowKit Go.Shelf
attribute [local go_sem] Oper.semAt_some

def vpB (pub : Sg.Str) : Bool := if pub.length = 33 then decide ((pub.getD 32 0).toNat ≤ 6) else false
theorem own_block {w : World} {base : Nat} {e : TypeId} {size n l c : Nat} {A : Option Addr} {xs : List Value} (h : w.ownsRow base e size (.slice A l c) n xs) (hn : 0 < n) : ∃ g, A = some ⟨g, 0, none⟩ ∧ g < w.heap.size := by
  rcases h.2 with ⟨h2, h3⟩ | ⟨g, cap, cur, hv, _, hg, _⟩
  · omega
  · injection hv with hv _ _
    exact ⟨g, hv, (Array.getElem?_eq_some_iff.1 hg).1⟩
theorem wraps_nat (x : Nat) (h : x < 1000000) : wrap64 (x : Int) = (x : Int) ∧ IntKind.i64.wrap (x : Int) = (x : Int) :=
  ⟨IntWalk.wrap64_in _ (by omega), by rw [IntKind.wrap_i64]; omega⟩
section
variable {pub : Sg.Str} {d : List Nat} {i : Int} {C T : List Sg.Str}
theorem verB_vp (h : vpB pub = false) : verB pub d i C T = false := by
  unfold vpB at h
  unfold verB
  by_cases c1 : pub.length = 33
  · rw [if_pos c1] at h ⊢
    rw [if_neg (of_decide_eq_false h)]
  · rw [if_neg c1]
theorem verB_len (h : ¬ C.length = 67) : verB pub d i C T = false := by unfold verB; simp [h]
theorem verB_vld (h : vld C = false) : verB pub d i C T = false := by unfold verB; simp [h]
theorem verB_lo (h : ¬ 0 ≤ i) : verB pub d i C T = false := by unfold verB; rw [if_neg h]; simp
theorem verB_hi (h : ¬ i < ((2 ^ (pub.getD 32 0).toNat : Nat) : Int)) : verB pub d i C T = false := by unfold verB; rw [if_neg h]; simp
end
end Go.Proofs.Ytnlpakalcckaiaa
