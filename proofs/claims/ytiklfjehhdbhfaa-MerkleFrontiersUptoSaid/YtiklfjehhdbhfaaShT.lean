/-
  The compression of the reference's SHA-256. Conditions: blocks of 64 bytes, words below 2^32.
-/
import Derived.Test.YtiklfjehhdbhfaaShS
namespace Go.Proofs.Ytiklfjehhdbhfaa
set_option linter.unusedVariables false
open Go.RowKit

/-- what a call of its own has made is held besides -/
theorem St.join {lo : Nat} {w0 w w' : World} {Rs Ps : List Res} (h : St lo w0 w Rs) (h' : St w.heap.size w w' Ps) : St lo w0 w' (Ps ++ Rs) := by
  have hs := h.size
  refine ⟨h.below.trans (h'.below.mono hs), h.base, ?_⟩
  refine Held.append (F := fun k => w.heap.size ≤ k) (V := fun k => lo ≤ k ∧ k < w.heap.size) h'.held (h.held.lt.mod (Mod.of_below h'.below (fun _ => False)) (fun _ _ h => h)) (fun k hk => ⟨by show lo ≤ k; omega, fun hv => by omega⟩) (fun k hk => hk.1)
theorem row_u32 {w : World} {t : TypeId} {v : Value} {n : Nat} {L : List Nat} (h : w.ownsRow 0 t 1 v n (u32s L)) (hn : 0 < n) :
    ∃ g cap, v = .slice (some ⟨g, 0, none⟩) n cap ∧ g < w.heap.size ∧ ∀ j, j < n → w.cell? ⟨g, j, none⟩ = some (.int .u32 ((L.getD j 0 : Nat) : Int)) := by
  obtain ⟨g, cap, rfl, _, hg⟩ := h.form hn
  have hl : L.length = n := by have := h.1; rw [u32s_length] at this; omega
  refine ⟨g, cap, rfl, hg, fun j hj => ?_⟩
  have := h.cells (g := g) rfl j (.int .u32 ((L.getD j 0 : Nat) : Int)) (by simp [u32s, hl, hj, List.getD_eq_getElem?_getD])
  rw [Addr.add_lit, Nat.zero_add] at this
  exact this
set_option maxRecDepth 20000 in
theorem rconstants_spec {lo : Nat} {w0 w : World} {Rs : List Res} (h : St lo w0 w Rs) : Calls Try.prog 73 #[] w fun e w' => ∃ v, e = .returned v ∧ St lo w0 w' (ownR 62 1 v 64 (u32s Sh.ks) :: Rs) := by
  have h1 : St lo w0 (w.alloc (.cells (arr Sh.ks) 62)) (ownR 62 1 (.slice (some ⟨w.heap.size, 0, none⟩) 64 64) 64 (u32s Sh.ks) :: Rs) := h.new_own ((Below.refl _ w).alloc (Nat.le_refl _) _) (World.ownsRow_lit w (arr Sh.ks) 64 (Nat.le_refl _) (by decide) (arr_size _))
  go_enter Try.func73, Try.ntmps73
  go_wp2
  go_ret
  exact ⟨_, rfl, h1⟩
end Go.Proofs.Ytiklfjehhdbhfaa
