/-
  A map from integers to truth values as a thing in memory. Conditions: none.
-/
import Derived.Test.YtnlpakalcckaiaaBase
import Derived.Maps.OwnSet
namespace Go.Proofs.Ytnlpakalcckaiaa
set_option linter.unusedVariables false
open Go.RowKit

theorem bool_inv {H : Type} {P : Program} {e : TypeId} (he : P.underlying e = some .bool) {v : Value} {z : DataW H × List MemPlace} (h : plainElem P e v = some z) : ∃ c, v = .bool c ∧ z = (.lit (.bool c), []) := by
  unfold plainElem at h
  rw [he] at h
  cases v <;> simp at h
  exact ⟨_, rfl, h.symm⟩
theorem own_mod {G : Nat → Prop} {w w' : World} {H : Type} {P : Program} {k : TypeId} {R : Value → Option (DataW H × List MemPlace)} {b n : Nat} {D : DataW H} (h : w.ownsMap P k R b n D) (hm : Mod G w w') (hb : ¬ G b) : w'.ownsMap P k R b n D := by
  have hlt := h.lt
  obtain ⟨es, clock, h1, h2⟩ := h
  exact ⟨es, clock, (hm.block b hlt hb).trans h1, h2⟩
/-- block b is a map of at most n entries that reads as D -/
def mapR (k e : TypeId) (b n : Nat) (D : DataW Unit) : Res where
  P w F := w.ownsMap Try.prog k (plainElem Try.prog e) b n D ∧ F = (fun j => j = b)
  lt h j hj := by obtain ⟨hb, rfl⟩ := h; subst hj; exact hb.lt
  mod h hm hG := by obtain ⟨hb, rfl⟩ := h; exact ⟨own_mod hb hm (hG _ rfl), rfl⟩
section
variable {lo : Nat} {w0 w w' : World} {Rs : List Res} {k e t : TypeId} {b n n' : Nat} {D D' : DataW Unit}
theorem St.map (h : St lo w0 w (mapR k e b n D :: Rs)) : w.ownsMap Try.prog k (plainElem Try.prog e) b n D := by
  obtain ⟨_, _, F, V, h1, _⟩ := h
  exact h1.1
theorem St.made (h : St lo w0 w Rs) (k e : TypeId) : St lo w0 (w.alloc (.map #[] 0)) (mapR k e w.heap.size 0 (.map []) :: Rs) :=
  h.new ((Below.refl _ w).alloc (Nat.le_refl _) _) ⟨World.ownsMap_made w _ _ _, rfl⟩ (fun j hj => by subst hj; exact Nat.le_refl _)
theorem St.mapped (h : St lo w0 w (mapR k e b n D :: Rs)) (ho : w'.ownsMap Try.prog k (plainElem Try.prog e) b n' D') (hg : w.grownBy w' (some b)) : St lo w0 w' (mapR k e b n' D' :: Rs) := by
  obtain ⟨F, h1, h2, h3⟩ := h.open
  obtain ⟨hb, rfl⟩ := h1
  have hm : Mod (fun j => j = b) w w' := ⟨hg.os, hg.tape, hg.output, hg.size, fun j hj hn => hg.block j hj (fun e => hn (by injection e))⟩
  exact h3 (F' := fun j => j = b) (mapR k e b n' D') hm ⟨ho, rfl⟩ (fun j hj => .inl hj)
end
theorem key_int : Maps.Keyed Try.prog 3 := Maps.int_keyed Try.underlying3
theorem zero_bool (w : World) : (zeroValue 4).run Try.prog w = .ok (.bool false) w := by kernel_rfl
/-- no key from q on is set -/
def Fresh (D : DataW Unit) (q : Nat) : Prop := Maps.IsMap D ∧ ∀ p : Nat, q ≤ p → D.atKey (.int .i64 (p : Int)) (.lit (.bool false)) = .lit (.bool false)
theorem fresh_nil (q : Nat) : Fresh (.map []) q := ⟨Maps.isMap_empty, fun p _ => rfl⟩
theorem Fresh.mono {D : DataW Unit} {q r : Nat} (h : Fresh D q) (hqr : q ≤ r) : Fresh D r := ⟨h.1, fun p hp => h.2 p (Nat.le_trans hqr hp)⟩
theorem Fresh.put {D : DataW Unit} {q : Nat} (h : Fresh D q) : Fresh (D.put (.int .i64 (q : Int)) (.lit (.bool true))) (q + 1) := by
  refine ⟨h.1.put _ _, fun p hp => ?_⟩
  have hne : Lit.int .i64 (p : Int) ≠ Lit.int .i64 (q : Int) := fun e => by injection e with _ e; omega
  rw [Maps.atKey_put_other hne]
  exact h.2 p (by omega)
theorem fresh_look {w : World} {D : DataW Unit} {q b n : Nat} (h : w.ownsMap Try.prog 3 (plainElem Try.prog 4) b n D) (hf : Fresh D q) (hq : q < 9223372036854775808) :
    (Instr.lookup 42 (.map (some b)) (.int .i64 (q : Int)) false).run Try.prog w = .ok (.bool false) w := by
  obtain ⟨v, ps, hrun, hv⟩ := h.lookup key_int Try.underlying42 (zero_bool w) (plainElem_bool Try.underlying4 false) (key := .int .i64 (q : Int)) (Maps.keyOf_int_mk Try.underlying3 (by exact WalkArith.wf_i64 (by omega)))
  rw [hf.2 q (Nat.le_refl _)] at hv
  obtain ⟨c, rfl, hc⟩ := bool_inv Try.underlying4 hv
  simp only [Prod.mk.injEq, DataW.lit.injEq, Lit.bool.injEq] at hc
  rw [hrun, ← hc.1]
end Go.Proofs.Ytnlpakalcckaiaa
