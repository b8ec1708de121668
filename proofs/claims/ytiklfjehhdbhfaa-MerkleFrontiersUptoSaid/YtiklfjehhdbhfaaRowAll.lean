/-
  A whole block of cells is loaded, or overwritten, by one operation. Conditions: none.
-/
import Derived.Test.YtiklfjehhdbhfaaSep
import Derived.Deep.MidRow
namespace Go.Proofs.Ytiklfjehhdbhfaa
set_option linter.unusedVariables false
open Go.RowKit

def setFrom (cs : Array Value) : Nat → List Value → Array Value
  | _, [] => cs
  | o, v :: r => setFrom (cs.setIfInBounds o v) (o + 1) r
theorem setFrom_size : ∀ (vs : List Value) (cs : Array Value) (o : Nat), (setFrom cs o vs).size = cs.size
  | [], cs, o => rfl
  | v :: r, cs, o => by rw [setFrom, setFrom_size r]; simp
theorem setFrom_get : ∀ (vs : List Value) (cs : Array Value) (o j : Nat), o + vs.length ≤ cs.size → (setFrom cs o vs)[j]? = if o ≤ j ∧ j < o + vs.length then vs[j - o]? else cs[j]?
  | [], cs, o, j, h => by rw [setFrom, if_neg (by simp)]
  | v :: r, cs, o, j, h => by
    have hl : (v :: r).length = r.length + 1 := rfl
    rw [hl] at h
    rw [setFrom, setFrom_get r (cs.setIfInBounds o v) (o + 1) j (by simp; omega)]
    by_cases h1 : o + 1 ≤ j ∧ j < o + 1 + r.length
    · rw [if_pos h1, if_pos (by rw [hl]; omega), show j - o = (j - (o + 1)) + 1 by omega, List.getElem?_cons_succ]
    · rw [if_neg h1]
      by_cases h2 : j = o
      · subst h2
        rw [if_pos (by rw [hl]; omega), Nat.sub_self, List.getElem?_cons_zero]
        simp [Array.getElem?_setIfInBounds]
        omega
      · rw [if_neg (by rw [hl]; omega)]
        simp [Ne.symm h2]
theorem setFrom_all (cs vs : Array Value) (h : vs.size = cs.size) : setFrom cs 0 vs.toList = vs := by
  apply Array.ext_getElem?
  intro j
  rw [setFrom_get _ _ _ _ (by simp [h])]
  by_cases hj : j < vs.size
  · rw [if_pos (by simp; exact hj)]; simp
  · rw [if_neg (by simp; omega), Array.getElem?_eq_none (by omega), Array.getElem?_eq_none (by omega)]
theorem setCells_blk {g : Nat} {t : TypeId} : ∀ (vs : List Value) {w : World} {cs : Array Value} (o : Nat), Blk w g t cs → Blk (w.setCells g o vs) g t (setFrom cs o vs)
  | [], _, _, _, h => h
  | v :: r, _, _, o, h => setCells_blk r (o + 1) (h.set_ o v)
theorem setCells_mod {g : Nat} : ∀ (vs : List Value) (w : World) (o : Nat), Mod (fun k => k = g) w (w.setCells g o vs)
  | [], w, _ => Mod.refl _ w
  | v :: r, w, o => (mod_set w g o v).trans (setCells_mod r _ (o + 1))
section
variable {P : Program} {ops : Array Oper} {rest : List Oper} {op : Oper} {a : Act} {w : World} {Q : Exit → Act → World → Prop} {lo : Nat} {w0 : World} {Rs : List Res} {g : Nat} {t : TypeId} {cs : Array Value}
theorem store_all (h : St lo w0 w (cellsR g t cs :: Rs)) (hgd : op.guard = none) (ty : TypeId) (x y : Operand) (ho : op.op = .store ty x y) (cells : Array Value) (hx : a.eval x = .pointer (some ⟨g, 0, none⟩)) (hy : a.eval y = .agg cells)
    (hsz : cells.size = cs.size) (hi : (P.info? ty).map (·.size) = some cells.size) (h1 : cells.all (·.oneCell') = true)
    (hk : ∀ w', St lo w0 w' (cellsR g t cells :: Rs) → wpList P ops Q rest (a.put op.dst undef) w') : wpList P ops Q (op :: rest) a w := by
  have hb := h.blk
  refine wpList_store_mid hgd ty x y ho g 0 cells hx hy (fun j hj => ⟨?_, hb.frozen _⟩) hi h1 (hk _ ?_)
  · rw [hb.cell, Array.getElem?_eq_getElem (by omega)]; rfl
  · obtain ⟨F, g1, g2, g3⟩ := h.open
    obtain ⟨_, rfl⟩ := g1
    have hb2 := setCells_blk cells.toList 0 hb
    rw [setFrom_all cs cells hsz] at hb2
    exact g3 (F' := fun k => k = g) (cellsR g t cells) (setCells_mod _ _ _) ⟨hb2, rfl⟩ (fun k hk => .inl hk)
theorem load_all (hb : Blk w g t cs) (hgd : op.guard = none) (ty : TypeId) (x : Operand) (ho : op.op = .load ty x) (hx : a.eval x = .pointer (some ⟨g, 0, none⟩)) (d : TypeDesc) (hu : P.underlying ty = some d) (hd : d.isRow = true)
    (hi : (P.info? ty).map (·.size) = some cs.size) (hk : wpList P ops Q rest (a.put op.dst (.agg cs)) w) : wpList P ops Q (op :: rest) a w := by
  refine wpList_load_mid hgd ty x ho g 0 hx cs.toList d (fun j v hv => ?_) hu hd (by simpa using hi) (by simpa using hk)
  rw [hb.cell, Nat.zero_add]
  simpa using hv
end
end Go.Proofs.Ytiklfjehhdbhfaa
