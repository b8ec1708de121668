/-
  An append of one element to a row that is held: where its block lies anywhere, and in a plain region behind a guard. Conditions: none.
-/
import Derived.Test.YtiklfjehhdbhfaaStep
namespace Go.Proofs.Ytiklfjehhdbhfaa
set_option linter.unusedVariables false
open Go.RowKit
/-- an append of one element, whose block lies anywhere -/
theorem stepG {lo : Nat} {w0 w : World} {Rs : List Res} {e : TypeId} {v : Value} {n : Nat} {xs : List Value} {P : Program} {ops : Array Oper} {o : Oper} {a : Act} {K : Act → World → Prop} {Q : Exit → Act → World → Prop} {E : Prop} (t : TypeId) {z : Value} {bytes : Nat} {u : Value} (b : Nat)
    (h : St lo w0 w (ownR e 1 v n xs :: Rs)) (hc : w.cell? ⟨b, 0, none⟩ = some u) (ht : P.underlying t = some (.slice e)) (hi : (P.info? e).map (fun i => (i.zero, i.size, i.bytes)) = some (some z, 1, bytes)) (hzs : z.cells.size = 1)
    (s x : Operand) (ho : o.op = .call { callee := .builtin .append, args := #[s, x], argTypes := #[t, t] }) (hgd : o.guard = none)
    (hs : a.eval s = v) (hx : a.eval x = .slice (some ⟨b, 0, none⟩) 1 1) (hu : u.oneCell' = true) (h63 : n + 1 ≤ maxLen) (hbytes : (n + 1) * bytes ≤ 140737488355328)
    (hk : ∀ g cap w', St lo w0 w' (ownR e 1 (.slice (some ⟨g, 0, none⟩) (n + 1) cap) (n + 1) (xs ++ [u]) :: Rs) → K (a.put o.dst (.slice (some ⟨g, 0, none⟩) (n + 1) cap)) w') :
    if Region.wanted o (yielded ops a.tmps) = true then Oper.wp P o a w K Q else E := by
  rw [if_pos (by unfold Region.wanted; rw [hgd])]
  refine appendS t h ht hi hzs (by decide) s x ho hs ⟨b, 0, none⟩ 1 1 [u] hx rfl ?_ ?_ (by decide) h63 hbytes (fun g cap w' r1 _ _ => hk g cap w' r1)
  · intro j y hj
    match j, hj with
    | 0, hj => simp at hj; subst hj; exact hc
  · intro y hy; simp at hy; subst hy; exact hu
/-- .. in a plain region, the operation wanted by its guard -/
theorem appendW {lo : Nat} {w0 w : World} {Rs : List Res} {e : TypeId} {v : Value} {n : Nat} {xs : List Value} {P : Program} {ops : Array Oper} {rest : List Oper} {o : Oper} {a : Act} {Q : Exit → Act → World → Prop} (t : TypeId) {z : Value} {bytes : Nat} {u : Value} {te : TypeId}
    (h : St lo w0 w (ownR e 1 v n xs :: Rs)) (ht : P.underlying t = some (.slice e)) (hi : (P.info? e).map (fun i => (i.zero, i.size, i.bytes)) = some (some z, 1, bytes)) (hzs : z.cells.size = 1)
    (s x : Operand) (ho : o.op = .call { callee := .builtin .append, args := #[s, x], argTypes := #[t, t] }) (hgd : Region.wanted o (yielded ops a.tmps) = true)
    (hs : a.eval s = v) (hx : a.eval x = .slice (some ⟨w.heap.size, 0, none⟩) 1 1) (hu : u.oneCell' = true) (h63 : n + 1 ≤ maxLen) (hbytes : (n + 1) * bytes ≤ 140737488355328)
    (hk : ∀ g cap w', St lo w0 w' (ownR e 1 (.slice (some ⟨g, 0, none⟩) (n + 1) cap) (n + 1) (xs ++ [u]) :: Rs) → wpList P ops Q rest (a.put o.dst (.slice (some ⟨g, 0, none⟩) (n + 1) cap)) w') :
    wpList P ops Q (o :: rest) a (w.alloc (.cells #[u] te)) := by
  unfold wpList
  rw [if_pos hgd]
  refine .inl (appendS t (h.alloc0 _) ht hi hzs (by decide) s x ho hs ⟨w.heap.size, 0, none⟩ 1 1 [u] hx rfl ?_ ?_ (by decide) h63 hbytes (fun g cap w' r1 _ _ => hk g cap w' r1))
  · intro j y hj
    match j, hj with
    | 0, hj => simp at hj; subst hj; exact (Blk.new w te #[_]).cell 0
  · intro y hy; simp at hy; subst hy; exact hu
end Go.Proofs.Ytiklfjehhdbhfaa
