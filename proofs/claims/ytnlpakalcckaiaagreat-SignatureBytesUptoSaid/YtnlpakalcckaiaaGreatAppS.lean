/-
  'append' of a slice that came in (nil, empty or not) to a slice of the call's own, elements of several cells: at an operation, and at a step of a region that draws its order. Conditions: the new length within the model's bound.
-/
import Derived.Test.YtnlpakalcckaiaaGreatBase
import Derived.Deep.AppendLies
import Derived.Deep.RegionLaw
namespace Go.Proofs.YtnlpakalcckaiaaGreat
set_option linter.unusedVariables false
open Go.RowKit

section
variable {P : Program} (w : World) {ops : Array Oper} {rest : List Oper} {o : Oper} {a : Act} {K : Act → World → Prop} {Q : Exit → Act → World → Prop} {E : Prop}
theorem app_op (s x : Operand) (t : TypeId) (ho : o.op = .call { callee := .builtin .append, args := #[s, x], argTypes := #[t, t] })
    (e : TypeId) (z : Value) (size bytes base : Nat) (ht : P.underlying t = some (.slice e)) (hi : (P.info? e).map (fun i => (i.zero, i.size, i.bytes)) = some (some z, size, bytes)) (hzs : z.cells.size = size) (hsz : 0 < size)
    (v : Value) (n : Nat) (xs : List Value) (A : Option Addr) (m c : Nat) (news : List Value) (hs : a.eval s = v) (hx : a.eval x = .slice A m c) (hown : w.ownsRow base e size v n xs)
    (hnil : A = none → m = 0 ∧ c = 0) (hR : Rd w A news) (hm : news.length = m * size) (hu : ∀ u ∈ news, u.oneCell' = true) (hn : (n + m) * bytes ≤ 140737488355328) (h63 : n + m ≤ maxLen) (hb : base ≤ w.heap.size)
    (h : ∀ v' w', w'.ownsRow base e size v' (n + m) (xs ++ news) → w.grownBy w' v.ownBlock → K (a.put o.dst v') w') : o.wp P a w K Q := by
  obtain ⟨i, hi', h1, h2, h3⟩ := info_parts hi
  unfold Oper.wp execOp
  cases A with
  | none =>
    obtain ⟨rfl, rfl⟩ := hnil rfl
    have hnews : news = [] := List.eq_nil_of_length_eq_zero (by omega)
    subst hnews
    have hrun := run_append_owned_none (P := P) w base t o.type e i size ht hi' v n xs hown
    simp only [ho, resolve, invoke, builtin, Sem.run_bind, Sem.run_pure, Result.andThen_ok, List.map_toArray, List.map_cons, List.map_nil, hs, hx, hrun]
    exact h v w (by simpa using hown) (World.grownBy.refl _ _)
  | some ad =>
    have hnews : ∀ j u, news[j]? = some u → w.cell? (ad.add j) = some u := by
      intro j u hj
      rcases hR with hR | ⟨b, off, hA, hc⟩
      · subst hR; simp at hj
      · have hlt := (List.getElem?_eq_some_iff.1 hj).1
        injection hA with hA
        subst hA
        rw [Addr.add_lit, hc j hlt]
        rw [List.getElem?_eq_getElem hlt] at hj
        exact hj
    obtain ⟨v', w', hrun, r1, r2, _⟩ := run_append_own (P := P) w base t o.type e i z size bytes ht hi' h1 h2 h3 hzs hsz v n xs hown ad m c news hm hnews hu h63 hn hb
    simp only [ho, resolve, invoke, builtin, Sem.run_bind, Sem.run_pure, Result.andThen_ok, List.map_toArray, List.map_cons, List.map_nil, hs, hx, hrun]
    exact h v' w' r1 r2
/-- at a list of operations -/
theorem app_list (s x : Operand) (t : TypeId) (hgd : o.guard = none) (ho : o.op = .call { callee := .builtin .append, args := #[s, x], argTypes := #[t, t] })
    (e : TypeId) (z : Value) (size bytes base : Nat) (ht : P.underlying t = some (.slice e)) (hi : (P.info? e).map (fun i => (i.zero, i.size, i.bytes)) = some (some z, size, bytes)) (hzs : z.cells.size = size) (hsz : 0 < size)
    (v : Value) (n : Nat) (xs : List Value) (A : Option Addr) (m c : Nat) (news : List Value) (hs : a.eval s = v) (hx : a.eval x = .slice A m c) (hown : w.ownsRow base e size v n xs)
    (hnil : A = none → m = 0 ∧ c = 0) (hR : Rd w A news) (hm : news.length = m * size) (hu : ∀ u ∈ news, u.oneCell' = true) (hn : (n + m) * bytes ≤ 140737488355328) (h63 : n + m ≤ maxLen) (hb : base ≤ w.heap.size)
    (h : ∀ v' w', w'.ownsRow base e size v' (n + m) (xs ++ news) → w.grownBy w' v.ownBlock → wpList P ops Q rest (a.put o.dst v') w') : wpList P ops Q (o :: rest) a w :=
  wpList_plain hgd fun K hK => app_op w s x t ho e z size bytes base ht hi hzs hsz v n xs A m c news hs hx hown hnil hR hm hu hn h63 hb fun v' w' h1 h2 => hK _ _ (h v' w' h1 h2)
/-- at a step of a region that draws its order -/
theorem app_step (s x : Operand) (t : TypeId) (hgd : o.guard = none) (ho : o.op = .call { callee := .builtin .append, args := #[s, x], argTypes := #[t, t] })
    (e : TypeId) (z : Value) (size bytes base : Nat) (ht : P.underlying t = some (.slice e)) (hi : (P.info? e).map (fun i => (i.zero, i.size, i.bytes)) = some (some z, size, bytes)) (hzs : z.cells.size = size) (hsz : 0 < size)
    (v : Value) (n : Nat) (xs : List Value) (A : Option Addr) (m c : Nat) (news : List Value) (hs : a.eval s = v) (hx : a.eval x = .slice A m c) (hown : w.ownsRow base e size v n xs)
    (hnil : A = none → m = 0 ∧ c = 0) (hR : Rd w A news) (hm : news.length = m * size) (hu : ∀ u ∈ news, u.oneCell' = true) (hn : (n + m) * bytes ≤ 140737488355328) (h63 : n + m ≤ maxLen) (hb : base ≤ w.heap.size)
    (h : ∀ v' w', w'.ownsRow base e size v' (n + m) (xs ++ news) → w.grownBy w' v.ownBlock → K (a.put o.dst v') w') :
    if Region.wanted o (yielded ops a.tmps) = true then Oper.wp P o a w K Q else E := by
  have hw : Region.wanted o (yielded ops a.tmps) = true := by simp [Region.wanted, hgd]
  rw [if_pos hw]
  exact app_op w s x t ho e z size bytes base ht hi hzs hsz v n xs A m c news hs hx hown hnil hR hm hu hn h63 hb h
end
end Go.Proofs.YtnlpakalcckaiaaGreat
