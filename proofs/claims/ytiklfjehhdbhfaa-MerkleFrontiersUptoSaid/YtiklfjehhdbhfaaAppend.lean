/-
  'append' of a slice that came in (nil, empty or not) to a slice of the call's own. Conditions: the new length within the model's bound.
-/
import Derived.Test.YtiklfjehhdbhfaaKit
namespace Go.Proofs.Ytiklfjehhdbhfaa
set_option linter.unusedVariables false
open Go.RowKit

theorem appendN {P : Program} (w : World) {ops : Array Oper} {rest : List Oper} {o : Oper} {a : Act} {Q : Exit → Act → World → Prop} (t e : TypeId) (z : Value) (bytes base : Nat)
    (ht : P.underlying t = some (.slice e)) (hi : (P.info? e).map (fun i => (i.zero, i.size, i.bytes)) = some (some z, 1, bytes)) (hzs : z.cells.size = 1)
    (hgd : o.guard = none) (s x : Operand) (ho : o.op = .call { callee := .builtin .append, args := #[s, x], argTypes := #[t, t] })
    (v : Value) (n : Nat) (xs : List Value) (A : Option Addr) (m c : Nat) (news : List Value) (hown : w.ownsRow base e 1 v n xs) (hs : a.eval s = v) (hx : a.eval x = .slice A m c)
    (hnil : A = none → m = 0 ∧ c = 0) (hR : Rd w A news) (hm : news.length = m) (hu : ∀ u ∈ news, u.oneCell' = true) (hn : (n + m) * bytes ≤ 140737488355328) (h63 : n + m ≤ maxLen) (hb : base ≤ w.heap.size)
    (h : ∀ v' w', w'.ownsRow base e 1 v' (n + m) (xs ++ news) → w.grownBy w' v.ownBlock → wpList P ops Q rest (a.put o.dst v') w') : wpList P ops Q (o :: rest) a w := by
  obtain ⟨i, hi', h1, h2, h3⟩ := info_parts hi
  cases A with
  | none =>
    obtain ⟨rfl, rfl⟩ := hnil rfl
    have hnews : news = [] := List.eq_nil_of_length_eq_zero hm
    subst hnews
    refine wpList_plain hgd fun K hK => ?_
    have hrun := run_append_owned_none (P := P) w base t o.type e i 1 ht hi' v n xs hown
    unfold Oper.wp execOp
    simp only [ho, resolve, invoke, builtin, Sem.run_bind, Sem.run_pure, Result.andThen_ok, List.map_toArray, List.map_cons, List.map_nil, hs, hx, hrun]
    exact hK _ _ (h v w (by simpa using hown) (World.grownBy.refl _ _))
  | some ad =>
    refine wpList_append_own w hgd s x t ho base e i z 1 bytes ht hi' h1 h2 h3 hzs (by decide) v n xs hs hown ad m c news hx (by omega) ?_ hu h63 hn hb (fun v' w' a b _ => h v' w' a b)
    intro j u hj
    rcases hR with hR | ⟨b, off, hA, hc⟩
    · subst hR; simp at hj
    · have hlt := (List.getElem?_eq_some_iff.1 hj).1
      injection hA with hA
      subst hA
      rw [Addr.add_lit, hc j hlt]
      rw [List.getElem?_eq_getElem hlt] at hj
      exact hj
theorem strs_one (L : List (List UInt8)) : ∀ u ∈ strs L, u.oneCell' = true := by
  intro u hu
  obtain ⟨s, _, rfl⟩ := List.mem_map.1 hu
  rfl
end Go.Proofs.Ytiklfjehhdbhfaa
