/-
  Lists of answers in memory: a row of results (four cells each), with the lists of strings that they hold. Conditions: none.
-/
import Derived.Test.YtalailodnmfmlaaSame
import Derived.Test.YtalailodnmfmlaaCodecR7
namespace Go.Proofs.Ytalailodnmfmlaa
set_option linter.unusedVariables false
open Go.RowKit

/-- the cells of a row of answers, and what their lists hold -/
inductive ResL (w : World) (B : Nat) : List Ans → List Value → Prop
  | nil : ResL w B [] []
  | cons {a : Ans} {rs : List Ans} {cs : List Value} {v : Value} : w.ownsRow B 9 1 v a.list.length (strs a.list) → ResL w B rs cs → ResL w B (a :: rs) (.int .i64 a.num :: .string ⟨a.text.toArray⟩ :: v :: .int .i64 a.err :: cs)

theorem ResL.keep {w w' : World} {B : Nat} {rs : List Ans} {cs : List Value} (h : ResL w B rs cs) (hk : ∀ v n xs, w.ownsRow B 9 1 v n xs → w'.ownsRow B 9 1 v n xs) : ResL w' B rs cs := by
  induction h with
  | nil => exact .nil
  | cons h1 _ ih => exact .cons (hk _ _ _ h1) ih
theorem ResL.under {w w' : World} {B : Nat} {rs : List Ans} {cs : List Value} (h : ResL w B rs cs) (hb : Below w.heap.size w w') : ResL w' B rs cs := h.keep fun _ _ _ ho => below_owns hb ho
theorem ResL.snoc {w : World} {B : Nat} {rs : List Ans} {cs : List Value} (h : ResL w B rs cs) {a : Ans} {v : Value} (hv : w.ownsRow B 9 1 v a.list.length (strs a.list)) :
    ResL w B (rs ++ [a]) (cs ++ [.int .i64 a.num, .string ⟨a.text.toArray⟩, v, .int .i64 a.err]) := by
  induction h with
  | nil => exact .cons hv .nil
  | cons h1 _ ih => exact .cons h1 ih
theorem ResL.length {w : World} {B : Nat} {rs : List Ans} {cs : List Value} (h : ResL w B rs cs) : cs.length = rs.length * 4 := by
  induction h with
  | nil => rfl
  | cons _ _ ih => simp only [List.length_cons, ih]; omega
theorem ResL.at {w : World} {B : Nat} {rs : List Ans} {cs : List Value} (h : ResL w B rs cs) : ∀ {k : Nat} (hk : k < rs.length),
    ∃ v, cs[k * 4]? = some (.int .i64 rs[k].num) ∧ cs[k * 4 + 1]? = some (.string ⟨rs[k].text.toArray⟩) ∧ cs[k * 4 + 2]? = some v ∧ cs[k * 4 + 3]? = some (.int .i64 rs[k].err) ∧ w.ownsRow B 9 1 v rs[k].list.length (strs rs[k].list) := by
  induction h with
  | nil => intro k hk; simp at hk
  | @cons a rs cs v h1 _ ih =>
    intro k hk
    cases k with
    | zero => exact ⟨v, rfl, rfl, rfl, rfl, h1⟩
    | succ k =>
      obtain ⟨u, e0, e1, e2, e3, e4⟩ := ih (k := k) (by simpa using hk)
      refine ⟨u, ?_, ?_, ?_, ?_, e4⟩
      · rw [show (k + 1) * 4 = k * 4 + 1 + 1 + 1 + 1 from by omega]; simpa using e0
      · rw [show (k + 1) * 4 + 1 = (k * 4 + 1) + 1 + 1 + 1 + 1 from by omega]; simpa using e1
      · rw [show (k + 1) * 4 + 2 = (k * 4 + 2) + 1 + 1 + 1 + 1 from by omega]; simpa using e2
      · rw [show (k + 1) * 4 + 3 = (k * 4 + 3) + 1 + 1 + 1 + 1 from by omega]; simpa using e3
/-- a row of results grows: the lists of strings lie in other blocks, by their type -/
theorem ResL.grown {w w' : World} {B : Nat} {rs : List Ans} {cs : List Value} (h : ResL w B rs cs) {b n : Nat} {v : Value} {xs : List Value} (ho : w.ownsRow b 47 4 v n xs) (hg : w.grownBy w' v.ownBlock) : ResL w' B rs cs :=
  h.keep fun u m ys hu => hu.kept hg (by
    rcases hu.2 with ⟨rfl, _⟩ | ⟨g, cap, cur, rfl, _, hh, _⟩
    · exact .inl rfl
    · right
      rcases ho.2 with ⟨rfl, _⟩ | ⟨g', cap', cur', rfl, _, hh', _⟩
      · simp [Value.ownBlock]
      · intro he
        simp [Value.ownBlock] at he
        subst he
        rw [hh] at hh'
        simp at hh')

/-- the answers of calls of a reader, one after the other -/
def runR (s : List UInt8) : Nat → Int → List (Int × Int) → List Ans
  | _, _, [] => []
  | at_, e, q :: L => callR s at_ e q.1 q.2 :: runR s (callR s at_ e q.1 q.2).off (callR s at_ e q.1 q.2).err L
/-- the offset and the error behind calls -/
def endS (s : List UInt8) : Nat → Int → List (Int × Int) → Nat × Int
  | at_, e, [] => (at_, e)
  | at_, e, q :: L => endS s (callR s at_ e q.1 q.2).off (callR s at_ e q.1 q.2).err L
theorem endS_snoc (s : List UInt8) (L : List (Int × Int)) (q : Int × Int) : ∀ at_ e, endS s at_ e (L ++ [q]) = ((callR s (endS s at_ e L).1 (endS s at_ e L).2 q.1 q.2).off, (callR s (endS s at_ e L).1 (endS s at_ e L).2 q.1 q.2).err) := by
  induction L with
  | nil => intro at_ e; rfl
  | cons p L ih => intro at_ e; exact ih _ _
theorem runR_snoc (s : List UInt8) (L : List (Int × Int)) (q : Int × Int) : ∀ at_ e, runR s at_ e (L ++ [q]) = runR s at_ e L ++ [callR s (endS s at_ e L).1 (endS s at_ e L).2 q.1 q.2] := by
  induction L with
  | nil => intro at_ e; rfl
  | cons p L ih => intro at_ e; exact congrArg _ (ih _ _)
theorem runR_length (s : List UInt8) (L : List (Int × Int)) : ∀ at_ e, (runR s at_ e L).length = L.length := by
  induction L with
  | nil => intro at_ e; rfl
  | cons p L ih => intro at_ e; simp [runR, ih]
theorem endS_le {s : List UInt8} (L : List (Int × Int)) : ∀ {at_ : Nat} {e : Int}, at_ ≤ s.length → (endS s at_ e L).1 ≤ s.length := by
  induction L with
  | nil => intro at_ e h; exact h
  | cons p L ih => intro at_ e h; exact ih (callR_le h)

/-- 'append' of one struct of four cells to a slice of the call's own, the struct in a block just laid -/
theorem append4 {P : Program} (w : World) {ops : Array Oper} {rest : List Oper} {o : Oper} {a : Act} {Q : Exit → Act → World → Prop} (t e : TypeId) (z : Value) (bytes base : Nat)
    (ht : P.underlying t = some (.slice e)) (hi : (P.info? e).map (fun i => (i.zero, i.size, i.bytes)) = some (some z, 4, bytes)) (hzs : z.cells.size = 4)
    (hgd : o.guard = none) (s x : Operand) (ho : o.op = .call { callee := .builtin .append, args := #[s, x], argTypes := #[t, t] })
    (v : Value) (n : Nat) (xs : List Value) (c0 c1 c2 c3 : Value) (g : Nat) (hown : w.ownsRow base e 4 v n xs) (hs : a.eval s = v) (hx : a.eval x = .slice (some ⟨g, 0, none⟩) 1 1)
    (hb : Blk w g e #[c0, c1, c2, c3]) (hu : ∀ u ∈ [c0, c1, c2, c3], u.oneCell' = true) (hn : (n + 1) * bytes ≤ 140737488355328) (hm : n + 1 ≤ maxLen) (hbase : base ≤ w.heap.size)
    (h : ∀ v' w', w'.ownsRow base e 4 v' (n + 1) (xs ++ [c0, c1, c2, c3]) → w.grownBy w' v.ownBlock → wpList P ops Q rest (a.put o.dst v') w') : wpList P ops Q (o :: rest) a w := by
  obtain ⟨i, hi', h1, h2, h3⟩ := info_parts hi
  refine wpList_append_own w hgd s x t ho base e i z 4 bytes ht hi' h1 h2 h3 hzs (by decide) v n xs hs hown ⟨g, 0, none⟩ 1 1 [c0, c1, c2, c3] hx rfl ?_ hu hm hn hbase (fun v' w' a b _ => h v' w' a b)
  intro j y hj
  rw [Addr.add_lit, Nat.zero_add]
  rw [hb.cell j]
  simpa using hj
end Go.Proofs.Ytalailodnmfmlaa
