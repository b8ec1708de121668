/-
  An append of one element to a row that is held, at a step of a region that draws its order. Conditions: none.
-/
import Derived.Test.YtiklfjehhdbhfaaSep
import Derived.Deep.AppendLies
import Derived.Deep.RegionHeld3
namespace Go.Proofs.Ytiklfjehhdbhfaa
set_option linter.unusedVariables false
open Go.RowKit
section
variable {lo : Nat} {w0 w w' : World} {Rs : List Res} {e : TypeId} {v : Value} {n size : Nat} {xs : List Value}
/-- what the row held is still read at its old place -/
theorem append_keep {P : Program} (w : World) (base : Nat) (t ty e : TypeId) (i : TypeInfo) (z : Value) (size bytes : Nat) (ht : P.underlying t = some (.slice e)) (hi : P.info? e = some i) (hz : i.zero = some z)
    (hsize : i.size = size) (hby : i.bytes = bytes) (g n cap : Nat) (xs : List Value) (hown : w.ownsRow base e size (.slice (some ⟨g, 0, none⟩) n cap) n xs)
    (a : Addr) (m c : Nat) (news : List Value) (hl : news.length = m * size) (hnews : ∀ j u, news[j]? = some u → w.cell? (a.add j) = some u) (h1 : ∀ u ∈ news, u.oneCell' = true)
    (h63 : n + m ≤ maxLen) (hbytes : (n + m) * bytes ≤ 140737488355328) (v' : Value) (w' : World) (hrun : (Builtin.append_ #[t, t] ty #[.slice (some ⟨g, 0, none⟩) n cap, .slice (some a) m c]).run P w = .ok v' w')
    (j : Nat) (u : Value) (hj : xs[j]? = some u) : w'.cell? ⟨g, j, none⟩ = some u := by
  subst hsize
  subst hby
  have h64 := h63
  unfold maxLen at h64
  rcases hown.2 with ⟨he, _⟩ | ⟨g', cap', cur, he, hb, hg, hnc, hcm, hcs, htake⟩
  · cases he
  · injection he with he1 he2 he3
    injection he1 with he1
    injection he1 with he1
    subst he1 he3
    by_cases hroom : n + m ≤ cap
    · have hfit : n * i.size + news.length ≤ cur.size := by rw [hl, hcs, ← Nat.add_mul]; exact Nat.mul_le_mul_right _ hroom
      have hr := run_append_room (P := P) w t ty e i ht hi g n cap cur hg a m c news hl hnews h1 hroom hfit
      rw [hr] at hrun
      injection hrun with _ hw
      rw [← hw, cell_setRow_same w g j cur _ e _ hg, htake]
      have hjl : j < xs.length := (List.getElem?_eq_some_iff.1 hj).1
      rw [List.getElem?_toArray, List.append_assoc, List.getElem?_append_left hjl, hj]
    · have holds : ∀ j u, xs[j]? = some u → w.cell? ((⟨g, 0, none⟩ : Addr).add j) = some u := hown.cells (g := g) rfl
      have hr := run_append_grow (P := P) w t ty e i z ht hi hz ⟨g, 0, none⟩ n cap xs hown.1 holds a m c news hl hnews (by omega) (by omega) (growslice_fits (by omega) hbytes)
      rw [hr] at hrun
      injection hrun with _ hw
      have := holds j u hj
      rw [Addr.add_lit, Nat.zero_add] at this
      rw [← hw]
      exact (World.cell?_of_block (Below.heap_alloc w.drew _ g (World.block_lt_of_cell? w _ this))).trans this
theorem appendS {P : Program} {w : World} {o : Oper} {a : Act} {K : Act → World → Prop} {Q : Exit → Act → World → Prop} (t : TypeId) {z : Value} {bytes : Nat}
    (h : St lo w0 w (ownR e size v n xs :: Rs)) (ht : P.underlying t = some (.slice e)) (hi : (P.info? e).map (fun i => (i.zero, i.size, i.bytes)) = some (some z, size, bytes)) (hzs : z.cells.size = size) (hsz : 0 < size)
    (s x : Operand) (ho : o.op = .call { callee := .builtin .append, args := #[s, x], argTypes := #[t, t] })
    (hs : a.eval s = v) (ad : Addr) (m c : Nat) (news : List Value) (hx : a.eval x = .slice (some ad) m c) (hl : news.length = m * size) (hnews : ∀ j u, news[j]? = some u → w.cell? (ad.add j) = some u) (h1 : ∀ u ∈ news, u.oneCell' = true)
    (hm : 0 < m) (h63 : n + m ≤ maxLen) (hbytes : (n + m) * bytes ≤ 140737488355328)
    (hk : ∀ g cap w', St lo w0 w' (ownR e size (.slice (some ⟨g, 0, none⟩) (n + m) cap) (n + m) (xs ++ news) :: Rs) → (∀ g0 c0, v = .slice (some ⟨g0, 0, none⟩) n c0 → ∀ j u, xs[j]? = some u → w'.cell? ⟨g0, j, none⟩ = some u) → w.grownBy w' v.ownBlock → K (a.put o.dst (.slice (some ⟨g, 0, none⟩) (n + m) cap)) w') :
    Oper.wp P o a w K Q := by
  obtain ⟨i, hi', i1, i2, i3⟩ := info_parts hi
  obtain ⟨g, cap, w', hr, h2, h3, h4, h5⟩ := run_append_lies (P := P) w t o.type 0 e i z size bytes ht hi' i1 i2 i3 hzs hsz v n xs h.own ad m c news hl hnews h1 hm h63 hbytes (Nat.zero_le _) w.heap.size rfl
  unfold Oper.wp execOp
  simp only [ho, resolve, invoke, builtin, Sem.run_bind, Sem.run_pure, Result.andThen_ok, List.map_toArray, List.map_cons, List.map_nil, hs, hx, hr]
  refine hk g cap w' (h.shift h2 h3 ?_) ?_ h3
  · rcases h4 with r3 | r3
    · left; rw [r3]; rfl
    · right; subst r3; rfl
  · intro g0 c0 hv j u hj
    subst hv
    exact append_keep w 0 t o.type e i z size bytes ht hi' i1 i2 i3 g0 n c0 xs h.own ad m c news hl hnews h1 h63 hbytes _ w' hr j u hj
/-- .. of one element, in the block just laid -/
theorem stepO {P : Program} {w : World} {ops : Array Oper} {o : Oper} {a : Act} {K : Act → World → Prop} {Q : Exit → Act → World → Prop} {E : Prop} (t : TypeId) {z : Value} {bytes : Nat} {u : Value} {te : TypeId}
    (h : St lo w0 w (ownR e 1 v n xs :: Rs)) (ht : P.underlying t = some (.slice e)) (hi : (P.info? e).map (fun i => (i.zero, i.size, i.bytes)) = some (some z, 1, bytes)) (hzs : z.cells.size = 1)
    (s x : Operand) (ho : o.op = .call { callee := .builtin .append, args := #[s, x], argTypes := #[t, t] }) (hgd : o.guard = none)
    (hs : a.eval s = v) (hx : a.eval x = .slice (some ⟨w.heap.size, 0, none⟩) 1 1) (hu : u.oneCell' = true) (h63 : n + 1 ≤ maxLen) (hbytes : (n + 1) * bytes ≤ 140737488355328)
    (hk : ∀ g cap w', St lo w0 w' (ownR e 1 (.slice (some ⟨g, 0, none⟩) (n + 1) cap) (n + 1) (xs ++ [u]) :: Rs) → (∀ g0 c0, v = .slice (some ⟨g0, 0, none⟩) n c0 → ∀ j u, xs[j]? = some u → w'.cell? ⟨g0, j, none⟩ = some u) → K (a.put o.dst (.slice (some ⟨g, 0, none⟩) (n + 1) cap)) w') :
    if Region.wanted o (yielded ops a.tmps) = true then Oper.wp P o a (w.alloc (.cells #[u] te)).drew K Q else E := by
  rw [if_pos (by unfold Region.wanted; rw [hgd])]
  refine appendS t (h.alloc0 _).drew ht hi hzs (by decide) s x ho hs ⟨w.heap.size, 0, none⟩ 1 1 [u] hx rfl ?_ ?_ (by decide) h63 hbytes (fun g cap w' r1 r2 _ => hk g cap w' r1 r2)
  · intro j y hj
    match j, hj with
    | 0, hj => simp at hj; subst hj; exact (Blk.new w te #[_]).cell 0
  · intro y hy; simp at hy; subst hy; exact hu
/-- .. of some elements, in the block just laid -/
theorem stepN {P : Program} {w : World} {ops : Array Oper} {o : Oper} {a : Act} {K : Act → World → Prop} {Q : Exit → Act → World → Prop} {E : Prop} (t : TypeId) {z : Value} {bytes m : Nat} (us : Array Value) {te : TypeId}
    (h : St lo w0 w (ownR e 1 v n xs :: Rs)) (ht : P.underlying t = some (.slice e)) (hi : (P.info? e).map (fun i => (i.zero, i.size, i.bytes)) = some (some z, 1, bytes)) (hzs : z.cells.size = 1)
    (s x : Operand) (ho : o.op = .call { callee := .builtin .append, args := #[s, x], argTypes := #[t, t] }) (hgd : o.guard = none)
    (hs : a.eval s = v) (hx : a.eval x = .slice (some ⟨w.heap.size, 0, none⟩) m m) (hm : us.size = m) (hm0 : 0 < m) (hu : ∀ u ∈ us.toList, u.oneCell' = true) (h63 : n + m ≤ maxLen) (hbytes : (n + m) * bytes ≤ 140737488355328)
    (hk : ∀ g cap w', St lo w0 w' (ownR e 1 (.slice (some ⟨g, 0, none⟩) (n + m) cap) (n + m) (xs ++ us.toList) :: Rs) → (∀ g0 c0, v = .slice (some ⟨g0, 0, none⟩) n c0 → ∀ j u, xs[j]? = some u → w'.cell? ⟨g0, j, none⟩ = some u) → K (a.put o.dst (.slice (some ⟨g, 0, none⟩) (n + m) cap)) w') :
    if Region.wanted o (yielded ops a.tmps) = true then Oper.wp P o a (w.alloc (.cells us te)).drew K Q else E := by
  rw [if_pos (by unfold Region.wanted; rw [hgd])]
  refine appendS t (h.alloc0 _).drew ht hi hzs (by decide) s x ho hs ⟨w.heap.size, 0, none⟩ m m us.toList hx (by simpa using hm) ?_ hu hm0 h63 hbytes (fun g cap w' r1 r2 _ => hk g cap w' r1 r2)
  intro j y hj
  rw [Addr.add_lit, Nat.zero_add]
  refine ((Blk.new w te us).cell j).trans ?_
  simpa using hj
end
end Go.Proofs.Ytiklfjehhdbhfaa
