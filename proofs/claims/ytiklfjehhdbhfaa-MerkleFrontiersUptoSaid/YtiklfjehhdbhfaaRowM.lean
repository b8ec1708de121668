/-
  A row of the call's own whose block may bear a mark beyond its cells (what a conversion of a string to bytes leaves): it is appended to, stored into, and read back as a string. Conditions: none.
-/
import Derived.Test.YtiklfjehhdbhfaaStep
import Derived.Laws.CopyRow
import Derived.Laws.IdiomStrings
namespace Go.Proofs.Ytiklfjehhdbhfaa
set_option linter.unusedVariables false
open Go.RowKit

/-- no one of the first n cells is frozen -/
def Calm (fr : Nat × Nat) (n : Nat) : Prop := ∀ j, j < n → ¬ (fr.1 ≤ j ∧ j < fr.2)
theorem calm_frozen {w : World} {g : Nat} {cur : Array Value} {t : TypeId} {fr : Nat × Nat} (hg : w.heap[g]? = some (.cells cur t fr)) (hc : Calm fr cur.size) (j : Nat) (hj : j < cur.size) : w.frozen? ⟨g, j, none⟩ = false := by
  obtain ⟨lo, hi⟩ := fr
  have := hc j hj
  simp only [World.frozen?, hg]
  simp only at this
  by_cases h1 : lo ≤ j
  · have h2 : ¬ j < hi := fun h => this ⟨h1, h⟩
    simp [h2]
  · simp [h1]
theorem store_calm (P : Program) (g : Nat) (t : TypeId) (fr : Nat × Nat) : ∀ (news : List Value) (o k : Nat) (cur : Array Value) (w : World), w.heap[g]? = some (.cells cur t fr) → Calm fr cur.size → o + k + news.length ≤ cur.size → (∀ v ∈ news, v.oneCell' = true) →
    (storeCells ⟨g, o, none⟩ news k).run P w = .ok () (w.setRow g (cur.toList.take (o + k) ++ news ++ cur.toList.drop (o + k + news.length)).toArray) := by
  intro news
  induction news with
  | nil =>
    intro o k cur w hg _ _ _
    have h0 : (cur.toList.take (o + k) ++ [] ++ cur.toList.drop (o + k + ([] : List Value).length)).toArray = cur := by simp
    rw [h0, setRow_self w g cur t fr hg]
    rfl
  | cons x rest ih =>
    intro o k cur w hg hc hl h1
    have hlen : o + k < cur.size := by simp at hl; omega
    have ha : (⟨g, o, none⟩ : Addr).add k = ⟨g, o + k, none⟩ := Addr.add_lit g o k
    have hcell : w.cell? ⟨g, o + k, none⟩ = some cur[o + k] := by simp [World.cell?, hg, hlen]
    have hset := setRow_heap w g cur (cur.setIfInBounds (o + k) x) t fr hg
    have hs : (store ((⟨g, o, none⟩ : Addr).add k) x).run P w = .ok () (w.setRow g (cur.setIfInBounds (o + k) x)) := by
      rw [ha, run_store P w _ x _ (h1 x (by simp)), hcell]
      simp [calm_frozen hg hc (o + k) hlen, setCell_eq_setRow w g (o + k) cur t fr x hg]
    have hi := ih o (k + 1) (cur.setIfInBounds (o + k) x) _ hset (by rwa [Array.size_setIfInBounds]) (by simp at hl ⊢; omega) (fun y hy => h1 y (by simp [hy]))
    simp only [storeCells, Sem.run_bind, hs, Result.andThen_ok, hi, setRow_setRow]
    congr 3
    have e := list_seg_step cur.toList (o + k) x rest (by simp at hl ⊢; omega)
    simpa [Array.toList_setIfInBounds, Nat.add_assoc] using e
/-- the slice v owns the cells xs; a mark of its block lies beyond them -/
def OwnsM (w : World) (e : TypeId) (size : Nat) (v : Value) (n : Nat) (xs : List Value) : Prop :=
  xs.length = n * size ∧ ((v = .slice none 0 0 ∧ n = 0) ∨ ∃ g cap cur fr, v = .slice (some ⟨g, 0, none⟩) n cap ∧ w.heap[g]? = some (.cells cur e fr) ∧ Calm fr cur.size ∧ n ≤ cap ∧ cap ≤ maxLen ∧ cur.size = cap * size ∧ cur.toList.take (n * size) = xs)
section
variable {w w' : World} {e : TypeId} {size : Nat} {v : Value} {n : Nat} {xs : List Value}
theorem OwnsM.of (h : w.ownsRow 0 e size v n xs) : OwnsM w e size v n xs := by
  refine ⟨h.1, ?_⟩
  rcases h.2 with h2 | ⟨g, cap, cur, hv, _, hg, r⟩
  · exact .inl h2
  · exact .inr ⟨g, cap, cur, (0, 0), hv, hg, fun j _ h => by have := h.2; simp at this, r⟩
theorem OwnsM.lt (h : OwnsM w e size v n xs) : ∀ k, v.ownBlock = some k → k < w.heap.size := by
  intro k hk
  rcases h.2 with ⟨rfl, _⟩ | ⟨g, cap, cur, fr, rfl, hg, _⟩
  · simp [Value.ownBlock] at hk
  · simp [Value.ownBlock] at hk
    subst hk
    exact (Array.getElem?_eq_some_iff.1 hg).1
theorem OwnsM.mod {S : Nat → Prop} (h : OwnsM w e size v n xs) (hm : Mod S w w') (hv : ∀ k, v.ownBlock = some k → ¬ S k) : OwnsM w' e size v n xs := by
  refine ⟨h.1, ?_⟩
  have hlt := h.lt
  rcases h.2 with h2 | ⟨g, cap, cur, fr, rfl, hg, r⟩
  · exact .inl h2
  · exact .inr ⟨g, cap, cur, fr, rfl, (hm.block g (hlt g rfl) (hv g rfl)).trans hg, r⟩
theorem OwnsM.cells (h : OwnsM w e size v n xs) {g : Nat} (hg : v.ownBlock = some g) : ∀ j u, xs[j]? = some u → w.cell? ⟨g, j, none⟩ = some u := by
  intro j u hu
  rcases h.2 with ⟨rfl, _⟩ | ⟨g', cap, cur, fr, rfl, hh, _, _, _, _, ht⟩
  · simp [Value.ownBlock] at hg
  · simp [Value.ownBlock] at hg
    subst hg
    rw [cell_of_row w g' j cur e fr hh]
    rw [← ht, List.getElem?_take] at hu
    split at hu
    · simpa using hu
    · cases hu
theorem OwnsM.put {g cap : Nat} (h : OwnsM w e size (.slice (some ⟨g, 0, none⟩) n cap) n xs) (j : Nat) (u : Value) (hj : j < n * size) : OwnsM (w.setCell ⟨g, j, none⟩ u) e size (.slice (some ⟨g, 0, none⟩) n cap) n (xs.set j u) := by
  refine ⟨by rw [List.length_set]; exact h.1, ?_⟩
  rcases h.2 with ⟨he, _⟩ | ⟨g', cap', cur, fr, he, hg, hc, h1, h2, h3, h4⟩
  · cases he
  · injection he with e1 e2 e3
    injection e1 with e1
    injection e1 with e1
    subst e1 e3
    refine .inr ⟨g, cap, cur.setIfInBounds j u, fr, rfl, ?_, by rwa [Array.size_setIfInBounds], h1, h2, by rwa [Array.size_setIfInBounds], ?_⟩
    · rw [setCell_eq_setRow w g j cur e fr u hg]
      exact setRow_heap w g cur _ e fr hg
    · rw [Array.toList_setIfInBounds, List.take_set, h4]
theorem OwnsM.append {P : Program} (h : OwnsM w e size v n xs) (t ty : TypeId) (i : TypeInfo) (z : Value) (bytes : Nat) (ht : P.underlying t = some (.slice e)) (hi : P.info? e = some i) (hz : i.zero = some z) (hsize : i.size = size) (hby : i.bytes = bytes) (hzs : z.cells.size = size) (hsz : 0 < size)
    (a : Addr) (m c : Nat) (news : List Value) (hl : news.length = m * size) (hnews : ∀ j u, news[j]? = some u → w.cell? (a.add j) = some u) (h1 : ∀ u ∈ news, u.oneCell' = true) (h63 : n + m ≤ maxLen) (hbytes : (n + m) * bytes ≤ 140737488355328) :
    ∃ v' w', (Builtin.append_ #[t, t] ty #[v, .slice (some a) m c]).run P w = .ok v' w' ∧ OwnsM w' e size v' (n + m) (xs ++ news) ∧ w.grownBy w' v.ownBlock ∧ (v'.ownBlock = v.ownBlock ∨ v'.ownBlock = some w.heap.size) := by
  rcases h.2 with ⟨rfl, rfl⟩ | ⟨g, cap, cur, fr, rfl, hg, hc, hnc, hcm, hcs, htk⟩
  · obtain ⟨v', w', r1, r2, r3, _, r5⟩ := run_append_own_at (P := P) w 0 t ty e i z size bytes ht hi hz hsize hby hzs hsz (.slice none 0 0) 0 xs ⟨h.1, .inl ⟨rfl, rfl⟩⟩ a m c news hl hnews h1 h63 hbytes (Nat.zero_le _)
    exact ⟨v', w', r1, .of r2, r3, r5⟩
  · subst hsize
    subst hby
    have hlen : (xs ++ news).length = (n + m) * i.size := by rw [List.length_append, h.1, hl, Nat.add_mul]
    have h64 := h63
    unfold maxLen at h64
    by_cases hroom : n + m ≤ cap
    · have hfit : n * i.size + news.length ≤ cur.size := by rw [hl, hcs, ← Nat.add_mul]; exact Nat.mul_le_mul_right _ hroom
      have hf := run_firstCells_some (P := P) w i.size m a m c news hl hnews
      have hst := store_calm P g e fr news (n * i.size) 0 cur w hg hc (by simpa using hfit) h1
      simp only [Nat.add_zero] at hst
      have hrun : (Builtin.append_ #[t, t] ty #[.slice (some ⟨g, 0, none⟩) n cap, .slice (some a) m c]).run P w = .ok (.slice (some ⟨g, 0, none⟩) (n + m) cap) (w.setRow g (cur.toList.take (n * i.size) ++ news ++ cur.toList.drop (n * i.size + news.length)).toArray) := by
        simp [Builtin.append_, run_underlying ht, sizeOf, typeInfo, hi, Builtin.lenOf, hroom, hf, Addr.add_lit, hst]
      have hsz2 : (cur.toList.take (n * i.size) ++ news ++ cur.toList.drop (n * i.size + news.length)).toArray.size = cur.size := by
        simp only [List.size_toArray, List.length_append, List.length_take, List.length_drop, Array.length_toList]
        omega
      refine ⟨_, _, hrun, ⟨hlen, .inr ⟨g, cap, _, fr, rfl, setRow_heap w g cur _ e fr hg, by rwa [hsz2], hroom, hcm, by rw [hsz2, hcs], ?_⟩⟩, ⟨rfl, rfl, rfl, by simp, fun k _ hk => setRow_other w g k _ (fun e => hk (by simp [Value.ownBlock, e]))⟩, .inl rfl⟩
      rw [htk, ← hlen]
      exact List.take_left
    · have holds : ∀ j u, xs[j]? = some u → w.cell? ((⟨g, 0, none⟩ : Addr).add j) = some u := fun j u hj => by rw [Addr.add_lit, Nat.zero_add]; exact h.cells (g := g) rfl j u hj
      have hr := run_append_grow (P := P) w t ty e i z ht hi hz ⟨g, 0, none⟩ n cap xs h.1 holds a m c news hl hnews (by omega) (by omega) (growslice_fits (by omega) hbytes)
      have hge := grownCap_ge w (n + m) cap e
      have hcm2 := grownCap_le_maxLen w (n + m) cap e h63
      refine ⟨_, _, hr, .of ⟨hlen, .inr ⟨w.heap.size, _, _, rfl, Nat.zero_le _, heap_alloc_new w.drew _, hge, hcm2, ?_, ?_⟩⟩, ⟨rfl, rfl, rfl, by simp, fun k hk _ => Below.heap_alloc w.drew _ k hk⟩, .inr rfl⟩
      · simp only [Array.size_append, List.size_toArray, size_zeroCells, hzs, h.1, hl, ← Nat.add_mul]
        congr 1
        omega
      · simp only [Array.toList_append, List.append_assoc]
        rw [← List.append_assoc, ← hlen]
        exact List.take_left
end
/-- .. as a thing that is held -/
def ownM (e : TypeId) (size : Nat) (v : Value) (n : Nat) (xs : List Value) : Res where
  P w F := OwnsM w e size v n xs ∧ (∀ k, v.ownBlock = some k → F k) ∧ ∀ k, F k → k < w.heap.size
  lt h := h.2.2
  mod h hm hG := ⟨h.1.mod hm (fun k hk => hG k (h.2.1 k hk)), h.2.1, fun k hk => Nat.lt_of_lt_of_le (h.2.2 k hk) hm.size⟩
section
variable {lo : Nat} {w0 w w' : World} {Rs : List Res} {e : TypeId} {v v' : Value} {n size n' : Nat} {xs xs' : List Value}
theorem St.ownM (h : St lo w0 w (ownM e size v n xs :: Rs)) : OwnsM w e size v n xs := by
  obtain ⟨_, _, F, V, h1, _⟩ := h
  exact h1.1
theorem St.shiftM (h : St lo w0 w (Go.Proofs.Ytiklfjehhdbhfaa.ownM e size v n xs :: Rs)) (ho : OwnsM w' e size v' n' xs') (hg : w.grownBy w' v.ownBlock) (hat : v'.ownBlock = v.ownBlock ∨ v'.ownBlock = some w.heap.size) : St lo w0 w' (Go.Proofs.Ytiklfjehhdbhfaa.ownM e size v' n' xs' :: Rs) := by
  obtain ⟨F, h1, h2, h3⟩ := h.open
  have hm : Mod F w w' := (Mod.refl F w).grown hg (fun k hk _ => h1.2.1 k hk)
  refine h3 (F' := fun k => (F k ∨ w.heap.size ≤ k) ∧ k < w'.heap.size) _ hm ⟨ho, fun k hk => ⟨?_, ho.lt k hk⟩, fun k hk => hk.2⟩ (fun k hk => hk.1)
  rcases hat with e | e
  · exact .inl (h1.2.1 k (by rw [← e]; exact hk))
  · rw [e] at hk
    injection hk with hk
    subst hk
    exact .inr (Nat.le_refl _)
theorem St.newM (h : St lo w0 w Rs) (hb : Below w.heap.size w w') (ho : OwnsM w' e size v n xs) (hn : ∀ k, v.ownBlock = some k → w.heap.size ≤ k) : St lo w0 w' (Go.Proofs.Ytiklfjehhdbhfaa.ownM e size v n xs :: Rs) :=
  h.new (F := fun k => v.ownBlock = some k) hb ⟨ho, fun k hk => hk, fun k hk => ho.lt k hk⟩ hn
/-- one element more, in the block just laid -/
theorem appendOM {P : Program} {ops : Array Oper} {rest : List Oper} {o : Oper} {a : Act} {Q : Exit → Act → World → Prop} (t : TypeId) {z : Value} {bytes : Nat} {w : World} {u : Value} {te : TypeId}
    (h : St lo w0 w (Go.Proofs.Ytiklfjehhdbhfaa.ownM e 1 v n xs :: Rs)) (ht : P.underlying t = some (.slice e)) (hi : (P.info? e).map (fun i => (i.zero, i.size, i.bytes)) = some (some z, 1, bytes)) (hzs : z.cells.size = 1)
    (hgd : o.guard = none) (s x : Operand) (ho : o.op = .call { callee := .builtin .append, args := #[s, x], argTypes := #[t, t] })
    (hs : a.eval s = v) (hx : a.eval x = .slice (some ⟨w.heap.size, 0, none⟩) 1 1) (hu : u.oneCell' = true) (h63 : n + 1 ≤ maxLen) (hbytes : (n + 1) * bytes ≤ 140737488355328)
    (hk : ∀ v' w', St lo w0 w' (Go.Proofs.Ytiklfjehhdbhfaa.ownM e 1 v' (n + 1) (xs ++ [u]) :: Rs) → wpList P ops Q rest (a.put o.dst v') w') : wpList P ops Q (o :: rest) a (w.alloc (.cells #[u] te)) := by
  obtain ⟨i, hi', i1, i2, i3⟩ := info_parts hi
  refine wpList_plain hgd fun K hK => ?_
  have h2 := h.alloc0 (.cells #[u] te)
  obtain ⟨v', w', hr, r1, r2, r3⟩ := h2.ownM.append (P := P) t o.type i z bytes ht hi' i1 i2 i3 hzs (by decide) ⟨w.heap.size, 0, none⟩ 1 1 [u] rfl (fun j y hj => by
    match j, hj with
    | 0, hj => simp at hj; subst hj; exact (Blk.new w te #[_]).cell 0) (by intro y hy; simp at hy; subst hy; exact hu) h63 hbytes
  unfold Oper.wp execOp
  simp only [ho, resolve, invoke, builtin, Sem.run_bind, Sem.run_pure, Result.andThen_ok, List.map_toArray, List.map_cons, List.map_nil, hs, hx, hr]
  exact hK _ _ (hk v' w' (h2.shiftM r1 r2 r3))
end
theorem conv_ownM {P : Program} (src dst e : TypeId) (hs : P.underlying src = some (.slice e)) (he : P.underlying e = some (.int .u8)) (hd : P.underlying dst = some .string)
    (w : World) (v : Value) (n : Nat) (l : List UInt8) (hown : OwnsM w e 1 v n (vals l)) : (convert src dst v).run P w = .ok (.string ⟨l.toArray⟩) w := by
  have hl : l.length = n := by simpa [vals] using hown.1
  rcases hown.2 with ⟨rfl, rfl⟩ | ⟨g, cap, cur, fr, rfl, hg, _⟩
  · have : l = [] := List.eq_nil_of_length_eq_zero hl
    subst this
    exact run_convert_bytes_nil w src e hs he 0 0 dst hd
  · subst hl
    refine run_convert_bytes_back w src dst e ⟨g, 0, none⟩ cap l hs he hd fun j hj => ?_
    rw [Addr.add_lit, Nat.zero_add]
    exact hown.cells (g := g) rfl j (.int .u8 (l[j].toNat : Int)) (by simp [vals, hj])
/-- the bytes of a string, as a row of the call's own -/
theorem bytes_ownM {P : Program} (src dst e : TypeId) (hs : P.underlying src = some .string) (hd : P.underlying dst = some (.slice e)) (he : P.underlying e = some (.int .u8)) {lo : Nat} {w0 w : World} {Rs : List Res} (h : St lo w0 w Rs) (s : List UInt8) (hl : s.length ≤ maxLen) :
    ∃ v w', (convert src dst (.string ⟨s.toArray⟩)).run P w = .ok v w' ∧ (∃ c, v = .slice (some ⟨w.heap.size, 0, none⟩) s.length c) ∧ St lo w0 w' (ownM e 1 v s.length (vals s) :: Rs) := by
  have hr := run_bytes_of_string (P := P) w src dst e ⟨s.toArray⟩ hs hd he
  have hsz : (⟨s.toArray⟩ : ByteArray).size = s.length := bytes_size s
  rw [hsz] at hr
  refine ⟨_, _, hr, ⟨_, rfl⟩, h.newM ((Below.refl _ w).drew.alloc (Nat.le_refl _) _) ⟨by simp [vals], .inr ⟨w.heap.size, _, _, _, rfl, heap_alloc_new w.drew _, ?_, grownCap_ge w _ _ e, grownCap_le_maxLen w _ _ e hl, ?_, ?_⟩⟩ (fun k hk => by simp [Value.ownBlock] at hk; omega)⟩
  · intro j hj h2
    have := h2.1
    simp only at this
    omega
  · have hge := grownCap_ge w s.length 0 e
    simp [bytesRow]
    omega
  · have hge := grownCap_ge w s.length 0 e
    simp [bytesRow, vals]
end Go.Proofs.Ytiklfjehhdbhfaa
